/-
  The plain machine, that it is sound, and walks: part 4 (joined and shortened by a program of the prover's).
-/
import Derived.Test.YtmhbdebagfhimaaGreatDoorR3
import Derived.Test.YtmhbdebagfhimaaGreatDoorProg
import Derived.KernelRfl
set_option linter.unusedSimpArgs false
set_option linter.unusedVariables false
set_option linter.unusedSectionVars false
namespace Go.Proofs.YtmhbdebagfhimaaGreatDoor.T
open Go.Proofs.YtmhbdebagfhimaaGreatDoor.Am
set_option maxHeartbeats 16000000
def b3t(t:k7)(N:List Bool)(W:List Int)(i n:Nat):Prop:=∃(s:State) (k:Nat) (s':State),(j8 t)[i]?=some s∧W[i]?=some (k:Int)∧step t s k=some s'∧(j8 t).idxOf? s'=some n∧N[n]?=some true
structure HM(t:k7)(N:List Bool)(W:List Int)(q:Nat):Prop where
 ar:AR t N
 wl:W.length=(j8 t).length
 d:∃d:Nat→Nat,∀i,N[i]?=some true→d i≤q∧((∃s,(j8 t)[i]?=some s∧B8 t s=true)∨∃n,b3t t N W i n∧d n<d i)
structure HR(t:k7)(N:List Bool)(W:List Int)(R:List Bool)(V:List Int):Prop where
 ar:AR t R
 vl:V.length=(j8 t).length
 sub:∀i:Nat,N[i]?=some true→R[i]?=some true∧V[i]?=W[i]?
 new:∀i:Nat,R[i]?=some true→N[i]?=some true∨∃n,b3t t N V i n
theorem HR.start{t:k7}{N:List Bool}{W:List Int}{q:Nat}(h:HM t N W q):HR t N W N W:=⟨h.ar,h.wl,fun _ h=>⟨h,rfl⟩,fun _ h=>.inl h⟩
theorem HR.put{t:k7}{N R:List Bool}{W V:List Int}(h:HR t N W R V){i k n:Nat}{s':State}(l:AR t N)(hi:i<(j8 t).length)(a:R[i]?=some false)(hs:step t (j8 t)[i] k=some s')(b:(j8 t).idxOf? s'=some n)(c:N[n]?=some true):
 HR t N W (R.set i true) (V.set i (k:Int)):=by
 have d:i<V.length:=by rw[h.vl];exact hi
 have m:i<R.length:=by grind
 refine⟨h.ar.set hi hs b (h.sub n c).1,by simp[h.vl],fun j hj=>?_,fun j hj=>?_⟩
 . have e:i≠j:=fun e=>by
    subst e;rw[(h.sub i hj).1]at a;cases a
   rw[F4 e,F4 e];exact h.sub j hj
 . by_cases e:i=j
   . subst e;exact .inr ⟨n,_,k,s',l9 hi,E8 d,hs,b,c⟩
   . rw[F4 e]at hj;refine(h.new j hj).imp id fun⟨f,s,g,s2,a1,a2,a3,a4,a5⟩=>⟨f,s,g,s2,a1,by rw[F4 e];exact a2,a3,a4,a5⟩
theorem HR.done{t:k7}{N R:List Bool}{W V:List Int}{q:Nat}(h:HR t N W R V)(hm:HM t N W q):HM t R V (q+1):=by
 classical
 obtain⟨d,hd⟩:=hm.d;refine⟨h.ar,h.vl,fun i=>if N[i]?=some true then d i else q+1,fun i hi=>?_⟩;dsimp only;by_cases a:N[i]?=some true
 . rw[if_pos a];obtain⟨h1,b⟩:=hd i a;refine⟨j4,b.imp id fun⟨n,⟨s,k,s',a1,a2,a3,a4,a5⟩,c⟩=>⟨n,⟨s,k,s',a1,by rw[(h.sub i a).2];exact a2,a3,a4,(h.sub n a5).1⟩,?_⟩⟩;rw[if_pos a5];exact c
 . rw[if_neg a];refine⟨p7 _,.inr ?_⟩;obtain⟨n,s,k,s',a1,a2,a3,a4,a5⟩:=(h.new i hi).resolve_left a;refine⟨n,⟨s,k,s',a1,a2,a3,a4,(h.sub n a5).1⟩,?_⟩
   grind
structure b4p(t:k7)(W:List Int):Prop where
 wl:W.length=(j8 t).length
 d:∃d:Nat→Nat,∀i,(L8 t)[i]?=some true→d i≤3073∧((∃s,(j8 t)[i]?=some s∧B8 t s=true)∨∃n,b3t t (L8 t) W i n∧d n<d i)
theorem HM.ways{t:k7}(a:s7 t){N:List Bool}{W:List Int}{q:Nat}(h:HM t N W q)(b:q≤3073)(c:∀i,a3r t N i t.rules.length):b4p t W:=by have e:=h.ar.alive a c;obtain⟨d,hd⟩:=h.d;rw[e]at hd;exact⟨h.wl,d,fun i hi=>⟨U3 (hd i hi).1 b,(hd i hi).2⟩⟩
theorem c6w(t:k7)(d:s7 t):∃W,b4p t W∧F0 60 [1] [TP t] (.uslc (W.map I)):=by
 suffices aa:∃r,(∃W,b4p t W∧r=.uslc (W.map I))∧F0 60 [1] [TP t] r by obtain⟨r,⟨W,h1,rfl⟩,b⟩:=aa;exact⟨W,h1,b⟩
 refine a3u mixed (X:=X60) c60 16 (by simp[X60]) (by kernel_rfl) fun Q ab az=>?_;have ac:=b2o t d;have hle:=a1F d;have aA:=d.l64;have T:=fun s hs=>(a3g d (s:=s) hs).ok;simp[X60];refine l8 ac ?_;simp;refine I6 (fun(x:Nat×List Bool×List Int) vs h=>x.1≤(j8 t).length∧x.2.1=((j8 t).take x.1).map (B8 t)∧x.2.2=List.replicate x.1 (-1)∧
  vs=[.uu,.ptr 11 1 0,.uu,.slc (F9 (j8 t)),.own 12 1 x.2.2.length 1 0 x.2.2.length,.own 13 1 x.2.1.length 1 0 x.2.1.length,IN x.1,.uu,.uu,.uu,.uu,.uu,.uu,.uu,.uu,.uu,.uu,.uu]∧
  h=[dd,dd,dd,dd,dd,dd,dd,dd,dd,dd,dd,(1,.var [IN t.modes,UN t.accept,.slc (t.rules.map RP)]),(1,.arr 1 0 false (x.2.2.map I)),(1,.arr 1 0 false (x.2.1.map B)),dd,dd]) (fun x=>(j8 t).length-x.1) (0,[],[]) ?_ ?_
 . simp
 . rintro⟨i,A,W⟩ vs h ⟨g1,g2,g3,rfl,rfl⟩ Q' ad ae aB;dsimp only at g1 g2 g3;by_cases hi:i<(j8 t).length
   . have hw:=wk1 i j4;have af:=b0F t (j8 t)[i] d.ok (T _ (C4 hi));obtain⟨A2,E⟩:=Q8 (A++[B8 t (j8 t)[i]]);have y:A.map B++[B (B8 t (j8 t)[i])]=A2.map B:=(by rw[←E];simp);have z:A.length+1=A2.length:=(by rw[←E];simp);have C:A2=((j8 t).take (i+1)).map (B8 t):=(by rw[←E,g2,J5,l9 hi,S0];rfl);have F:A2.length=i+1:=(by grind);have ag:A2.length≤140737488355328:=j4;obtain⟨W2,G⟩:=Q8 (W++[-1]);have f1:W.map I++[I (-1)]=W2.map I:=(by rw[←G];simp);have f2:W.length+1=W2.length:=(by rw[←G];simp);have f3:W2=List.replicate (i+1) (-1):=(by rw[←G,g3,List.replicate_succ']);have f4:W2.length*8≤140737488355328:=(by grind);simp[hi,f1,f2,f4];refine l8 af ?_;simp[hw,hi,y,z,ag];refine ad (i+1,A2,W2) _ _ j4 ?_;simp;exact⟨j4,by simpa using C,f3⟩
   . obtain rfl:i=(j8 t).length:=j4;rw[K8]at g2;have H:=AR.init t;rw[←g2]at H;simp;refine ae _ _ _ ?_;have ah:HM t A W 0:=⟨H,by rw[g3];simp,fun _=>0,fun i hi=>⟨p7 _,.inl (by
      rw[g2,H6]at hi;obtain⟨s,h1,b⟩:=C9.1 hi;exact⟨s,h1,b⟩)⟩⟩
     simp;refine I6 (fun(x:List Bool×List Int×Bool×Nat) vs h=>HM t x.1 x.2.1 x.2.2.2∧(x.2.2.1=false→∀i,a3r t x.1 i t.rules.length)∧x.2.2.2+x.1.count false+x.2.2.1.toNat≤(j8 t).length+1∧
      vs=[.uu,.ptr 11 1 0,.uu,.slc (F9 (j8 t)),.own 12 1 x.2.1.length 1 0 x.2.1.length,.own 13 1 x.1.length 1 0 x.1.length,.uu,B x.2.2.1,.uu,.uu,.uu,.uu,.uu,.uu,.uu,.uu,.uu,.uu]∧
      h=[dd,dd,dd,dd,dd,dd,dd,dd,dd,dd,dd,(1,.var [IN t.modes,UN t.accept,.slc (t.rules.map RP)]),(1,.arr 1 0 false (x.2.1.map I)),(1,.arr 1 0 false (x.1.map B)),dd,dd]) (fun x=>2*x.1.count false+x.2.2.1.toNat) (A,W,true,0) ?_ ?_
     . simp;refine⟨ah,?_⟩;have:=List.count_le_length (a:=false) (l:=A);have:=H.len;omega
     . rintro⟨N,W1,g,q⟩ vs h ⟨r1,r2,r3,rfl,rfl⟩ Q2 ai aj aC;dsimp only at r1 r2 r3;cases g
       . have j:=r1.ways d j4 (r2 rfl);simp;refine aj _ _ _ ?_;simp;refine ab _ _ _ ⟨W1,j,rfl⟩ ?_;simp[X60]
       . have aD:=r1.ar.len;have ak:N.length≤140737488355328:=j4;simp[ak];refine I6 (fun(x:Nat×List Bool×List Int×Bool) vs h=>x.1≤(j8 t).length∧HR t N W1 x.2.1 x.2.2.1∧(x.2.2.2=false→x.2.1=N∧∀i,i<x.1→a3r t N i t.rules.length)∧(x.2.2.2=true→x.2.1.count false<N.count false)∧
          vs=[.uu,.ptr 11 1 0,.uu,.slc (F9 (j8 t)),.own 12 1 x.2.2.1.length 1 0 x.2.2.1.length,.own 13 1 N.length 1 0 N.length,.uu,B x.2.2.2,.own 14 1 x.2.1.length 1 0 x.2.1.length,IN x.1,.uu,.uu,.uu,.uu,.uu,.uu,.uu,.uu]∧
          h=[dd,dd,dd,dd,dd,dd,dd,dd,dd,dd,dd,(1,.var [IN t.modes,UN t.accept,.slc (t.rules.map RP)]),(1,.arr 1 0 false (x.2.2.1.map I)),(1,.arr 1 0 false (N.map B)),(1,.arr 1 0 false (x.2.1.map B)),dd]) (fun x=>(j8 t).length-x.1) (0,N,W1,false) ?_ ?_
         . simp;exact HR.start r1
         . rintro⟨i,R,V,g⟩ vs h ⟨al,D,o,J,rfl,rfl⟩ Q3 am an aE;dsimp only at al D o J;have aF:=D.ar.len;by_cases hi:i<(j8 t).length
           . have hw:=wk1 i j4;simp[hi];refine I6 (fun(x:Nat×List Bool×List Int×Bool) vs h=>x.1≤t.rules.length∧HR t N W1 x.2.1 x.2.2.1∧(x.2.2.2=false→x.2.1=N∧(∀p,p<i→a3r t N p t.rules.length)∧a3r t N i x.1)∧(x.2.2.2=true→x.2.1.count false<N.count false)∧
              vs=[.uu,.ptr 11 1 0,.uu,.slc (F9 (j8 t)),.own 12 1 x.2.2.1.length 1 0 x.2.2.1.length,.own 13 1 N.length 1 0 N.length,.uu,B x.2.2.2,.own 14 1 x.2.1.length 1 0 x.2.1.length,IN i,IN x.1,.uu,.uu,.uu,.uu,.uu,.uu,.uu]∧
              h=[dd,dd,dd,dd,dd,dd,dd,dd,dd,dd,dd,(1,.var [IN t.modes,UN t.accept,.slc (t.rules.map RP)]),(1,.arr 1 0 false (x.2.2.1.map I)),(1,.arr 1 0 false (N.map B)),(1,.arr 1 0 false (x.2.1.map B)),dd]) (fun x=>t.rules.length-x.1) (0,R,V,g) ?_ ?_
             . simp;refine⟨D,fun e=>⟨(o e).1,(o e).2,fun _ _ k s' n m=>absurd m j4⟩,J⟩
             . rintro⟨k,R3,V3,g3⟩ vs h ⟨ao,f,c,p4,rfl,rfl⟩ Q4 K ap aG;dsimp only at ao f c p4;have aH:=f.ar.len;have aI:=f.vl;have u:i<R3.length:=j4;have aq:i<V3.length:=j4;have v:=a6D t (j8 t)[i] k d.ok (T _ (C4 hi)) j4;have ar:(g3=false→a3r t N i t.rules.length)→Q4 (.exit 6) [.uu,.ptr 11 1 0,.uu,.slc (F9 (j8 t)),.own 12 1 V3.length 1 0 V3.length,.own 13 1 N.length 1 0 N.length,.uu,B g3,.own 14 1 R3.length 1 0 R3.length,IN i,IN k,.uu,.uu,.uu,.uu,.uu,B false,.uu] [dd,dd,dd,dd,dd,dd,dd,dd,dd,dd,dd,(1,.var [IN t.modes,UN t.accept,.slc (t.rules.map RP)]),(1,.arr 1 0 false (V3.map I)),(1,.arr 1 0 false (N.map B)),(1,.arr 1 0 false (R3.map B)),dd]:=fun aJ=>by
                refine ap _ _ _ ?_;simp[hw];refine am (i+1,R3,V3,g3) _ _ j4 ?_;simp;refine⟨j4,f,fun e=>⟨(c e).1,fun p aK=>?_⟩,p4⟩;by_cases b:p<i
                . exact(c e).2.1 p b
                . grind
               by_cases m:k<t.rules.length
               . have L:=wk1 k j4;cases j:R3[i]
                 . cases hs:step t (j8 t)[i] k with
                   |none=>
                    simp only[a1C,hs]at v;simp[m,u,j,hi];refine l8 v ?_;simp[L];refine K (k+1,R3,V3,g3) _ _ j4 ?_;simp;refine⟨j4,f,fun e=>⟨(c e).1,(c e).2.1,fun h1 b w s' n au M O=>?_⟩,p4⟩;by_cases P:w<k
                    . exact(c e).2.2 h1 b w s' n P M O
                    . grind
                   |some s'=>
                    obtain⟨n,U,aL⟩:=a0S d (a0g d (C4 hi) hs);have S:=a9i (j8 t) s' j4;rw[U]at S;have Y:n<N.length:=(by grind);simp only[a1C,hs]at v;cases hb:N[n]
                    . simp[m,u,j,hi];refine l8 v ?_;simp;refine l8 S ?_;simp[Y,hb,L];refine K (k+1,R3,V3,g3) _ _ j4 ?_;simp;refine⟨j4,f,fun e=>⟨(c e).1,(c e).2.1,fun h1 b w s2 av au M O=>?_⟩,p4⟩;by_cases P:w<k
                      . exact(c e).2.2 h1 b w s2 av P M O
                      . grind
                    . have Z:=f.put r1.ar hi (by grind) hs U (by grind);have aw:=b1i (A:=R3) (i:=i) (by grind);have y:(R3.map B).set i (.bool true)=(R3.set i true).map B:=(by rw[L6]);have z:(R3.set i true).length=R3.length:=k8;have C:(V3.map I).set i (IN k)=(V3.set i (k:Int)).map I:=(by rw[L6]);have F:(V3.set i (k:Int)).length=V3.length:=k8;obtain⟨R4,ax⟩:∃R4,R3.set i true=R4:=⟨_,rfl⟩
                      obtain⟨V4,ay⟩:∃V4,V3.set i (k:Int)=V4:=⟨_,rfl⟩
                      rw[ax]at y z Z aw;rw[ay]at C F Z;simp[m,u,j,hi];refine l8 v ?_;simp;refine l8 S ?_;simp[Y,hb,L,u,aq,y,C];refine K (k+1,R4,V4,true) _ _ j4 ?_;simp[z,F]
                      grind
                 . simp[m,u,j];refine ar fun e=>?_;obtain⟨h1,_,_⟩:=c e;intro _ aM
                   grind
               . obtain rfl:k=t.rules.length:=j4;simp
                 grind
           . obtain rfl:i=(j8 t).length:=j4;simp;refine an _ _ _ ?_;simp;refine ai (R,V,g,q+1) _ _ ?_ ?_
             . dsimp only;cases g
               all_goals grind
             . simp;refine⟨D.done r1,fun e i=>?_,by
                simp at r3;cases g
                . rw[(o rfl).1];simp;omega
                . have:=J rfl;simp;omega⟩
               obtain⟨h1,b⟩:=o e;rw[h1];by_cases hi:i<(j8 t).length
               . exact b i hi
               . exact fun h=>absurd h hi
structure b4Q(t:k7)(p:List Nat):Prop where
 run:∃s,E5 t start p=some s∧B8 t s=true
 len:p.length≤5000
theorem a8e{t:k7}{n:Nat}{s:State}(h:(j8 t)[n]?=some s):(L8 t)[n]?=some true↔Live t s:=by
 classical
 simp only[L8,H6,h,a2Y,s5,decide_eq_true_eq]
theorem d0F(t:k7):(L8 t).length=(j8 t).length:=by simp[L8]
open Classical in
noncomputable def a3v(t:k7)(s:State)(k:Nat):Bool:=match step t s k with
 |some nx=>decide (Live t nx)
 |none=>false
noncomputable def a0L(t:k7)(s:State)(k:Nat):List Nat:=(List.range k).filter (a3v t s)
theorem c7J(t:k7)(s:State)(k:Nat):a0L t s (k+1)=if a3v t s k then a0L t s k++[k]else a0L t s k:=by unfold a0L;rw[a2F,b2d,List.filter_cons,List.filter_nil];split<;>simp
theorem c0t(t:k7)(s:State)(k:Nat):(a0L t s k).length≤k:=by have:=List.length_filter_le (a3v t s) (List.range k);simpa[a0L]using this
theorem d0K(t:k7)(a:s7 t)(l:List Nat)(aX:l.length≤9223372036854775807)(aA:∀x∈l,x<256):
 ∃p b,(b=true→b4Q t p)∧(b=false→p=[]∧¬Live t start)∧F0 25 [1,0] [TP t,CL l] (.tup [.uslc (p.map IN),B b]):=by
 suffices aB:∃r,(∃(p:List Nat) (b:Bool),(b=true→b4Q t p)∧(b=false→p=[]∧¬Live t start)∧r=.tup [.uslc (p.map IN),B b])∧F0 25 [1,0] [TP t,CL l] r by obtain⟨r,⟨p,b,h1,aC,rfl⟩,ab⟩:=aB;exact⟨p,b,h1,aC,ab⟩
 refine a3u mixed (X:=X25) c25 20 (by simp[X25]) (by kernel_rfl) fun Q ac aY=>?_;obtain⟨W,ad,aD⟩:=c6w t a;have hle:=a1F a;have aZ:=a.l64;have a0:=a2J a;have J:=a2t a;have a6:=d0F t;have a7:=ad.wl;have h0:0<(L8 t).length:=j4;have ae:(L8 t)[0]=true↔Live t start:=by have:=a8e J;rw[l9 h0,s5]at this;exact this
 simp[X25];refine l8 (b2o t a) ?_;simp;refine l8 (c3r t a) ?_;simp;refine l8 aD ?_;simp[h0];cases hb:(L8 t)[0]
 . simp;refine ac _ _ _ ⟨[],false,k8,(fun _=>⟨rfl,fun h=>by rw[ae.2 h]at hb;cases hb⟩),rfl⟩ ?_;simp[X25]
 . have aE:=ae.1 hb;simp;refine l8 b5b ?_;simp;refine I6 (fun(x:Nat×List Nat×State×Nat) vs h=>x.1≤10∧x.1≤l.length∧x.2.1.length=x.1∧E5 t start x.2.1=some x.2.2.1∧Live t x.2.2.1∧x.2.2.2≤4*x.1∧
    vs=[.uu,CL l,.ptr 15 1 0,.uu,.uu,.slc (F9 (j8 t)),.slc ((L8 t).map B),.slc (W.map I),.own 16 1 x.2.1.length 1 0 x.2.1.length,.ptr 17 1 0,IN x.2.2.2,IN x.1,.uu,.uu,.uu,.uu,.uu,.uu,.uu,.uu,.uu,.uu,.uu,.uu]∧
    h=[dd,dd,dd,dd,dd,dd,dd,dd,dd,dd,dd,dd,dd,dd,dd,(1,.var [IN t.modes,UN t.accept,.slc (t.rules.map RP)]),(1,.arr 1 0 false (x.2.1.map IN)),(1,.var [IN x.2.2.1.mode,IN x.2.2.1.last,UN x.2.2.1.need]),dd,dd]) (fun x=>10-x.1) (0,[],start,0) ?_ ?_
   . simp;exact⟨rfl,aE⟩
   . rintro⟨i,p,s,size⟩ vs h ⟨g1,g2,g3,g4,g5,g6,rfl,rfl⟩ Q' aF aG a8;dsimp only at g1 g2 g3 g4 g5 g6;have K:=b3Y a (D0 J) g4;have af:=a3g a K;have D:∀ag ah ai aj ak al,Q' (.exit 0) [.uu,CL l,.ptr 15 1 0,.uu,.uu,.slc (F9 (j8 t)),.slc ((L8 t).map B),.slc (W.map I),.own 16 1 p.length 1 0 p.length,.ptr 17 1 0,IN size,IN i,ag,ah,.uu,.uu,.uu,.uu,.uu,ai,aj,.uu,ak,.uu]
      [dd,dd,dd,dd,dd,dd,dd,dd,dd,dd,dd,dd,dd,dd,dd,(1,.var [IN t.modes,UN t.accept,.slc (t.rules.map RP)]),(1,.arr 1 0 false (p.map IN)),(1,.var [IN s.mode,IN s.last,UN s.need]),al,dd]:=fun ag ah ai aj ak al=>by
      refine aG _ _ _ ?_;obtain⟨d,hd⟩:=ad.d;obtain⟨aH,m1,m2⟩:=a0S a K;have a9:=(hd aH ((a8e m2).2 g5)).1;simp;refine I6 (fun(x:List Nat×State) vs h=>E5 t start x.1=some x.2∧Live t x.2∧x.1.length+d (((j8 t).idxOf? x.2).getD 0)≤3083∧
       vs=[.uu,.uu,.ptr 15 1 0,.uu,.uu,.slc (F9 (j8 t)),.uu,.slc (W.map I),.own 16 1 x.1.length 1 0 x.1.length,.ptr 17 1 0,.uu,.uu,.uu,.uu,.uu,.uu,.uu,.uu,.uu,.uu,.uu,.uu,.uu,.uu]∧
       h=[dd,dd,dd,dd,dd,dd,dd,dd,dd,dd,dd,dd,dd,dd,dd,(1,.var [IN t.modes,UN t.accept,.slc (t.rules.map RP)]),(1,.arr 1 0 false (x.1.map IN)),(1,.var [IN x.2.mode,IN x.2.last,UN x.2.need]),dd,dd]) (fun x=>d (((j8 t).idxOf? x.2).getD 0)) (p,s) ?_ ?_
      . simp[m1];exact⟨g4,g5,j4⟩
      . rintro⟨E,s2⟩ vs h ⟨q,am,L,rfl,rfl⟩ Q2 u M aI;dsimp only at q am L;have an:=b3Y a (D0 J) q;have ao:=a3g a an;have F:=b0F t s2 a.ok ao.ok;obtain⟨n,N,G⟩:=a0S a an;have o:=a9i (j8 t) s2 j4;rw[N]at o L;simp only[a4L]at L;cases O:B8 t s2
        . rw[O]at F;obtain⟨_,aJ⟩:=hd n ((a8e G).2 am);rcases aJ with⟨aK,ab,ba⟩|⟨bb,⟨aK,k,ap,a1,a2,a3,a4,a5⟩,bc⟩
          . grind
          . rw[G]at a1;cases a1;obtain⟨aL,aM⟩:=c0a a4;have aq:=(a8e (l9 aL)).1 a5;rw[aM]at aq;have aN:n<W.length:=(C0.1 a2).1;have aO:W[n]=(k:Int):=(by grind);have c:=a6D t s2 k a.ok ao.ok (by have:=a2B a3;omega);simp only[a1C,a3]at c;obtain⟨f,g⟩:=Q8 (E++[k]);have v:E.map IN++[IN k]=f.map IN:=(by rw[←g];simp);have w:E.length+1=f.length:=(by rw[←g];simp);have z:f.length*8≤140737488355328:=j4;have P:E5 t start f=some ap:=(by rw[←g,a5N,q];simp[E5,a3]);simp;refine l8 F ?_;simp;refine l8 o ?_;simp[aN,aO,v,w,z];refine l8 c ?_;simp;refine u (f,ap) _ _ (by grind) ?_;simp[a4];exact⟨P,aq,j4⟩
        . rw[O]at F;simp;refine l8 F ?_;simp;refine M _ _ _ ?_;simp;refine ac _ _ _ ⟨E,true,fun _=>⟨⟨s2,q,O⟩,j4⟩,k8,rfl⟩ ?_;simp[X25]
     by_cases hi:i<l.length
     . by_cases R:i<10
       . by_cases ar:size≤10
         . have aP:=wk1 i j4;simp[hi,R,ar];refine I6 (fun(k:Nat) vs h=>k≤t.rules.length∧
            vs=[.uu,CL l,.ptr 15 1 0,.uu,.uu,.slc (F9 (j8 t)),.slc ((L8 t).map B),.slc (W.map I),.own 16 1 p.length 1 0 p.length,.ptr 17 1 0,IN size,IN i,.own 18 1 (a0L t s k).length 1 0 (a0L t s k).length,IN k,.uu,.uu,.uu,.uu,.uu,.uu,.uu,.uu,.uu,.uu]∧
            h=[dd,dd,dd,dd,dd,dd,dd,dd,dd,dd,dd,dd,dd,dd,dd,(1,.var [IN t.modes,UN t.accept,.slc (t.rules.map RP)]),(1,.arr 1 0 false (p.map IN)),(1,.var [IN s.mode,IN s.last,UN s.need]),(1,.arr 1 0 false ((a0L t s k).map IN)),dd]) (fun k=>t.rules.length-k) 0 ?_ ?_
           . simp[a0L]
           . rintro k vs h ⟨q,rfl,rfl⟩ Q2 u M aI;by_cases S:k<t.rules.length
             . have T:=wk1 k j4;have c:=a6D t s k a.ok af.ok j4;have j:=c7J t s k;have bd:=c0t t s k;cases hs:step t s k with
               |none=>
                have A:a3v t s k=false:=(by simp[a3v,hs]);rw[if_neg (by simp[A])]at j;simp only[a1C,hs]at c;simp[S];refine l8 c ?_;simp[T];refine u (k+1) _ _ j4 ?_;simp[j];omega
               |some nx=>
                obtain⟨n,N,G⟩:=a0S a (a0g a K hs);have o:=a9i (j8 t) nx j4;rw[N]at o;have U:n<(L8 t).length:=(by grind);have V:=a8e G;rw[l9 U,s5]at V;simp only[a1C,hs]at c;cases C:(L8 t)[n]
                . have A:a3v t s k=false:=by
                   simp only[a3v,hs,decide_eq_false_iff_not];intro h;rw[V.2 h]at C;cases C
                  rw[if_neg (by simp[A])]at j;simp[S];refine l8 c ?_;simp;refine l8 o ?_;simp[T,U,C];refine u (k+1) _ _ j4 ?_;simp[j];omega
                . have A:a3v t s k=true:=by
                   simp only[a3v,hs,decide_eq_true_eq];exact V.1 C
                  rw[if_pos A]at j;have v:(a0L t s k).map IN++[IN k]=(a0L t s (k+1)).map IN:=(by rw[j];simp);have w:(a0L t s k).length+1=(a0L t s (k+1)).length:=(by rw[j];simp);have z:(a0L t s (k+1)).length*8≤140737488355328:=j4;simp[S];refine l8 c ?_;simp;refine l8 o ?_;simp[T,U,C,v,w,z];refine u (k+1) _ _ j4 ?_;simp;omega
             . obtain rfl:k=t.rules.length:=j4;simp;refine M _ _ _ ?_;cases au:a0L t s t.rules.length with
               |nil=>
                simp;exact D _ _ _ _ _ _
               |cons f0 be=>
                rw[←au];have H:0<(a0L t s t.rules.length).length:=(by rw[au];simp);have bf:=aA _ (C4 hi);have aQ:IntKind.i64.wrap (l[i]:Int)=(l[i]:Int):=T3;have Y:((l[i]:Int)).tmod ((a0L t s t.rules.length).length:Int)=((l[i]%(a0L t s t.rules.length).length:Nat):Int):=rfl;have Z:=Nat.mod_lt l[i] H;have aR:=c0t t s t.rules.length;obtain⟨fit,av⟩:=Q8 (a0L t s t.rules.length);rw[av]at H Y Z aR⊢;have aS:¬fit=[]:=fun e=>(by rw[e]at H;simp at H);have aT:¬fit.length=0:=j4;obtain⟨m,hm⟩:=Q8 (l[i]%fit.length);rw[hm]at Z Y;obtain⟨y,aU⟩:=Q8 (fit[m]);have aw:y∈fit:=(by grind);have ax:a3v t s y=true:=by rw[←av]at aw;exact(a7U.1 aw).2
                obtain⟨s2,aa,aV⟩:∃s2,step t s y=some s2∧Live t s2:=by
                 cases ay:step t s y with
                 |none=>simp[a3v,ay]at ax
                 |some s2=>exact⟨s2,rfl,by simpa[a3v,ay]using ax⟩
                obtain⟨az,bg⟩:=b8M aa;have c:=a6D t s y a.ok af.ok j4;simp only[a1C,aa]at c;have bh:=(a.snd (C4 az)).p4;have aW:IntKind.i64.wrap ((size:Int)+(t.rules[y].print.length:Nat))=((size+t.rules[y].print.length:Nat):Int):=T3;obtain⟨f,g⟩:=Q8 (p++[y]);have v:p.map IN++[IN y]=f.map IN:=(by rw[←g];simp);have w:p.length+1=f.length:=(by rw[←g];simp);have z:f.length*8≤140737488355328:=j4;have P:E5 t start f=some s2:=(by rw[←g,a5N,g4];simp[E5,aa]);simp[aS,aT,hi,aQ,Y,Z,aU,v,w,z,az,aW];refine l8 c ?_;simp[aP];refine aF (i+1,f,s2,size+t.rules[y].print.length) _ _ j4 ?_;simp;exact⟨j4,j4,j4,P,aV,j4⟩
         . simp[hi,R,ar];exact D _ _ _ _ _ _
       . simp[hi,R];exact D _ _ _ _ _ _
     . simp[hi];exact D _ _ _ _ _ _
set_option maxHeartbeats 8000000
theorem c7L(t:k7)(a:s7 t)(p:List Nat)(s:State)(hp:p.length≤1000000)(hr:E5 t start p=some s):F0 26 [0,1,0,0,0,0,0] [TP t,.slc (p.map IN)] (TrP (J8 t p) (C5 t p) p.length s (B8 t s)):=by
 refine E1 c26 11 (by simp[X26]) fun Q o G=>?_;simp[X26];refine l8 b5b ?_;simp;refine I6 (fun(x:Nat×State) vs h=>x.1≤p.length∧E5 t start (p.take x.1)=some x.2∧
  vs=[.uu,.slc (p.map IN),.ptr 5 1 0,.ptr 6 1 0,.ptr 7 1 0,IN x.1,.uu,.uu,.uu,.uu]∧
  h=[dd,dd,dd,dd,dd,(1,.var [IN t.modes,UN t.accept,.slc (t.rules.map RP)]),(1,.var [St [],.nils,I 0,I 0,I 0,U 0,B false]),(1,.var [St (J8 t (p.take x.1)),.own 8 1 (C5 t (p.take x.1)).length 1 0 (C5 t (p.take x.1)).length,IN x.1,IN x.2.mode,IN x.2.last,UN x.2.need,B false]),(1,.arr 1 0 false ((C5 t (p.take x.1)).map UN)),dd,dd])
  (fun x=>p.length-x.1) (0,start) ?_ ?_
 . simp[J8,C5,E5]
 . rintro⟨i,b⟩ vs h ⟨g1,g2,rfl,rfl⟩ Q' q r H;dsimp only at g1 g2;by_cases hi:i<p.length
   . have hw:=wk1 i j4;obtain⟨e,h1,J⟩:=c4G hr (i+1);have c:p.take (i+1)=p.take i++[p[i]]:=(by rw[J5,l9 hi];rfl);have f:step t b p[i]=some e:=by
      rw[c,a5N,g2]at h1;simp only[a5X,E5]at h1;obtain⟨s2,u,v⟩:=X1.1 h1;cases v;exact u
     obtain⟨w,g⟩:=b8M f;have d:a2d b:=b3F a b3L g2;have j:=a6D t b p[i] a.ok d.ok (by have:=a.l64;omega);simp only[a1C,f]at j;have k:J8 t (p.take (i+1))=J8 t (p.take i)++t.rules[p[i]].print:=(by rw[c,b7g];simp only[J8,a2Z,List.flatMap_nil,a1v,g]);have y:C5 t (p.take (i+1))=C5 t (p.take i)++t.rules[p[i]].cells:=(by rw[c,b0n];simp only[C5,a2Z,List.flatMap_nil,a1v,g]);have bt:=b3o a (p.take (i+1));have l:=b4r a (p.take (i+1));simp only[a1V]at bt l;obtain⟨T2,m⟩:=Q8 (J8 t (p.take (i+1)));obtain⟨C2,n⟩:=Q8 (C5 t (p.take (i+1)));rw[m]at k bt;rw[n]at y l;have z:(J8 t (p.take i)).length+t.rules[p[i]].print.length=T2.length:=(by grind);have A:(C5 t (p.take i)).map UN++t.rules[p[i]].cells.map UN=C2.map UN:=(by grind);have C:(C5 t (p.take i)).length+t.rules[p[i]].cells.length=C2.length:=(by grind);have D:¬9223372036854775807<T2.length:=j4;have E:C2.length≤140737488355328:=j4;simp[hi];refine l8 j ?_;simp[hi,hw,w,z,A,C,D,E,←k];refine q (i+1,e) _ _ j4 ?_;simp[m,n,h1];omega
   . obtain rfl:i=p.length:=j4;simp;refine r _ _ _ ?_;rw[K8]at g2;rw[hr]at g2;cases g2;have d:a2d s:=b3F a b3L hr;have F:=b0F t s a.ok d.ok;simp;refine l8 F ?_;simp;refine o _ _ ?_;simp[X26]
theorem c2n(t:k7)(c:s7 t)(l:List Nat)(e:l.length≤9223372036854775807)(f:∀x∈l,x<256):
 ∃p b,(b=true→b4Q t p)∧(b=false→p=[]∧¬Live t start)∧F0 6 [0,0] [TP t,CL l] (.tup [St (J8 t p),B b]):=by
 obtain⟨p,b,h1,d,g⟩:=d0K t c l e f;refine⟨p,b,h1,d,?_⟩;have h:∃s,E5 t start p=some s∧p.length≤1000000:=by
  cases b
  . rw[(d rfl).1];exact⟨start,rfl,k8⟩
  . obtain⟨s,a,_⟩:=(h1 rfl).run;exact⟨s,a,by have:=(h1 rfl).len;omega⟩
 obtain⟨s,a,i⟩:=h;have j:=c7L t c p s i a;refine E1 c6 3 (by simp[X6]) fun Q k m=>?_;simp[X6];refine l8 g ?_;simp;refine l8 j ?_;simp;refine k _ _ ?_;simp[X6]
section
variable{t:k7}{s:State}{k:Nat}
def S7(t:k7)(s:State):Nat:=((j8 t).idxOf? s).getD 0
def a0u(t:k7)(s:State)(n:Nat):List (Nat×Nat):=(List.range n).filterMap fun k=>(step t s k).map fun s'=>(k,S7 t s')
def D6(t:k7):List (List (Nat×Nat)):=(j8 t).map fun s=>a0u t s t.rules.length
def V0(t:k7)(k j:Nat):List (List (Nat×Nat)):=(List.range (j8 t).length).map fun i=>if i<k then a0u t ((j8 t).getD i D5) t.rules.length else if i=k then a0u t ((j8 t).getD i D5) j else []
theorem b5O(t:k7)(s:State):a0u t s 0=[]:=rfl
theorem c2g(t:k7)(s:State)(n:Nat):a0u t s (n+1)=a0u t s n++((step t s n).map fun s'=>(n,S7 t s')).toList:=by unfold a0u;rw[a2F,b5t];cases h:step t s n<;>simp[h]
theorem b1z(t:k7)(s:State)(n:Nat):(a0u t s n).length≤n:=by have:=List.length_filterMap_le (fun k=>(step t s k).map fun s'=>(k,S7 t s')) (List.range n);simpa[a0u]using this
theorem b4u(t:k7)(k j:Nat):(V0 t k j).length=(j8 t).length:=by simp[V0]
theorem d1H(t:k7):V0 t 0 0=List.replicate (j8 t).length []:=by refine a7X.2 ⟨b4u t 0 0,fun b hb=>?_⟩;obtain⟨i,_,rfl⟩:=G7.1 hb;simp[b5O]
theorem d1Q(t:k7)(k:Nat):V0 t k t.rules.length=V0 t (k+1) 0:=by
 unfold V0;refine O1 fun i _=>?_;by_cases h1:i<k
 . simp[h1,show i<k+1 by omega]
 . by_cases a:i=k
   . subst a;simp
   . simp[h1,a,show¬i<k+1 by omega,b5O]
theorem b9B(t:k7):V0 t (j8 t).length 0=D6 t:=by
 apply a0z (by simp[V0,D6]);intro i h1 a;have b:i<(j8 t).length:=by simpa[D6]using a
 simp[V0,D6,b]
theorem b5H(a:k<(j8 t).length)(j:Nat):(V0 t k j)[k]'(by rw[b4u];exact a)=a0u t (j8 t)[k] j:=by simp[V0,a]
theorem b9m(b:k<(j8 t).length)(j:Nat):V0 t k (j+1)=(V0 t k j).set k (a0u t (j8 t)[k] (j+1)):=by
 apply a0z (by simp[V0]);intro i h1 c;have a:i<(j8 t).length:=by simpa[V0]using h1
 rw[a4k];by_cases h:i=k
 . subst h;simp[V0,a]
 . have h':¬k=i:=fun e=>h e.symm;simp[V0,h,h']
theorem c9L(a:k<(j8 t).length){j:Nat}(h:step t (j8 t)[k] j=none):V0 t k (j+1)=V0 t k j:=by rw[b9m a,c2g,h,←b5H a j];simp
theorem d0E{L:List State}(h:s∉L):L.idxOf? s=none:=a3a.2 h
theorem b4w{L:List State}(a:L.Nodup){i:Nat}(hi:i<L.length):(L.take i).idxOf? L[i]=none:=by
 refine d0E fun hm=>?_;obtain⟨j,hj,he⟩:=a1I hm;rw[List.getElem_take]at he;have b:j<i:=by simp at hj;omega
 exact a6c.1 (a9M.1 a) j i j4 hi b he
theorem a8F(h:s∈j8 t):(j8 t).idxOf? s=some (S7 t s):=by
 unfold S7;cases a:(j8 t).idxOf? s with
 |none=>exact absurd h (a3a.1 a)
 |some n=>rfl
theorem a3J(h:s∈j8 t):S7 t s<(j8 t).length:=by have:=a8F h;obtain⟨h1,_⟩:=a1W.1 this;exact h1
theorem c1E(h:s∈j8 t):(j8 t)[S7 t s]?=some s:=by have:=a8F h;obtain⟨h1,a,_⟩:=a1W.1 this;rw[l9 h1];simpa using a
end
def X40:u9:=
 ⟨100,[0,1,2,4,5,6,7,8,9,10,11,12,13,33,34,35,36,56,57,58,59,65,66,67,76],15,[(3,none)],sq [.reg [H4 2 4 0,odj 3],.reg [⟨.load true 3 (.v 2),none,none,[5,6]⟩,obv 1 5 6,occ 3 2 6,⟨.call 76 [.l 2] [(5,3)] false,none,none,[6]⟩,M9 1 5,⟨.len true (.l 4),none,none,[5]⟩,⟨.bin .add false (.l 5) (oi 1),none,none,[5]⟩,⟨.makeSlice 6 2 48 (.agg [.nils,.nils]) (.l 6) (.l 6),none,none,[5]⟩,oq (.build [.int .i64 0,.int .u8 0,.nils,.str ⟨#[]⟩,.nils,.nils,.nils,.int .i64 0] [(0,3,.l 0),(3,1,.l 1),(4,1,.l 3),(6,1,.l 7)]),oq (.box 7 (.l 8)),oc 4 9],.reg [oa 4,C7 0,ok 4 1,ob 1 2,E6 3,oq (.makeMap 8 (some (.l 4))),oc 5 5],sq [.reg [oa 4,C7 0,ok 4 1,Z3 13 1 2,N4 14 3,ov 15 0],.block 0 (.loop (sq [ki 16 15 14,B9 16 0,.block 1 (sq [.reg [oa 15,N8 3 13 15,J7 3 1,oam 7 9 0 0 0,oc 6 0,og 3 3 2],.reg [oa 5,oo 3 7,oa 6,odo 46 0 1 2]]),ke 15 1 15 0]))],.reg [oa 4,oa 4,C7 1,ok 4 2,ob 1 3,E6 4,oq (.makeSlice 10 1 24 .nils (.l 5) (.l 5)),C7 0,ok 5 7,og 1 8 6],sq [.reg [oa 4,C7 0,ok 4 1,Z3 17 1 2,N4 18 3,ov 19 0],.block 2 (.loop (sq [ki 20 19 18,B9 20 2,.block 3 (sq [.reg [oa 19,N8 3 17 19,J7 3 1,oam 9 11 0 0 0,oc 8 0,og 3 3 2],.reg [od 2 2,ob 1 0,N4 21 1,ov 22 0],.block 4 (.loop (sq [ki 23 22 21,B9 23 4,.block 5 (sq [kf 22 10 0,.reg [oo 3 2,oo 3 9,oa 10,oei 77 0 1 2 0 0 0 0 0 0 0 0,om 3,oy 4 0,oy 4 1,oam 11 12 0 0 0,og 3 7 5,oc 12 6],.reg [odf 24 12],.cond (.v 24) (.G4 8 none 30022 0 (.reg [obv 4 13 14,odq 0 13 14,ocn 5 1 13 14,oey 1 2 13 14,obv 8 13 14,M9 4 13,ocx 5 13,ock 5 6 13,Q7 1 7 13,M9 8 13,obo 1 8 9 13,Q7 1 10 13,oa 10,oa 5,oo 3 11,oq (.lookup 46 false (.int .i64 0) (.l 13) (.l 14)),off 0 0 0 1 12 1 1 15,oq (.mkarr 13 2 [.agg [.int .i64 0,.int .i64 0]] [(0,.l 16)]),J3 14 2 16 1 11 17,ol 1 3 4,og 1 19 18])) kc]),ke 22 1 22 0]))]),ke 19 1 19 0]))],.G6 [(10,true),(5,true)] (kf 4 3 0),ko]⟩
def X78:u9:=
 ⟨37,[0,1,2,3,6,15],21,[],sq [.reg [oa 0,ofi 0 5,odw 5 1 2 1,ob 1 2,oc 4 3],.reg [oa 4,oa 1,ol 1 0 1,ob 1 2,obd 5 3],.cond (.v 5) (sq [.reg [oa 4,oa 1,ol 1 0 1,obm 1 2],.G4 0 none 52014 0 (.reg [⟨.loadV false 1 (.v 3),none,none,[19,20]⟩,odq 0 19 20,ocn 6 1 19 20,oey 1 2 19 20,obv 0 19 20,odt 1 3 19,ocx 5 19,ock 6 6 19,Q7 1 7 19,M9 0 19,obo 2 8 9 19,ock 0 10 19,Q7 1 11 19,oa 1,ocm 19 1 0 0 13,J3 20 1 8 1 12 14,ol 2 3 4,ok 0 16,og 1 17 15])]) kc]⟩
def X41:u9:=
 ⟨131,[0,1,2,3,4,5,6,7,8,10,11,12,13,14,32,33,34,42,60,85,96,97,98,99,110],19,[],sq [.reg [H4 1 15 0],.reg [ow 2 (.allocA 16 [.slc [],.slc [],.slc [],.slc [],.slc []])],sq [kj 12 0,.block 0 (.loop (sq [.reg [ow 13 (.bin .lss false (.v 12) (oi 5))],B9 13 0,.block 1 (sq [kf 12 3 0,.reg [oa 3,G5 1 1,C7 1,ok 4 2,ob 1 3,E6 4,oq (.makeSlice 17 1 1 (.bool false) (.l 5) (.l 5)),odw 5 1 2 0,og 1 7 6]]),ke 12 1 12 0]))],.reg [oq (.mkfn (.func 78) [] [.v 2,.v 1]),oc 4 0],.reg [oa 4,oq (.cally (.l 0) [oi 0,oi 0])],.reg [G5 1 1,C7 0,ok 6 1,ob 1 2,N4 14 3,ov 15 0],.block 2 (.loop (sq [ki 16 15 14,B9 16 2,.block 3 (sq [kf 15 5 0,kj 6 0,sq [.reg [oa 5,G5 1 1,C7 1,ok 3 2,ob 1 3,obp 4,oas 17 0 5],.cond (.v 17) (.reg [G5 1 1,C7 0,ok 3 1,ob 1 2,oa 5,ocg 3 4,Y4 79 5 0 0,oc 6 6]) kc],sq [kj 7 0,.block 4 (.loop (sq [sq [.reg [oa 7,G5 1 1,C7 1,ok 6 2,ob 1 3,oa 5,ol 2 4 5,ok 0 6,ob 1 7,E6 8,oas 18 0 9],B9 18 4],.block 5 (sq [.reg [G5 1 1,C7 0,ok 6 1,ob 1 2,oa 5,ol 2 3 4,ok 0 5,ob 1 6,oa 7,ol 1 7 8,ob 1 9,oc 8 10],sq [.reg [G5 1 1,C7 0,ok 4 1,ob 1 2,oa 8,ol 3 3 4,ok 2 5,ob 1 6,oa 6,oq (.bin .shr false (.l 7) (.l 8)),obu 9 1,ocs 19 10 1],.cond (.v 19) (.reg [G5 1 1,oa 5,C7 0,ok 7 2,og 1 3 1]) kc],.reg [G5 1 1,C7 0,ok 5 1,ob 1 2,oa 8,ol 1 3 4,Z3 20 1 5,N4 21 6,ov 22 0],.block 6 (.loop (sq [ki 23 22 21,B9 23 6,.block 7 (sq [.reg [N8 2 20 22,J7 2 0,odk 9 18 0 0,og 2 2 1],.reg [G5 1 1,oa 5,od 0 9,ob 1 2,oq (.call 80 [.l 0,.l 1,.l 3] [(0,0),(0,0)] false),om 4,oy 5 0,oy 5 1,oc 10 6,oc 11 7],.reg [odf 24 11],.cond (.v 24) (.reg [oa 4,oa 10,od 1 9,ob 1 2,oq (.cally (.l 0) [.l 1,.l 3])]) kc]),ke 22 1 22 0]))]),kh 7 0 1 7 1]))],.G4 5 none 52014 0 (.reg [G5 1 1,C7 0,ok 6 1,ob 1 2,oa 5,ol 2 3 4,ok 0 5,ob 1 6,obj 81 7]),.G4 5 none 52015 0 (.reg [oa 5,ofi 0 5,odw 5 1 2 1,ob 1 2,oq (.clearS (.bool false) (.l 3))])]),ke 15 1 15 0]))]⟩
theorem c40:L9 Tryz.prog 40 4=some {X40 with body:=strip X40.body}:=by kernel_rfl
theorem c78:L9 Tryz.prog 78 19=some {X78 with body:=strip X78.body}:=by kernel_rfl
theorem c41:L9 Tryz.prog 41 15=some {X41 with body:=strip X41.body}:=by kernel_rfl
abbrev ARw(a:Nat×Nat):PV:=.agg [IN a.1,IN a.2]
abbrev FA(l:List (Nat×Nat)):PV:=if l=[]then .nils else .uslc (l.map ARw)
@[simp] theorem d3M:FA []=.nils:=rfl
@[simp] theorem d3b(a:Nat×Nat)(l:List (Nat×Nat)):FA (a::l)=.uslc (ARw a::l.map ARw):=rfl
@[simp] theorem d3t(l:List (Nat×Nat)):List.map (B6∘ARw) l=l.map ARw:=O1 fun _ _=>rfl
abbrev SA(l:List (Nat×Nat)):PV:=.slc (l.map ARw)
def X0(t:k7)(i:Nat):List State:=(j8 t).take i
abbrev TC(t:k7):List PV:=[IN t.modes,UN t.accept,.slc (t.rules.map RP)]
theorem a3P{P:Program}{φ:PV→List (Nat×Row)→Prop}(hm:P.follows .mixedOrders=true){f:FuncId}{off s0:Nat}{X:u9}(c:L9 P f off=some {X with sites:=s0,body:=strip X.body})(d:a2n X.body=true){first args cap:List PV}{h0:Heap}(hlen:(first++args++cap).length≤X.ntmps)(g:(first.all one&&cap.all one)=true)
 (i:noX X.body=true) (h:∀Q:J0,(∀r ws vs h,φ r ws→L3 X.results r h0 ws vs h→Q .ret vs h)→(∀r ws vs h,φ r ws→L3 X.results r h0 ws vs h→Q .normal vs h)→Xw (fns P) X.body Q (X.vars.map fun s=>(first++args++cap).getD s .uu) h0):∃r ws,φ r ws∧FI P (.fn (.func f) first cap) args h0 r ws:=by
 have b:=h (fun e vs h=>∃r ws,φ r ws∧b0V X.results r h0 ws e vs h) (fun r ws vs h h1 a=>⟨r,ws,h1,trivial,a⟩) (fun r ws vs h h1 a=>⟨r,ws,h1,trivial,a⟩);rw[a0F]at b;obtain⟨e,vs',h',h1,r,ws,a,j⟩:=b3k i b;exact⟨r,ws,a,b5W hm c d hlen g (a5i (fun e v p k=>by obtain⟨rfl,rfl,rfl⟩:=k;exact j) h1)⟩
theorem c9w(t:k7)(b:s7 t)(s:By)(hs:s.length≤1100000000)(r0 r1 r2 r3:Row):
 ∃r ws,(∃B R8 R9 R11 R12 R13 R14 g15,r=.ptr 7 1 0∧ws=[(4,(1,.var (TC t))),(5,(1,.arr 3 1 true (F9 (j8 t)))),(6,(1,.arr 2 0 false (List.replicate (s.length+1) (.agg [.nils,.nils])))),
  (7,(1,.var (TC t++[St s,.own 5 1 (j8 t).length 3 0 (j8 t).length,.own 10 1 (j8 t).length 1 0 (j8 t).length,.own 6 1 (s.length+1) 2 0 (s.length+1),I 0]))),
  (8,R8),(9,R9),(10,(1,.arr 1 B true ((D6 t).map SA))),(11,R11),(12,R12),(13,R13),(14,R14),(15,(g15,.dead))])∧
 FI Tryz.prog (.fn (.func 40) [] []) [TP t,St s] [r0,r1,r2,r3,dd,dd,dd,dd,dd,dd,dd,dd,dd,dd,dd,dd,dd,dd,dd,dd,dd,dd,dd,dd,dd,dd,dd] r ws:=by
 have C:=a1F b;have ab:=a2J b;have D:(j8 t).length≤140737488355328:=j4;have q:(j8 t).length≤9223372036854775807:=j4;have E:0≤(s.length:Int)+1:=j4;have F:((s.length:Int)+1)*48≤140737488355328:=j4;have G:(s.length:Int)+1≤9223372036854775807:=j4;have H:((s.length:Int)+1).toNat=s.length+1:=j4;have J:IntKind.i64.wrap ((s.length:Int)+1)=(s.length:Int)+1:=T3;refine a3P mixed (X:=X40) c40 (by rfl) (by simp[X40]) k8 (by kernel_rfl) fun Q K C=>?_;simp[X40];refine l8 (b4s t b) ?_;simp[D,q,J,E,F,G,H];refine F5 (fun(p:Nat×PV×PV×PV×Row) vs h=>p.1≤(j8 t).length∧
  vs=[TP t,St s,.ptr 4 1 0,.lit (.pointer none),.ptr 7 1 0,.mapv 8 1,p.2.1,p.2.2.1,.uu,.uu,.uu,.uu,.uu,.own 5 1 (j8 t).length 3 0 (j8 t).length,IN (j8 t).length,IN p.1,p.2.2.2.1,.uu,.uu,.uu,.uu,.uu,.uu,.uu,.uu]∧
  h=[r0,r1,r2,r3,(1,.var (TC t)),(1,.arr 3 0 false (F9 (j8 t))),(1,.arr 2 0 false (List.replicate (s.length+1) (.agg [.nils,.nils]))),(1,.var (TC t++[St s,.own 5 1 (j8 t).length 3 0 (j8 t).length,.nils,.own 6 1 (s.length+1) 2 0 (s.length+1),I 0])),
   (1,.mp false (F9 (X0 t p.1)) ((List.range p.1).map IN)),p.2.2.2.2,dd,dd,dd,dd,dd,dd,dd,dd,dd,dd,dd,dd,dd,dd,dd,dd,dd]) (fun p=>(j8 t).length-p.1) (0,.uu,.uu,.uu,dd) ?_ ?_
 . simp[X0]
 . rintro⟨i,v6,v7,v16,R9⟩ vs h ⟨g1,rfl,rfl⟩ Q' L M ac;dsimp only at g1;by_cases hi:i<(j8 t).length
   . have hw:=wk1 i j4;have f:(X0 t i).idxOf? (j8 t)[i]=none:=b4w (b1J b) hi;have N:F9 (X0 t i)++[.agg [IN (j8 t)[i].mode,IN (j8 t)[i].last,UN (j8 t)[i].need]]=F9 (X0 t (i+1)):=(by rw[show X0 t (i+1)=X0 t i++[(j8 t)[i]]by unfold X0;rw[List.take_append_getElem]];simp);have O:List.map IN (List.range i)++[IN i]=List.map IN (List.range (i+1)):=(by rw[a2F];simp);simp[hi,hw,f,N,O];exact L (i+1,_,_,_,_) _ _ j4 ⟨u7,rfl,rfl⟩
   . obtain rfl:i=(j8 t).length:=j4;have P:((j8 t).length:Int)*24≤140737488355328:=j4;have R:X0 t (j8 t).length=j8 t:=K8;simp;refine M _ _ _ ?_;simp[q,P,R];refine F5 (fun(p:Nat×PV×PV×PV×PV×PV×PV×PV×PV×PV×PV×Nat×Row×Row×Nat×Nat×Nat) vs h=>p.1≤(j8 t).length∧
      vs=[TP t,St s,.ptr 4 1 0,.lit (.pointer none),.ptr 7 1 0,.mapv 8 1,v6,v7,p.2.1,p.2.2.1,p.2.2.2.1,p.2.2.2.2.1,p.2.2.2.2.2.1,.own 5 1 (j8 t).length 3 0 (j8 t).length,IN (j8 t).length,IN (j8 t).length,.bool false,.own 5 1 (j8 t).length 3 0 (j8 t).length,IN (j8 t).length,IN p.1,p.2.2.2.2.2.2.1,p.2.2.2.2.2.2.2.1,p.2.2.2.2.2.2.2.2.1,p.2.2.2.2.2.2.2.2.2.1,p.2.2.2.2.2.2.2.2.2.2.1]∧
      h=[r0,r1,r2,r3,(1,.var (TC t)),(1,.arr 3 0 false (F9 (j8 t))),(1,.arr 2 0 false (List.replicate (s.length+1) (.agg [.nils,.nils]))),(1,.var (TC t++[St s,.own 5 1 (j8 t).length 3 0 (j8 t).length,.own 10 1 (j8 t).length 1 0 (j8 t).length,.own 6 1 (s.length+1) 2 0 (s.length+1),I 0])),
       (1,.mp false (F9 (j8 t)) ((List.range (j8 t).length).map IN)),R9,(1,.arr 1 p.2.2.2.2.2.2.2.2.2.2.2.1 false ((V0 t p.1 0).map FA)),p.2.2.2.2.2.2.2.2.2.2.2.2.1,p.2.2.2.2.2.2.2.2.2.2.2.2.2.1,(p.2.2.2.2.2.2.2.2.2.2.2.2.2.2.1,.dead),(p.2.2.2.2.2.2.2.2.2.2.2.2.2.2.2.1,.dead),(p.2.2.2.2.2.2.2.2.2.2.2.2.2.2.2.2,.dead),dd,dd,dd,dd,dd,dd,dd,dd,dd,dd,dd]) (fun p=>(j8 t).length-p.1) (0,.uu,.uu,.uu,.uu,.uu,.uu,.uu,.uu,.uu,.uu,0,dd,dd,0,0,0) ?_ ?_
     . simp[d1H]
     . rintro⟨k,v8,v9,v10,v11,v12,v20,v21,v22,v23,v24,ver,R11,R12,g13,g14,g15⟩ vs h ⟨g2,rfl,rfl⟩ Q2 S T ad;dsimp only at g2;by_cases c:k<(j8 t).length
       . have U:=wk1 k j4;simp[c];refine F5 (fun(p:Nat×PV×PV×PV×PV×PV×Nat×Row×Nat×Nat×Nat) vs h=>p.1≤t.rules.length∧
          vs=[TP t,St s,.ptr 4 1 0,.lit (.pointer none),.ptr 7 1 0,.mapv 8 1,v6,v7,IN k,.ptr 11 (R11.1+1) 0,p.2.1,p.2.2.1,p.2.2.2.1,.own 5 1 (j8 t).length 3 0 (j8 t).length,IN (j8 t).length,IN (j8 t).length,.bool false,.own 5 1 (j8 t).length 3 0 (j8 t).length,IN (j8 t).length,IN k,.bool true,IN t.rules.length,IN p.1,p.2.2.2.2.1,p.2.2.2.2.2.1]∧
          h=[r0,r1,r2,r3,(1,.var (TC t)),(1,.arr 3 0 false (F9 (j8 t))),(1,.arr 2 0 false (List.replicate (s.length+1) (.agg [.nils,.nils]))),(1,.var (TC t++[St s,.own 5 1 (j8 t).length 3 0 (j8 t).length,.own 10 1 (j8 t).length 1 0 (j8 t).length,.own 6 1 (s.length+1) 2 0 (s.length+1),I 0])),
           (1,.mp false (F9 (j8 t)) ((List.range (j8 t).length).map IN)),R9,(1,.arr 1 p.2.2.2.2.2.2.1 false ((V0 t k p.1).map FA)),(R11.1+1,.var [IN (j8 t)[k].mode,IN (j8 t)[k].last,UN (j8 t)[k].need]),p.2.2.2.2.2.2.2.1,(p.2.2.2.2.2.2.2.2.1,.dead),(p.2.2.2.2.2.2.2.2.2.1,.dead),(p.2.2.2.2.2.2.2.2.2.2,.dead),dd,dd,dd,dd,dd,dd,dd,dd,dd,dd,dd]) (fun p=>t.rules.length-p.1) (0,v10,v11,v12,v23,v24,ver,R12,g13,g14,g15) ?_ ?_
         . simp
         . rintro⟨j,v10,v11,v12,v23,v24,ver,R12,g13,g14,g15⟩ vs h ⟨g3,rfl,rfl⟩ Q3 g V ae;dsimp only at g3;by_cases hj:j<t.rules.length
           . have af:=b.l64;have m:=wk1 j j4;have W:=a3g b (C4 c);have Y:=b1p t (j8 t)[k] j b.ok W.ok j4;have u:=b4u t k j;simp[hj];refine l8 Y ?_;cases hs:step t (j8 t)[k] j with
             |none=>
              have d:=c9L c hs;simp[m];exact g (j+1,_,_,_,_,_,_,_,_,_,_) _ _ j4 ⟨u7,rfl,by rw[d];rfl⟩
             |some nx=>
              have v:=a0g b (C4 c) hs;have w:=a8F v;have hm:=a3J v;have e:=b5H c j;have d:=b9m c j;rw[c2g,hs]at d;have y:k<(V0 t k j).length:=j4;by_cases f:a0u t (j8 t)[k] j=[]
              . rw[f]at d e;have n:FA (V0 t k j)[k]=.nils:=(by rw[e];rfl);have o:(List.map FA (V0 t k j)).set k (.uslc [.agg [IN j,IN (S7 t nx)]])=List.map FA (V0 t k (j+1)):=(by rw[d,L6];rfl);simp[c,u,m,w,hm,y,n,o,e];exact g (j+1,_,_,_,_,_,_,_,_,_,_) _ _ j4 ⟨u7,rfl,rfl⟩
              . obtain⟨a,l,z⟩:=a9L f;rw[z]at d e;have n:FA (V0 t k j)[k]=.uslc (ARw a::l.map ARw):=(by rw[e];rfl);have o:(List.map FA (V0 t k j)).set k (.uslc (ARw a::(l.map ARw++[.agg [IN j,IN (S7 t nx)]])))=List.map FA (V0 t k (j+1)):=(by rw[d,L6];simp);have hle:=b1z t (j8 t)[k] j;rw[z]at hle;have Z:(l.length+1+1)*16≤140737488355328:=(by grind);simp[c,u,m,w,hm,y,n,o,e,Z];exact g (j+1,_,_,_,_,_,_,_,_,_,_) _ _ j4 ⟨u7,rfl,rfl⟩
           . obtain rfl:j=t.rules.length:=j4;simp;refine V _ _ _ ?_;simp[U];exact S (k+1,_,_,_,_,_,_,_,_,_,_,_,_,_,_,_,_) _ _ j4 ⟨u7,rfl,by rw[←d1Q];rfl⟩
       . obtain rfl:k=(j8 t).length:=j4;have A:(∀(x:List (Nat×Nat)),x∈D6 t→D9 (FA x)=true):=fun x _=>(by unfold FA;split<;>rfl);have aa:List.map (B6∘FA) (D6 t)=(D6 t).map SA:=by
          refine O1 fun l _=>?_;cases l with
          |nil=>rfl
          |cons a l=>simp[B6,K5]
         simp[b9B];refine T _ _ _ ?_;simp[b9B,A,aa];refine K (.ptr 7 1 0) [(4,(1,.var (TC t))),(5,(1,.arr 3 1 true (F9 (j8 t)))),(6,(1,.arr 2 0 false (List.replicate (s.length+1) (.agg [.nils,.nils])))),
          (7,(1,.var (TC t++[St s,.own 5 1 (j8 t).length 3 0 (j8 t).length,.own 10 1 (j8 t).length 1 0 (j8 t).length,.own 6 1 (s.length+1) 2 0 (s.length+1),I 0]))),
          (8,(1,.mp false (F9 (j8 t)) ((List.range (j8 t).length).map IN))),(9,R9),(10,(1,.arr 1 (ver+1) true ((D6 t).map SA))),(11,R11),(12,R12),(13,(g13,.dead)),(14,(g14,.dead)),(15,(g15,.dead))] _ _ ⟨ver+1,_,R9,R11,R12,_,_,g15,rfl,rfl⟩ ?_
         simp[L3,X40];exact A
def X10:u9:=
 ⟨50,[0,1,2,4,5,6,7,8,9,16,22,40],4,[(3,some (true,2)),(4,none),(5,none)],sq [.reg [H4 2 0 0,oej 3 1,ov 4 0,ov 5 0],sq [.reg [oa 1,oco 38 0 0 0 0 0,om 1,oy 2 0,oy 2 1,oc 6 3,oc 7 4],kag 7 9 0 0,.cond (.v 9) (sq [.reg [oq (.build [.nils,.nils] []),oa 6,oa 7,L0 2 3 0,oc 4 1,oc 5 2],ko]) kc],sq [.reg [oo 3 2,Y4 39 0 0 0,obd 10 1],.cond (.v 10) (sq [.reg [oq (.build [.nils,.nils] []),L0 2 3 0,ov 4 0,ov 5 61],ko]) kc],.reg [oo 3 2,oa 1,oda 40 0 1,oc 8 2],.reg [oa 8,obj 41 0],.reg [oa 8,obj 42 0],sq [.reg [oa 8,C7 0,ok 6 1,ob 1 2,oce 2 3 0,ok 1 4,ob 1 5,oce 1 6 0,ob 1 7,ow 11 (.bin .lss false (.l 8) (oi 0))],.cond (.v 11) (sq [.reg [oq (.build [.nils,.nils] []),oa 8,C7 1,ok 7 2,ob 1 3,oq (.storeN 2 (.v 3) (.l 0) [3]),oc 4 4,ov 5 61],ko]) kc],.reg [oa 8,oco 43 0 2 1 3 1,oa 1,obp 2,L0 2 3 1,oc 4 3,ov 5 0],ko]⟩
def X43:u9:=
 ⟨93,[0,2,3,4,5,6,8,9,10,11,12,20,27,28,29,30,42,71],6,[(1,some (true,2))],sq [.reg [oej 1 0],.reg [oej 2 1],.G4 2 (some 0) 3 1 (.G4 2 (some 1) 5 1 (sq [.reg [ov 3 0,ov 4 0],kc,sq [.reg [oa 0,C7 0,ok 6 1,ob 1 2,oce 2 3 0,oq (.call 83 [.l 4,oi 0] [(0,0)] false),oc 5 5],.block 0 (.loopS [0,1,2,3,4,5] 6 (sq [sq [.reg [oa 5,ods 11 0 0],B9 11 0],.block 1 (sq [sq [.reg [oa 0,C7 0,ok 5 1,ob 1 2,oa 4,ol 1 3 4,Z3 12 1 5,N4 13 6,ov 14 0],.block 2 (.loopS [0,1,2,3,5,12,13,14] 6 (sq [ki 15 14 13,B9 15 2,.block 3 (sq [.reg [N8 2 12 14,J7 2 0,odk 6 2 0 0,og 2 2 1],.reg [oa 0,oa 3,od 0 6,ob 1 2,oq (.call 80 [.l 0,.l 1,.l 3] [(0,0),(0,0)] false),om 4,oy 5 0,oy 5 1,oc 7 6,oc 8 7],sq [kaf 8 16 0,kau 16 3],.reg [oa 0,C7 0,ok 0 1,ok 2 2,ob 1 3,od 0 6,ob 1 5,ol 6 4 6,ok 1 7,ob 1 8,oc 9 9],sq [.reg [oa 0,C7 0,ok 6 1,ob 1 2,oa 7,ol 2 3 4,od 1 6,ob 1 6,oay 83 5 7 0 0,oc 10 8],.reg [oa 10,ocp 0 0,om 1,N2 10 2,N2 5 2,N2 9 2,obg 5 2,⟨.bin .sub false (.l 4) (.l 6),none,some (.l 2,false),[]⟩,odl 3 7 2,W9 17 2 8],kau 17 3],.reg [od 0 2,ob 1 0,oa 9,J3 3 1 1 0 1 2,od 0 2,og 1 4 3],.reg [od 1 2,ob 1 0,od 0 6,ob 1 2,ocm 4 1 0 0 3,J3 5 1 8 1 1 4,od 1 2,og 1 6 5],.reg [oa 7,od 1 6,ob 1 1,oa 5,oa 9,E6 4,oq (.bin .sub false (.l 3) (.l 5)),oc 3 0,oc 4 2,oc 5 6],kn 1]),ke 14 1 14 0]))],kn 0])]))],.reg [oo 2 2,L0 2 1 0],ko]))]⟩
def X80:u9:=
 ⟨30,[0,1,2,6,7,8],0,[(3,none),(4,none)],sq [.reg [ov 3 0,oh 4],.reg [oa 0,C7 0,ok 0 1,ok 2 2,ob 1 3,oa 2,ol 6 4 5,ok 0 6,ob 1 7,oc 5 8],.reg [oa 1,oa 5,obp 1,obq 0 2,oa 0,C7 4,ok 3 5,ob 1 6,oa 1,oq (.slice true 0 (.l 7) (some (.l 8)) none none),oa 5,oay 112 9 10 0 0,oc 3 3,oc 4 11],ko]⟩
def X83:u9:=
 ⟨25,[0,1,4,5,6,17],0,[(2,none)],sq [kj 2 0,.reg [oa 0,C7 0,ok 0 1,ob 1 2,oa 1,odp 115 3 4 0 0 0 0,om 5,oy 6 0,oy 6 1,oc 3 7,oc 4 8],sq [kaf 4 5 0,.cond (.v 5) (sq [.reg [odv 2],ko]) kc],.reg [oa 0,C7 0,ok 1 1,ob 1 2,oa 3,ol 1 3 4,ob 1 5,oc 2 6],ko]⟩
def a6I:u9:=
 ⟨54,[0,1,4,5,6,7,8,9,15,27],0,[(2,none),(3,none)],sq [.reg [ov 2 0,oh 3],.reg [oa 0,E6 0,oc 4 1],.reg [oa 4,ov 5 0,oc 6 0],.block 0 (.loopS [0,1,4,5,6] 0 (sq [sq [.reg [oa 5,oa 6,oas 8 0 1],B9 8 0],.block 1 (sq [.reg [oa 5,oa 6,obq 0 1,oq (.conv .u64 (.l 2)),oq (.bin .shr false (.l 3) (.c (.int .u64 1))),oq (.conv .i64 (.l 4)),oc 7 5],.reg [oa 0,oa 7,ol 1 0 1,ob 1 2,oa 1,ow 9 (.call 142 [.l 3,.l 4] [(0,0)] false)],.cond (.v 9) (kh 7 0 1 5 1) (kf 7 6 0)])])),.reg [oa 5,oa 5,oa 4,oby 1 2,om 3,oj 0 4,oj 5 4,oau 1 5 6 4,oe 1 7 4,oj 1 4,obc 8 9 4,⟨.mv (.l 10),none,some (.l 4,true),[]⟩,N2 0 11,N2 5 11,⟨.indexAddr 1 (.l 12) (.l 13),none,some (.l 11,false),[]⟩,os 1 14 11,⟨.call 147 [.l 15] [(0,0)] false,none,some (.l 11,false),[]⟩,⟨.mv (.l 16),none,some (.l 11,false),[]⟩,oj 1 17,⟨.call 147 [.l 18] [(0,0)] false,none,some (.l 17,true),[]⟩,oen 17 19 11,oew 11 20 4,ot 4 21,oc 2 0,oc 3 22],ko]⟩
def b0Q:u9:=
 ⟨8,[0,1,4],0,[(2,none)],sq [kk 2,.reg [oa 0,oa 1,oay 135 0 1 0 0,oc 2 2],ko]⟩
def a7O:u9:=
 ⟨18,[0,1,4],0,[(2,none)],sq [kk 2,.reg [oa 0,obp 0,oa 1,obp 2,oq (.bin .geq false (.l 1) (.l 3)),om 4,oj 0 5,oj 1 5,⟨.len true (.l 7),none,some (.l 5,true),[]⟩,⟨.slice true 0 (.l 6) none (some (.l 8)) none,none,some (.l 5,true),[]⟩,oj 1 5,obc 9 10 5,ot 5 11,oc 2 12],ko]⟩
def b1M:u9:=
 ⟨17,[0,1,4],0,[(2,none)],sq [kk 2,.reg [oa 0,Y4 161 0 0 0,om 1,oj 1 2,⟨.call 161 [.l 3] [(0,0)] false,none,some (.l 2,true),[]⟩,oct 4 2,ot 2 5,om 6,N2 0 7,N2 1 7,odm 8 9 7,U9 7 10,oc 2 11],ko]⟩
def a9Y:u9:=
 ⟨6,[0,2],0,[(1,none)],sq [kk 1,.reg [oa 0,oa 0,oek 0 1,oc 1 2],ko]⟩
def b1U:u9:=
 ⟨6,[0,2],0,[(1,none)],sq [kk 1,.reg [oa 0,oa 0,oek 0 1,oc 1 2],ko]⟩
theorem c10:D3 10 X10:=D7
theorem c43:D3 43 X43:=D7
theorem c80:D3 80 X80:=D7
theorem c83:D3 83 X83:=D7
theorem c115:D3 115 a6I:=D7
theorem c112:D3 112 b0Q:=D7
theorem c135:D3 135 a7O:=D7
theorem c142:D3 142 b1M:=D7
theorem c161:D3 161 a9Y:=D7
theorem c147:D3 147 b1U:=D7
def a5C(kn:List (List Bool))(p s:Nat):List (List Bool):=kn.set (p%5) ((kn.getD (p%5) []).set s true)
def P4(l:List Nat):List Nat:=l.mergeSort fun x y=>decide (x≤y)
theorem b1S(l:List Nat):(P4 l).Perm l:=List.mergeSort_perm l _
theorem c3Z{l:List Nat}{x:Nat}:x∈P4 l↔x∈l:=(b1S l).mem_iff
theorem b1Q(l:List Nat):(P4 l).length=l.length:=(b1S l).length_eq
theorem c5D{l:List Nat}(h:l.Nodup):(P4 l).Pairwise (· < ·):=by have h1:(P4 l).Pairwise (fun a b=>(decide (a≤b))=true):=List.pairwise_mergeSort (fun a b c=>by simp;omega) (fun a b=>by simp;omega) l;have d:(P4 l).Nodup:=(b1S l).nodup_iff.2 h;have:=h1.and (a9M.1 d);exact this.imp fun h=>by have:=h.1;have:=h.2;simp at*;omega
def goes(t:k7)(s:By)(p k:Nat):Bool:=((t.rules.getD k default).print).isPrefixOf (s.drop p)
def B7(t:k7)(k:Nat):Nat:=(t.rules.getD k default).print.length
def Cl(t:k7)(s:By)(i x m:Nat)(a2N:List (List Nat)):Prop:=∀a∈((D6 t).getD x []).take m,goes t s i a.1=true→a.2∈a2N.getD (i+B7 t a.1) []
structure RI(t:k7)(s:By)(p e:Nat)(a2N:List (List Nat))(kn:List (List Bool)):Prop where
 len:a2N.length=s.length+1
 kl:kn.length=5
 klen:∀q,q<5→(kn.getD q []).length=(j8 t).length
 lt:∀i x,x∈a2N.getD i []→x<(j8 t).length
 nodup:∀i,(a2N.getD i []).Nodup
 win:∀i,p≤i→i<p+5→i≤s.length→∀x,x<(j8 t).length→((kn.getD (i%5) [])[x]?=some true↔x∈a2N.getD i [])
 root:0∈a2N.getD 0 []
 sorted:∀i,i<p→(a2N.getD i []).Pairwise (· < ·)
 done:∀i,i<p→∀x∈a2N.getD i [],Cl t s i x ((D6 t).getD x []).length a2N
 far:∀i,p+4+e≤i→a2N.getD i []=[]
theorem T7{α:Type}(l:List α)(i j:Nat)(a d:α):(l.set i a).getD j d=if j=i∧i<l.length then a else l.getD j d:=by grind
theorem Cl.mono{t:k7}{s:By}{i x m:Nat}{c c':List (List Nat)}(h:∀j y,y∈c.getD j []→y∈c'.getD j [])(b:Cl t s i x m c):Cl t s i x m c':=fun a d e=>h _ _ (b a d e)
theorem b3l(c:List (List Nat))(i x:Nat):∀j y,y∈c.getD j []→y∈(c.set i (c.getD i []++[x])).getD j []:=by grind
theorem RI.add{t:k7}{s:By}{p i x:Nat}{c:List (List Nat)}{kn:List (List Bool)}(h:RI t s p 1 c kn)(h1:p≤i)(C:i≤p+4)(f:i≤s.length)(l:x<(j8 t).length)(g:(kn.getD (i%5) [])[x]?=some false):
 RI t s p 1 (c.set i (c.getD i []++[x])) (a5C kn i x):=by
 have m:i<c.length:=by have:=h.len;omega
 have n:x∉c.getD i []:=fun hm=>by have:=(h.win i h1 j4 f x l).2 hm;rw[this]at g;cases g
 have o:i%5<kn.length:=by grind
 refine⟨by simp[h.len],by simp[a5C,h.kl],fun q r=>?_,fun j y d=>?_,fun j=>?_,fun j u v w y d=>?_,b3l c i x 0 0 h.root,fun j hj=>?_,fun j hj y d=>?_,fun j hj=>?_⟩
 . unfold a5C;rw[T7];split
   . rename_i D;rw[a4J];exact h.klen _ j4
   . exact h.klen q r
 . rw[T7]at d;split at d
   . rcases I5.1 d with d|d
     . exact h.lt i y d
     . rw[H5]at d;omega
   . exact h.lt j y d
 . rw[T7];split
   . rw[a6d];refine⟨h.nodup i,k8,fun a z b hb=>?_⟩;rw[H5]at hb;intro e;subst e;subst hb;exact n z
   . exact h.nodup j
 . unfold a5C;rw[T7,T7];by_cases hj:j=i
   . subst hj;rw[if_pos ⟨rfl,o⟩,if_pos ⟨rfl,m⟩];have E:=h.klen (j%5) j4;rw[a7Y];by_cases k:x=y
     . grind
     . have:=h.win j h1 j4 f y d;have A:¬y=x:=fun e=>k e.symm;rw[if_neg k];exact⟨fun e=>a4M _ (this.1 e),fun e=>this.2 ((I5.1 e).elim id fun e=>absurd (H5.1 e) A)⟩
   . have B:¬j%5=i%5:=j4;simp only[B,hj,false_and,if_false];exact h.win j u v w y d
 . rw[T7,if_neg j4];exact h.sorted j hj
 . rw[T7,if_neg j4]at d;exact(h.done j hj y d).mono (b3l c i x)
 . rw[T7,if_neg j4];exact h.far j hj
theorem RI.next{t:k7}{s:By}{p:Nat}{c:List (List Nat)}{kn:List (List Bool)}(h:RI t s p 1 c kn)(hp:p≤s.length)(i:∀x∈c.getD p [],Cl t s p x ((D6 t).getD x []).length c):
 RI t s (p+1) 0 (c.set p (P4 (c.getD p []))) (kn.set (p%5) (List.replicate (j8 t).length false)):=by
 have k:p<c.length:=by have:=h.len;omega
 have l:p%5<kn.length:=by have:=h.kl;omega
 have d:∀j y,y∈(c.set p (P4 (c.getD p []))).getD j []↔y∈c.getD j []:=fun j y=>by
  rw[T7];split
  . rename_i m;rw[m.1];exact c3Z
  . exact Iff.rfl
 have f:∀j y,y∈c.getD j []→y∈(c.set p (P4 (c.getD p []))).getD j []:=fun j y=>(d j y).2;refine⟨by simp[h.len],by simp[h.kl],fun q n=>?_,fun j y a=>h.lt j y ((d j y).1 a),fun j=>?_,fun j r u o y a=>?_,f 0 0 h.root,fun j hj=>?_,fun j hj y a=>?_,fun j hj=>?_⟩
 . rw[T7];split
   . simp
   . exact h.klen q n
 . rw[T7];split
   . exact(b1S _).nodup_iff.2 (h.nodup p)
   . exact h.nodup j
 . rw[d,T7];by_cases hj:j%5=p%5
   . have:j=p+5:=j4;subst this;rw[if_pos ⟨hj,l⟩,h.far (p+5) j4];simp[a]
   . rw[if_neg (fun e=>hj e.1)];exact h.win j j4 j4 o y a
 . by_cases b:j=p
   . subst b;rw[T7,if_pos ⟨rfl,k⟩];exact c5D (h.nodup j)
   . rw[T7,if_neg (fun e=>b e.1)];exact h.sorted j j4
 . have g:=(d j y).1 a;by_cases b:j=p
   . subst b;exact(i y g).mono f
   . exact(h.done j j4 y g).mono f
 . have b:¬j=p:=j4;rw[T7,if_neg (fun e=>b e.1)];exact h.far j j4
theorem RI.enter{t:k7}{s:By}{p:Nat}{c:List (List Nat)}{kn:List (List Bool)}(h:RI t s p 0 c kn):RI t s p 1 c kn:=⟨h.len,h.kl,h.klen,h.lt,h.nodup,h.win,h.root,h.sorted,h.done,fun j hj=>h.far j j4⟩
theorem RI.start{t:k7}{s:By}(b:1≤(j8 t).length):RI t s 0 0 ((List.replicate (s.length+1) []).set 0 [0]) ((List.replicate 5 (List.replicate (j8 t).length false)).set 0 ((List.replicate (j8 t).length false).set 0 true)):=by
 refine⟨k8,k8,fun q c=>?_,fun j y a=>?_,fun j=>?_,fun j d e f y a=>?_,k8,fun j hj=>j4,fun j hj=>j4,fun j hj=>?_⟩
 . grind
 . grind
 . grind
 . grind
 . grind
theorem a5G{t:k7}{s:By}{p k:Nat}(h:goes t s p k=true):B7 t k≤s.length-p:=by unfold goes at h;have:=(List.isPrefixOf_iff_prefix.1 h).length_le;simpa[B7]using this
def a0f(L:List Nat)(C:List Int)(x:Nat):Int:=if x∈L then C.getD (L.idxOf x) (-1)else-1
def A0(t:k7)(k:Nat):Nat:=(t.rules.getD k default).cells.length
def K4(t:k7)(p:Nat)(L:List Nat)(c:Nat→List Nat)(C:Nat→List Int)(D:List Int)(a:Nat×Nat):Int:=
 if B7 t a.1=0 then a0f L D a.2 else a0f (c (p+B7 t a.1)) (C (p+B7 t a.1)) a.2
def P9(t:k7)(s:By)(p:Nat)(L:List Nat)(c:Nat→List Nat)(C:Nat→List Int)(i:Nat)(silent:Bool)(st:List Int×Bool)(a:Nat×Nat):List Int×Bool:=
 if goes t s p a.1=true∧decide (B7 t a.1=0)=silent then
  (if 0≤K4 t p L c C st.1 a∧(st.1.getD i 0<0∨K4 t p L c C st.1 a+A0 t a.1<st.1.getD i 0)then(st.1.set i (K4 t p L c C st.1 a+A0 t a.1),true)else st)
 else st
def V6(t:k7)(s:By)(p:Nat)(L:List Nat)(c:Nat→List Nat)(C:Nat→List Int)(i:Nat)(silent:Bool)(D:List Int)(A:List (Nat×Nat)):List Int×Bool:=A.foldl (P9 t s p L c C i silent) (D,false)
theorem b4M{t:k7}{s:By}{p:Nat}{L:List Nat}{c:Nat→List Nat}{C:Nat→List Int}{i:Nat}{silent:Bool}(st:List Int×Bool)(a:Nat×Nat):(P9 t s p L c C i silent st a).1.length=st.1.length:=by
 unfold P9;split
 . split
   . simp
   . rfl
 . rfl
theorem c2f{t:k7}{s:By}{p:Nat}{L:List Nat}{c:Nat→List Nat}{C:Nat→List Int}{i:Nat}{silent:Bool}(A:List (Nat×Nat)):∀(D:List Int),(V6 t s p L c C i silent D A).1.length=D.length:=by
 have key:∀(A:List (Nat×Nat)) (st:List Int×Bool),(A.foldl (P9 t s p L c C i silent) st).1.length=st.1.length:=by
  intro A
  induction A with
  |nil=>intro st;rfl
  |cons a A b=>intro st;rw[a4e,b,b4M]
 intro D;exact key A (D,false)
theorem a8E{L:List Nat}{C:List Int}{M:Int}(h:∀x∈C,x≤M)(a: -1≤M)(x:Nat):a0f L C x≤M:=by
 unfold a0f;split
 . rw[B0];cases b:C[L.idxOf x]? with
   |none=>exact a
   |some y=>exact h y (D0 b)
 . exact a
theorem c6u(a b:By):F0 135 [0] [St a,St b] (B (decide (b.length≤a.length)&&decide (a.take b.length=b))):=by
 refine E1 c135 0 (by simp[a7O]) fun Q c d=>?_;by_cases h:b.length≤a.length
 . simp[a7O,h];refine c _ _ ?_;simp[a7O,h];rw[Bool.eq_iff_iff];simp
 . simp[a7O,h];refine c _ _ ?_;simp[a7O,h]
theorem c8D(a b:By):(decide (b.length≤a.length)&&decide (a.take b.length=b))=b.isPrefixOf a:=by
 rw[Bool.eq_iff_iff];simp only[E7,decide_eq_true_eq,List.isPrefixOf_iff_prefix];constructor
 . grind
 . intro h;exact⟨h.length_le,(List.prefix_iff_eq_take.1 h).symm⟩
theorem c5x(a b:By):F0 112 [0] [St a,St b] (B (b.isPrefixOf a)):=by refine E1 c112 0 (by simp[b0Q]) fun Q c d=>?_;have h:=c6u a b;rw[c8D]at h;simp[b0Q];refine l8 h ?_;simp;refine c _ _ ?_;simp[b0Q]
theorem b2y(t:k7)(s:By)(b c d e:PV)(p k:Nat)(hp:p≤s.length)(hs:s.length≤1100000000)(f:OkT t)(a:k<t.rules.length):F0 80 [0,0] [.fptr [IN t.modes,UN t.accept,.slc (t.rules.map RP),St s,b,c,d,e],IN p,IN k] (.tup [IN (p+(t.rules[k]).print.length),B ((t.rules[k]).print.isPrefixOf (s.drop p))]):=by refine E1 c80 0 (by simp[X80]) fun Q g i=>?_;have h:=c5x (s.drop p) (t.rules[k]).print;have hr:=(f.a1n _ (C4 a)).print;have hw:IntKind.i64.wrap ((p:Int)+((t.rules[k]).print.length:Int))=((p+(t.rules[k]).print.length:Nat):Int):=T3;have hd:List.take (s.length-p) (List.drop p s)=s.drop p:=a0t k8;simp[X80,a,hw,hp,hd];refine l8 h ?_;simp;refine g _ _ ?_;simp[X80]
theorem c9P(n:Nat):F0 161 [0] [IN n] (B false):=by refine E1 c161 0 (by simp[a9Y]) fun Q a b=>?_;simp[a9Y];refine a _ _ ?_;simp[a9Y]
theorem c9i(n:Nat):F0 147 [0] [IN n] (B false):=by refine E1 c147 0 (by simp[b1U]) fun Q a b=>?_;simp[b1U];refine a _ _ ?_;simp[b1U]
theorem c5z(a b:Nat):F0 142 [0] [IN a,IN b] (B (decide (a<b))):=by refine E1 c142 0 (by simp[b1M]) fun Q c d=>?_;simp[b1M];refine l8 (c9P a) ?_;simp;refine c _ _ ?_;simp[b1M]
theorem c7c(L:List Nat)(x:Nat)(q:L.Pairwise (· < ·))(H:L.length≤1100000000):∃r,(∃i,r=.tup [IN i,B (decide (x∈L))]∧(x∈L→L[i]?=some x))∧F0 115 [0,0] [.slc (L.map IN),IN x] r:=by
 refine a3u mixed (X:=a6I) c115 0 (by simp[a6I]) (by kernel_rfl) fun Q g I=>?_;simp[a6I];refine I6 (fun(p:Nat×Nat) vs h=>p.1≤p.2∧p.2≤L.length∧(∀k,(c:k<L.length)→k<p.1→L[k]<x)∧(∀k,(c:k<L.length)→p.2≤k→¬L[k]<x)∧
  vs=[.slc (L.map IN),IN x,.uu,.uu,IN L.length,IN p.1,IN p.2,.uu,.uu,.uu]∧h=[]) (fun p=>p.2-p.1) (0,L.length) ?_ ?_
 . simp;intro k c J;omega
 . rintro⟨i,j⟩ vs h ⟨g1,g2,g3,g4,rfl,rfl⟩ Q' s l K;dsimp only at g1 g2 g3 g4;by_cases t:i<j
   . obtain⟨m,hm⟩:=s8 ((i+j)/2);have hw:IntKind.i64.wrap ((i:Int)+(j:Int))=((i+j:Nat):Int):=T3;have C:IntKind.u64.wrap ((i:Int)+(j:Int))=((i+j:Nat):Int):=(by simp[IntKind.wrap,IntKind.signed,IntKind.bits];omega);have u:IntKind.i64.wrap ((IntKind.u64.wrap ((i:Int)+(j:Int))).fdiv (2^min 1 IntKind.u64.bits))=(m:Int):=by
      rw[C];have:(((i+j:Nat):Int)).fdiv (2^min 1 IntKind.u64.bits)=(m:Int):=by rw[Int.fdiv_eq_ediv_of_nonneg _ H9];rw[show((2:Int)^min 1 IntKind.u64.bits)=2 by decide];omega
      rw[this];exact wrap_ok j4 j4
     have v:m<L.length:=j4;have w:=c5z L[m] x;have D:=wk1 m j4;have M:∀a b,(y:a<L.length)→(hb:b<L.length)→a<b→L[a]<L[b]:=fun a b y hb E=>a6c.1 q a b y hb E;by_cases n:L[m]<x
     . simp[t,hw,u,v];refine l8 w ?_;simp[n,D];refine s (m+1,j) _ _ j4 ?_;simp;refine⟨j4,j4,fun k c F=>?_,fun k c hj=>by have:=g4 k c hj;omega⟩;by_cases o:k=m
       . subst o;exact n
       . grind
     . simp[t,hw,u,v];refine l8 w ?_;simp[n];refine s (i,m) _ _ j4 ?_;simp;refine⟨j4,j4,g3,fun k c F=>?_⟩;by_cases o:k=m
       . subst o;omega
       . grind
   . obtain rfl:i=j:=j4;by_cases d:i<L.length
     . by_cases he:L[i]=x
       . have f:x∈L:=he▸C4 d;simp;refine l _ _ _ ?_;simp[d,he];refine g _ _ _ ⟨i,rfl,fun _=>by rw[l9 d,he]⟩ ?_;simp[a6I,f]
       . have f:x∉L:=fun hm=>by
          obtain⟨k,c,z⟩:=a1I hm;have A:=g3 k c;have N:=g4 k c;by_cases G:k<i
          . have:=A G;omega
          . have O:k≠i:=fun e=>(by subst e;exact he z);have:i<k:=j4;have:=a6c.1 q i k d c this;have:=g4 i d (p7 _);omega
         simp;refine l _ _ _ ?_;simp[d,he];refine l8 (c9i L[i]) ?_;simp;refine g _ _ _ ⟨i,rfl,fun h=>absurd h f⟩ ?_;simp[a6I,f]
     . have f:x∉L:=fun hm=>by
        obtain⟨k,c,z⟩:=a1I hm;have A:=g3 k c j4;omega
       simp;refine l _ _ _ ?_;simp[d];refine g _ _ _ ⟨i,rfl,fun h=>absurd h f⟩ ?_;simp[a6I,f]
theorem b2E(L:List Nat)(C:List Int)(x:Nat)(b:L.Pairwise (· < ·))(g:L.length≤1100000000)(k:C.length=L.length):F0 83 [0] [.fptr [.slc (L.map IN),.slc (C.map I)],IN x] (I (a0f L C x)):=by
 refine E1 c83 0 (by simp[X83]) fun Q c l=>?_;obtain⟨r,⟨i,rfl,hi⟩,d⟩:=c7c L x b g;by_cases a:x∈L
 . have j:=hi a;obtain⟨e,m⟩:=C0.1 j;have hid:L.idxOf x=i:=by
    have h1:L.idxOf x<L.length:=List.idxOf_lt_length_of_mem a;have n:L[L.idxOf x]=x:=List.getElem_idxOf h1;rcases Nat.lt_trichotomy (L.idxOf x) i with h|h|h
    . have:=a6c.1 b _ _ h1 e h;omega
    . exact h
    . have:=a6c.1 b _ _ e h1 h;omega
   have f:i<C.length:=j4;simp[X83];refine l8 d ?_;simp[a,f];refine c _ _ ?_;simp[X83,a0f,a,hid,f]
 . simp[X83];refine l8 d ?_;simp[a];refine c _ _ ?_;simp[X83,a0f,a]
abbrev KR(l:List Bool):PV:=.uslc (l.map B)
theorem c0N(t:k7)(s:By)(S4 A5 L7:PV)(cs:List PV)(kn:List (List Bool))(p x:Nat)(l:List Nat)(r0 r1 r2 r3 r4 r5 w y r10 z A r13 C D E F G H I J:Row)(ver i d e g19 g20 c:Nat)
 (T:cs.length≤1100000001) (hp:p<cs.length) (U:cs[p]?=some (.agg [FW l,.nils])) (K:l.length≤1000000) (j:kn.length=5) (f:x<(kn.getD (p%5) []).length) (k:(kn.getD (p%5) [])[x]?=some false):
 ∃r ws,(∃L M g19 g20 c,r=.tup []∧ws=[(6,(1,.arr 2 L false (cs.set p (.agg [FW (l++[x]),.nils])))),(16,(d,.arr 1 M false ((a5C kn p x).map KR))),(19,(g19,.dead)),(20,(g20,.dead)),(26,(c,.dead))])∧
 FI Tryz.prog (.fn (.func 78) [] [.eptr 16 d 5 1 0 0,.ptr 15 i 0]) [IN p,IN x] [r0,r1,r2,r3,r4,r5,(1,.arr 2 ver false cs),(1,.var (TC t++[St s,S4,A5,.own 6 1 cs.length 2 0 cs.length,L7])),w,y,r10,z,A,r13,C,(i,.var [.ptr 7 1 0]),(d,.arr 1 e false (kn.map KR)),D,E,(g19,.dead),(g20,.dead),F,G,H,I,J,(c,.dead)] r ws:=by
 obtain⟨q,N⟩:=s8 (p%5);have hm:(p:Int).tmod 5=(q:Int):=by grind
 have m:q<5:=j4;have n:q<kn.length:=j4;have O:kn.getD q []=kn[q]:=by grind
 unfold a5C;rw[←N,O]at f k⊢;obtain⟨b,hb⟩:=s8 (kn[q]);rw[←hb]at f k⊢;have o:b[x]=false:=by grind
 have P:(b.map B).set x (.bool true)=(b.set x true).map B:=by rw[L6]
 have u:(kn.map KR).set q (.uslc ((b.map B).set x (.bool true)))=(kn.set q (b.set x true)).map KR:=by rw[L6,P]
 have v:cs[p]=.agg [FW l,.nils]:=by grind
 cases l with
 |nil=>
  have g:cs[p]=.agg [.nils,.nils]:=v;refine a3P mixed (X:=X78) c78 (by rfl) (by simp[X78]) k8 (by kernel_rfl) fun Q R h=>?_;simp[X78,hm,m,n,j,←hb,f,o,u,hp,g];refine h _ [(6,(1,.arr 2 (ver+1) false (cs.set p (.agg [.uslc [IN x],.nils])))),(16,(d,.arr 1 e false ((kn.set q (b.set x true)).map KR))),(19,(g19+1,.dead)),(20,(g20+1,.dead)),(26,(c,.dead))] _ _ ⟨ver+1,e,g19+1,g20+1,c,rfl,rfl⟩ ?_;simp[L3,X78]
 |cons a l=>
  have g:cs[p]=.agg [.uslc (IN a::l.map IN),.nils]:=v;have S:(l.length+1+1)*8≤140737488355328:=by simp at K;omega
  refine a3P mixed (X:=X78) c78 (by rfl) (by simp[X78]) k8 (by kernel_rfl) fun Q R h=>?_;simp[X78,hm,m,n,j,←hb,f,o,u,hp,g,S];refine h _ [(6,(1,.arr 2 (ver+2+1) false (cs.set p (.agg [.uslc (IN a::(l++[x]).map IN),.nils])))),(16,(d,.arr 1 e false ((kn.set q (b.set x true)).map KR))),(19,(g19+1,.dead)),(20,(g20,.dead)),(26,(c+1,.dead))] _ _ ⟨ver+2+1,e,g19+1,g20,c+1,rfl,rfl⟩ ?_;simp[L3,X78]
theorem c5h(t:k7)(s:By)(S4 A5 L7:PV)(cs:List PV)(kn:List (List Bool))(p x:Nat)(r0 r1 r2 r3 r4 r5 d e r10 f g r13 h i j k l m n o r u v:Row)(ver a b w:Nat)
 (y:kn.length=5) (c:x<(kn.getD (p%5) []).length) (z:(kn.getD (p%5) [])[x]?=some true):
 FI Tryz.prog (.fn (.func 78) [] [.eptr 16 b 5 1 0 0,.ptr 15 a 0]) [IN p,IN x] [r0,r1,r2,r3,r4,r5,(1,.arr 2 ver false cs),(1,.var (TC t++[St s,S4,A5,.own 6 1 cs.length 2 0 cs.length,L7])),d,e,r10,f,g,r13,h,(a,.var [.ptr 7 1 0]),(b,.arr 1 w false (kn.map KR)),i,j,k,l,m,n,o,r,u,v] (.tup []) []:=by
 obtain⟨q,A⟩:=s8 (p%5);have hm:(p:Int).tmod 5=(q:Int):=by grind
 have B:q<5:=j4;have C:q<kn.length:=j4;have D:kn.getD q []=kn[q]:=by grind
 rw[←A,D]at c z;have E:kn[q][x]=true:=by grind
 refine a3q mixed (X:=X78) c78 (by rfl) (by simp[X78]) k8 fun Q G F=>?_;simp[X78,hm,B,C,y,c,E];refine F _ _ ?_;simp[L3,X78]
set_option maxHeartbeats 16000000
section
variable{c:List (List Nat)}{p i:Nat}{t:k7}
def b6Z:Prop:=∀(k g ver:Nat) (l:List Nat) (h:Heap),h[k]?=some (g,.arr 1 ver false (l.map IN))→0<l.length→l.length<1000000→FI Tryz.prog (.fn (.func 81) [] []) [.own k g l.length 1 0 l.length] h (.tup []) [(k,(g,.arr 1 (ver+1) false ((P4 l).map IN)))]
def b5R:Prop:=∀(h:Heap),FI Tryz.prog (.fn (.func 81) [] []) [.nils] h (.tup []) []
abbrev DS(l:List Nat):PV:=if l=[]then .nils else .slc (l.map IN)
@[simp] theorem d3s:DS []=.nils:=rfl
@[simp] theorem d3f(a:Nat)(l:List Nat):DS (a::l)=.slc (IN a::l.map IN):=rfl
def CS(p:Nat)(c:List (List Nat)):List PV:=(List.range c.length).map fun i=>.agg [if i<p then DS (c.getD i [])else FW (c.getD i []),.nils]
theorem b0w(p:Nat)(c:List (List Nat)):(CS p c).length=c.length:=by simp[CS]
theorem b4C(hi:i<c.length):(CS p c)[i]?=some (.agg [if i<p then DS (c.getD i [])else FW (c.getD i []),.nils]):=by simp[CS,hi]
theorem c3p(p:Nat)(c:List (List Nat)):∀x,x∈CS p c→D9 x=true:=fun x a=>by
 obtain⟨i,_,rfl⟩:=G7.1 a;by_cases h:i<p
 . rw[if_pos h];unfold DS;split<;>rfl
 . rw[if_neg h];unfold FW;split<;>rfl
@[simp ↓] theorem d4r(p:Nat)(c:List (List Nat)):(∀x,x∈CS p c→D9 x=true)=True:=eq_true (c3p p c)
theorem c6f(n:Nat):CS 0 (List.replicate n [])=List.replicate n (.agg [.nils,.nils]):=by
 refine a7X.2 ⟨by simp[CS],fun b hb=>?_⟩;obtain⟨i,hi,rfl⟩:=G7.1 hb
 grind
theorem b5E(l:List Nat)(hp:p≤i):(CS p c).set i (.agg [FW l,.nils])=CS p (c.set i l):=by
 apply a0z (by simp[CS]);intro j h1 a;have hj:j<c.length:=by simpa[CS]using h1
 have e:=T7 c i j l [];rw[a4k];simp only[CS,a0V,a4I]
 grind
theorem c1S(l:List Nat):(CS p c).set p (.agg [DS l,.nils])=CS (p+1) (c.set p l):=by
 apply a0z (by simp[CS]);intro j h1 a;have hj:j<c.length:=by simpa[CS]using h1
 have e:=T7 c p j l [];rw[a4k];simp only[CS,a0V,a4I]
 grind
def knI(N i:Nat):List PV:=(List.range 5).map fun j=>if j<i then KR (List.replicate N false)else .slc []
theorem c5X(N i:Nat):(knI N i).set i (KR (List.replicate N false))=knI N (i+1):=by
 apply a0z (by simp[knI]);intro j h1 a;rw[a4k];simp only[knI,a0V,a4I]
 grind
theorem c1k(N i:Nat):(knI N i).length=5:=by simp[knI]
theorem c8r(N:Nat):knI N 5=(List.replicate 5 (List.replicate N false)).map KR:=by simp[knI,a2F]
theorem c0S(c:s7 t){st:State}(d:st∈j8 t){n:Nat}{a:Nat×Nat}(b:a∈a0u t st n)(g:n≤t.rules.length):a.1<t.rules.length∧a.2<(j8 t).length:=by unfold a0u at b;obtain⟨k,e,hs⟩:=a9J.1 b;obtain⟨s',f,rfl⟩:=C9.1 hs;exact⟨by have:=a2p.1 e;show k<_;omega,a3J (a0g c d f)⟩
theorem b0E{c':List (List Nat)}(h:∀j,∃l,c'.getD j []=c.getD j []++l):∀j y,y∈c.getD j []→y∈c'.getD j []:=fun j y a=>by obtain⟨l,b⟩:=h j;rw[b];exact a4M _ a
theorem Cl.succ{s:By}{x k:Nat}{A:List (Nat×Nat)}(d:(D6 t).getD x []=A)(e:k<A.length)(h:Cl t s i x k c)(g:goes t s i A[k].1=true→A[k].2∈c.getD (i+B7 t A[k].1) []):Cl t s i x (k+1) c:=by
 subst d;intro a b f;rw[J5,l9 e]at b;rcases I5.1 b with b|b
 . exact h a b f
 . grind
theorem b8a(b:s7 t)(k:Nat)(a:k<t.rules.length):B7 t k≤4:=by unfold B7;rw[B0,l9 a];exact(a3d (b.sound _ (C4 a))).p4
theorem a5y{P:Program}{f:PV}{args vs:List PV}{h h0 h1:Heap}{var:Option Nat}{xs:List l5}{l:List PV}{K:B3→Prop}{r:PV}{ws:List (Nat×Row)}(a:FI P f args h0 r ws)(hu:p8 h0 ws=h1)(he:h=h0)
 (b:Xr (fns P) xs ⟨l++[r],I8 vs var r,h1⟩ K):Xy (fns P) f args var xs ⟨l,vs,h⟩ K:=by
 subst he;subst hu;exact b3j a b
abbrev HPw(t:k7)(s:By)(a:Nat)(r0 r1 r2 r3 r4 b d e f r13 g R17:Row)(h p last ver i:Nat)(c:List (List Nat))(kn:List (List Bool))(R18:Row)(g19 g20 j:Nat):Heap:=
 [r0,r1,r2,r3,r4,(1,.arr 3 1 true (F9 (j8 t))),(1,.arr 2 ver false (CS p c)),
  (1,.var (TC t++[St s,.own 5 1 (j8 t).length 3 0 (j8 t).length,.own 10 1 (j8 t).length 1 0 (j8 t).length,.own 6 1 (s.length+1) 2 0 (s.length+1),IN last])),
  b,d,(1,.arr 1 a true ((D6 t).map SA)),e,f,r13,g,(h,.var [.ptr 7 1 0]),(1,.arr 1 i false (kn.map KR)),R17,R18,(g19,.dead),(g20,.dead),dd,dd,dd,dd,dd,(j,.dead)]
theorem c8j(t:k7)(s:By)(b:Nat)(r0 r1 r2 r3 r4 d e f g r13 k R17:Row)(a p last ver m:Nat)(c:List (List Nat))(kn:List (List Bool))(R18:Row)(g19 g20 n i x:Nat)
 (hs:s.length≤1100000000) (L:(j8 t).length≤3072) (h:RI t s p 1 c kn) (h1:p≤i) (E:i≤p+4) (z:i≤s.length) (A:x<(j8 t).length):
 ∃c' B ver' F u v w ws,RI t s p 1 c' B∧(∀j,∃l,c'.getD j []=c.getD j []++l)∧x∈c'.getD i []∧
  FI Tryz.prog (.fn (.func 78) [] [.eptr 16 1 5 1 0 0,.ptr 15 a 0]) [IN i,IN x] (HPw t s b r0 r1 r2 r3 r4 d e f g r13 k R17 a p last ver m c kn R18 g19 g20 n) (.tup []) ws∧
  p8 (HPw t s b r0 r1 r2 r3 r4 d e f g r13 k R17 a p last ver m c kn R18 g19 g20 n) ws=HPw t s b r0 r1 r2 r3 r4 d e f g r13 k R17 a p last ver' F c' B R18 u v w:=by
 have C:(CS p c).length=s.length+1:=by rw[b0w,h.len]
 have M:=h.klen (i%5) j4;have D:x<(kn.getD (i%5) []).length:=j4;have G:i<c.length:=by have:=h.len;omega
 have hlen:(c.getD i []).length≤(j8 t).length:=a3A _ _ (h.nodup i) fun y H=>h.lt i y H;cases hb:(kn.getD (i%5) [])[x]with
 |false=>
  have o:(kn.getD (i%5) [])[x]?=some false:=by grind
  obtain⟨r,ws,⟨I,J,u,v,w,rfl,rfl⟩,q⟩:=c0N t s (.own 5 1 (j8 t).length 3 0 (j8 t).length) (.own 10 1 (j8 t).length 1 0 (j8 t).length) (IN last) (CS p c) kn i x (c.getD i []) r0 r1 r2 r3 r4 (1,.arr 3 1 true (F9 (j8 t))) d e (1,.arr 1 b true ((D6 t).map SA)) f g r13 k R17 R18 dd dd dd dd dd ver a 1 m g19 g20 n
   j4 j4 (by rw[b4C G,if_neg j4]) j4 h.kl D o
  rw[C,b5E _ h1]at q;refine⟨c.set i (c.getD i []++[x]),a5C kn i x,I,J,u,v,w,_,h.add h1 E z A o,fun j=>?_,?_,q,?_⟩
  . rw[T7];split
    . rename_i K;exact⟨[x],by rw[K.1]⟩
    . exact⟨[],k8⟩
  . grind
  . simp[p8]
 |true=>
  have o:(kn.getD (i%5) [])[x]?=some true:=by grind
  have q:=c5h t s (.own 5 1 (j8 t).length 3 0 (j8 t).length) (.own 10 1 (j8 t).length 1 0 (j8 t).length) (IN last) (CS p c) kn i x r0 r1 r2 r3 r4 (1,.arr 3 1 true (F9 (j8 t))) d e (1,.arr 1 b true ((D6 t).map SA)) f g r13 k R17 R18 (g19,.dead) (g20,.dead) dd dd dd dd dd (n,.dead) ver a 1 m h.kl D o;rw[C]at q;exact⟨c,kn,ver,m,g19,g20,n,[],h,fun j=>⟨[],k8⟩,(h.win i h1 j4 z x A).1 o,q,rfl⟩
theorem c3E(t:k7)(s:By)(b:Nat)(r0 r1 r2 r3 r4 d e f g r13 h R17:Row)(a i:Nat)(R18:Row)(g19 g20 j:Nat)
 (hs:s.length≤1100000000) (A:1≤(j8 t).length):
 ∃ver' u k l m ws,
  FI Tryz.prog (.fn (.func 78) [] [.eptr 16 1 5 1 0 0,.ptr 15 a 0]) [I 0,I 0] (HPw t s b r0 r1 r2 r3 r4 d e f g r13 h R17 a 0 0 0 i (List.replicate (s.length+1) []) (List.replicate 5 (List.replicate (j8 t).length false)) R18 g19 g20 j) (.tup []) ws∧
  p8 (HPw t s b r0 r1 r2 r3 r4 d e f g r13 h R17 a 0 0 0 i (List.replicate (s.length+1) []) (List.replicate 5 (List.replicate (j8 t).length false)) R18 g19 g20 j) ws=HPw t s b r0 r1 r2 r3 r4 d e f g r13 h R17 a 0 0 ver' u ((List.replicate (s.length+1) []).set 0 [0]) ((List.replicate 5 (List.replicate (j8 t).length false)).set 0 ((List.replicate (j8 t).length false).set 0 true)) R18 k l m:=by
 obtain⟨c,n⟩:∃c,c=List.replicate (s.length+1) ([]:List Nat):=⟨_,rfl⟩
 obtain⟨kn,o⟩:=s8 (List.replicate 5 (List.replicate (j8 t).length false));have v:c.getD 0 []=[]:=by grind
 have p:kn.getD 0 []=List.replicate (j8 t).length false:=by rw[o];rfl
 have w:(CS 0 c).length=s.length+1:=by rw[b0w,n];simp
 have x:0<c.length:=by rw[n];simp
 rw[←n,←o];obtain⟨r,ws,⟨y,z,k,l,m,rfl,rfl⟩,q⟩:=c0N t s (.own 5 1 (j8 t).length 3 0 (j8 t).length) (.own 10 1 (j8 t).length 1 0 (j8 t).length) (I 0) (CS 0 c) kn 0 0 [] r0 r1 r2 r3 r4 (1,.arr 3 1 true (F9 (j8 t))) d e (1,.arr 1 b true ((D6 t).map SA)) f g r13 h R17 R18 dd dd dd dd dd 0 a 1 i g19 g20 j
  j4 j4 (by rw[b4C x,if_neg j4,v]) k8 (by rw[o];simp) (by grind) (by rw[show 0%5=0 from rfl,p];rw[List.getElem?_replicate,if_pos j4])
 rw[w,b5E _ (p7 0)]at q;refine⟨y,z,k,l,m,_,q,?_⟩;simp[p8,a5C,p];rw[←p];simp
structure RV where
 (v5 v6 v7 v8 v9 v10 v11 v16 v17 v18 v19 v20 v21 v22 v23 v24:PV)
abbrev VS(a n:Nat)(v3:PV)(p:Nat)(x:RV):List PV:=[.ptr 7 1 0,.ptr 15 a 0,.eptr 16 1 5 1 0 0,v3,.fn (.func 78) [] [.eptr 16 1 5 1 0 0,.ptr 15 a 0],x.v5,x.v6,x.v7,x.v8,x.v9,x.v10,x.v11,IN 5,.bool false,IN (n+1),IN p,x.v16,x.v17,x.v18,x.v19,x.v20,x.v21,x.v22,x.v23,x.v24]
theorem c2r(hS:b6Z)(aG:b5R)(t:k7)(D:s7 t)(s:By)(hs:s.length≤1100000000)(n:Nat)(r0 r1 r2 r3 r4 o u v w r13 z:Row)(g15:Nat):
 ∃r ws,(∃c kn last ver R15 R16 R17 R18 g19 g20 b,r=.tup []∧RI t s (s.length+1) 0 c kn∧ws=[(6,(1,.arr 2 ver false (CS (s.length+1) c))),
  (7,(1,.var (TC t++[St s,.own 5 1 (j8 t).length 3 0 (j8 t).length,.own 10 1 (j8 t).length 1 0 (j8 t).length,.own 6 1 (s.length+1) 2 0 (s.length+1),IN last]))),
  (15,R15),(16,R16),(17,R17),(18,R18),(19,(g19,.dead)),(20,(g20,.dead)),(26,(b,.dead))])∧
 FI Tryz.prog (.fn (.func 41) [] []) [.ptr 7 1 0] [r0,r1,r2,r3,r4,(1,.arr 3 1 true (F9 (j8 t))),(1,.arr 2 0 false (List.replicate (s.length+1) (.agg [.nils,.nils]))),
  (1,.var (TC t++[St s,.own 5 1 (j8 t).length 3 0 (j8 t).length,.own 10 1 (j8 t).length 1 0 (j8 t).length,.own 6 1 (s.length+1) 2 0 (s.length+1),I 0])),
  o,u,(1,.arr 1 n true ((D6 t).map SA)),v,w,r13,z,(g15,.dead),dd,dd,dd,dd,dd,dd,dd,dd,dd,dd,dd] r ws:=by
 have ah:=a1F D;have ai:=a2J D;have aH:(j8 t).length≤140737488355328:=j4;have aI:(j8 t).length≤9223372036854775807:=j4;rw[←c6f];refine a3P mixed (X:=X41) c41 (by rfl) (by simp[X41]) k8 (by kernel_rfl) fun Q bz ah=>?_;simp[X41];refine F5 (fun(p:Nat×PV×PV×Nat×Nat) vs h=>p.1≤5∧vs=[.ptr 7 1 0,.ptr 15 (g15+1) 0,.eptr 16 1 5 1 0 0,p.2.1,.uu,.uu,.uu,.uu,.uu,.uu,.uu,.uu,IN p.1,p.2.2.1,.uu,.uu,.uu,.uu,.uu,.uu,.uu,.uu,.uu,.uu,.uu]∧
  h=[r0,r1,r2,r3,r4,(1,.arr 3 1 true (F9 (j8 t))),(1,.arr 2 0 false (CS 0 (List.replicate (s.length+1) []))),
   (1,.var (TC t++[St s,.own 5 1 (j8 t).length 3 0 (j8 t).length,.own 10 1 (j8 t).length 1 0 (j8 t).length,.own 6 1 (s.length+1) 2 0 (s.length+1),I 0])),
   o,u,(1,.arr 1 n true ((D6 t).map SA)),v,w,r13,z,(g15+1,.var [.ptr 7 1 0]),(1,.arr 1 p.2.2.2.1 false (knI (j8 t).length p.1)),(p.2.2.2.2,.dead),dd,dd,dd,dd,dd,dd,dd,dd,dd]) (fun p=>5-p.1) (0,.uu,.uu,0,0) ?_ ?_
 . simp[knI,a2F]
 . rintro⟨i,v3,v13,d,g17⟩ vs h ⟨g1,rfl,rfl⟩ Q' aJ aK bA;dsimp only at g1;by_cases hi:i<5
   . have hw:=wk1 i j4;have N:(knI (j8 t).length i).set i (.uslc (List.replicate (j8 t).length (.bool false)))=knI (j8 t).length (i+1):=(by rw[←c5X];simp[KR]);have aL:(knI (j8 t).length i)[i]'(by rw[c1k];exact hi)=.slc []:=(by simp[knI]);simp[hi,hw,aH,aI,c1k,N,aL];exact aJ (i+1,_,_,_,_) _ _ j4 ⟨u7,rfl,rfl⟩
   . obtain rfl:i=5:=j4;rw[c8r];obtain⟨aM,aN⟩:∃kn,kn=List.replicate 5 (List.replicate (j8 t).length false):=⟨_,rfl⟩
     obtain⟨aO,aP,aQ,aR,aS,bB,aj,T⟩:=c3E t s n r0 r1 r2 r3 r4 o u v w r13 z (g17,.dead) (g15+1) d dd 0 0 0 hs ai;have ak:=RI.start (t:=t) (s:=s) ai;rw[←aN]at ak aj T⊢;obtain⟨c0,aT⟩:∃c,c=(List.replicate (s.length+1) ([]:List Nat)).set 0 [0]:=⟨_,rfl⟩
     obtain⟨aU,aV⟩:∃k,k=aM.set 0 ((List.replicate (j8 t).length false).set 0 true):=⟨_,rfl⟩
     rw[←aT,←aV]at ak T;simp;refine aK _ _ _ ?_;simp;refine a5y aj T rfl ?_;simp[HPw];have aW:∀(p k:Nat),(B:k<t.rules.length)→(t.rules[k]).print.isPrefixOf (s.drop p)=goes t s p k:=fun p k B=>by unfold goes;rw[B0,l9 B];rfl
     refine F5 (fun(q:Nat×List (List Nat)×List (List Bool)×Nat×Nat×Nat×Row×Nat×Nat×Nat×RV) vs h=>q.1≤s.length+1∧RI t s q.1 0 q.2.1 q.2.2.1∧vs=VS (g15+1) s.length v3 q.1 q.2.2.2.2.2.2.2.2.2.2∧
      h=HPw t s n r0 r1 r2 r3 r4 o u v w r13 z (g17,.dead) (g15+1) q.1 q.2.2.2.1 q.2.2.2.2.1 q.2.2.2.2.2.1 q.2.1 q.2.2.1 q.2.2.2.2.2.2.1 q.2.2.2.2.2.2.2.1 q.2.2.2.2.2.2.2.2.1 q.2.2.2.2.2.2.2.2.2.1) (fun q=>s.length+1-q.1) (0,c0,aU,0,aO,aP,dd,aQ,aR,aS,⟨.uu,.uu,.uu,.uu,.uu,.uu,.uu,.uu,.uu,.uu,.uu,.uu,.uu,.uu,.uu,.uu⟩) ?_ ?_
     . grind
     . rintro⟨p,c,kn,last,ver,d,R18,g19,g20,b,⟨v5,v6,v7,v8,v9,v10,v11,v16,v17,v18,v19,v20,v21,v22,v23,v24⟩⟩ vs h ⟨aX,O,rfl,rfl⟩ Q2 al aY bC;dsimp only at aX O;by_cases hp:p<s.length+1
       . have am:=wk1 p j4;have C:(p:Int)<(s.length:Int)+1:=j4;have an:p<c.length:=(by have:=O.len;omega);have E:∀c',RI t s p 1 c' kn→True:=fun _ _=>trivial;obtain⟨w6,⟨cl,bD,ao⟩,aZ,a0⟩:∃w6:PV,(∃cl,cl≤5∧w6=IN cl)∧((h:p<s.length)→IN (a1u s[p])=w6)∧(¬p<s.length→I 0=w6):=by
          by_cases h:p<s.length
          . exact⟨IN (a1u s[p]),⟨_,b1q _,rfl⟩,fun _=>rfl,fun h'=>absurd h h'⟩
          . grind
         by_cases P:p<s.length
         case' pos=>
          simp[HPw,VS,hp,C,P];refine l8 (b0Y s[p]) ?_;simp;have ap:=aZ P
         case' neg=>
          simp[HPw,VS,hp,C,P];have ap:=a0 P
         all_goals
          refine F5 (fun(q:Nat×List (List Nat)×List (List Bool)×Nat×Nat×Nat×Row×Nat×Nat×Nat×RV) vs h=>q.1≤(q.2.1.getD p []).length∧RI t s p 1 q.2.1 q.2.2.1∧(∀j y,j<q.1→(q.2.1.getD p [])[j]?=some y→Cl t s p y ((D6 t).getD y []).length q.2.1)∧
           vs=VS (g15+1) s.length v3 p {q.2.2.2.2.2.2.2.2.2.2 with v5:=IN p,v6:=w6,v7:=IN q.1}∧
           h=HPw t s n r0 r1 r2 r3 r4 o u v w r13 z (g17,.dead) (g15+1) p q.2.2.2.1 q.2.2.2.2.1 q.2.2.2.2.2.1 q.2.1 q.2.2.1 q.2.2.2.2.2.2.1 q.2.2.2.2.2.2.2.1 q.2.2.2.2.2.2.2.2.1 q.2.2.2.2.2.2.2.2.2.1) (fun q=>(j8 t).length-q.1) (0,c,kn,last,ver,d,R18,g19,g20,b,⟨.uu,.uu,.uu,_,_,_,_,_,_,_,_,_,_,_,_,_⟩) ⟨E0 _,O.enter,fun j y hj=>absurd hj j4,by rw[←ap];rfl,rfl⟩ ?_
          rintro⟨i,c,kn,last,ver,d,R18,g19,g20,b,⟨v5,v6,v7,v8,v9,v10,v11,v16,v17,v18,v19,v20,v21,v22,v23,v24⟩⟩ vs h ⟨aq,f,R,rfl,rfl⟩ Q3 a1 ar bE;dsimp only at aq f R;have an:p<c.length:=(by have:=f.len;omega);have E:(CS p c).length=s.length+1:=(by rw[b0w,f.len]);have g:(CS p c)[p]?=some (.agg [FW (c.getD p []),.nils]):=by have:=b4C (p:=p) an;rw[if_neg j4]at this;exact this
          obtain⟨L,F⟩:=s8 (c.getD p []);rw[←F]at g aq R;have bF:L.length≤(j8 t).length:=F▸a3A _ _ (f.nodup p) fun y G=>f.lt p y G;by_cases hi:i<L.length
          . have H:FW L=.uslc (L.map IN):=if_neg (fun e=>by subst e;simp at hi);rw[H]at g;have m:L[i]<(j8 t).length:=f.lt p _ (F▸C4 hi);obtain⟨x,au⟩:=s8 (L[i]);rw[←au]at m;have a2:(D6 t)[x]?=some (a0u t (j8 t)[x] t.rules.length):=(by simp[D6,m]);obtain⟨A,U⟩:=s8 (a0u t (j8 t)[x] t.rules.length);rw[←U]at a2;have V:(D6 t).length=(j8 t).length:=(by simp[D6]);have a3:(D6 t)[x]'j4=A:=(by grind);have av:(D6 t).getD x []=A:=(by grind);have bG:A.length≤64:=(by have:=b1z t (j8 t)[x] t.rules.length;have:=D.l64;rw[U];omega);have a4:∀a∈A,a.1<t.rules.length∧a.2<(j8 t).length:=fun a W=>c0S D (C4 m) (U▸W) (p7 _);have a5:=wk1 i j4;simp[HPw,VS,E,C,g,hi,←au,m,ao];refine d1i rfl (fun a6=>?_) (fun a6=>?_)
            all_goals
             simp[a3,V,m];refine F5 (fun(q:Nat×List (List Nat)×List (List Bool)×Nat×Nat×Nat×Row×Nat×Nat×Nat×RV) vs h=>q.1≤A.length∧RI t s p 1 q.2.1 q.2.2.1∧(∀j,∃l,q.2.1.getD j []=c.getD j []++l)∧Cl t s p x q.1 q.2.1∧
              vs=VS (g15+1) s.length v3 p {q.2.2.2.2.2.2.2.2.2.2 with v5:=IN p,v6:=IN cl,v7:=IN i,v8:=IN x,v20:=SA A,v21:=IN A.length,v22:=IN q.1}∧
              h=HPw t s n r0 r1 r2 r3 r4 o u v w r13 z (g17,.dead) (g15+1) p q.2.2.2.1 q.2.2.2.2.1 q.2.2.2.2.2.1 q.2.1 q.2.2.1 q.2.2.2.2.2.2.1 q.2.2.2.2.2.2.2.1 q.2.2.2.2.2.2.2.2.1 q.2.2.2.2.2.2.2.2.2.1) (fun q=>A.length-q.1) (0,c,kn,_,ver,d,R18,g19,g20,b,⟨.uu,.uu,.uu,.uu,_,_,_,_,_,_,_,.uu,.uu,.uu,_,_⟩) ⟨E0 _,f,fun j=>⟨[],k8⟩,fun a W=>by simp at W,rfl,rfl⟩ ?_
             rintro⟨k,c',Y,last,ver,d,R18,g19,g20,b,⟨v5,v6,v7,v8,v9,v10,v11,v16,v17,v18,v19,v20,v21,v22,v23,v24⟩⟩ vs h ⟨a7,J,K,Z,rfl,rfl⟩ Q4 aw a8 bH;dsimp only at a7 J K Z;by_cases B:k<A.length
             . have ax:=wk1 k j4;obtain⟨S,a9⟩:=a4 _ (C4 B);have ay:(CS p c').length=s.length+1:=(by rw[b0w,J.len]);have aa:List.map (B6∘SA) (D6 t)=(D6 t).map SA:=O1 fun _ _=>rfl;have ba:List.take (j8 t).length (List.map SA (D6 t))=(D6 t).map SA:=a0t (by simp[V]);have bb:List.take (j8 t).length (List.map SP (j8 t))=(j8 t).map SP:=a0t k8;have bc:List.take (s.length+1) (List.map B6 (CS p c'))=(CS p c').map B6:=a0t (by simp[ay]);have az:=fun bd be bf bg=>b2y t s bd be bf bg p A[k].1 j4 hs D.ok S;have bI:=b8a D A[k].1 S;have bh:(t.rules[A[k].1]).print.length=B7 t A[k].1:=(by unfold B7;rw[B0,l9 S];rfl);rw[aW p _ S,bh]at az;simp[HPw,VS,B,V,ay,aa,ba,bb,bc];refine l8 (az _ _ _ _) ?_;cases aA:goes t s p A[k].1 with
               |false=>
                simp[ax];exact aw (k+1,c',Y,last,ver,d,_,g19,g20,b,⟨.uu,.uu,.uu,.uu,_,_,_,_,_,_,_,.uu,.uu,.uu,_,_⟩) _ _ j4 ⟨u7,J,K,Z.succ av B (fun e=>by rw[aA]at e;cases e),rfl,rfl⟩
               |true=>
                have hle:=a5G aA;obtain⟨c2,bi,bj,bk,bl,bm,bn,ws,bo,aB,bp,bq,br⟩:=c8j t s n r0 r1 r2 r3 r4 o u v w r13 z (g17,.dead) (g15+1) p last ver d c' Y (R18.1+1,.var [IN A[k].1,IN A[k].2]) g19 g20 b (p+B7 t A[k].1) A[k].2 hs j4 J j4 j4 j4 a9;simp;refine a5y bq br rfl ?_;simp[HPw,ax];exact aw (k+1,c2,bi,last,bj,bk,_,bl,bm,bn,⟨.uu,.uu,.uu,.uu,_,_,_,_,_,_,_,.uu,.uu,.uu,_,_⟩) _ _ j4 ⟨u7,bo,fun j=>by obtain⟨l1,h1⟩:=K j;obtain⟨bs,ab⟩:=aB j;exact⟨l1++bs,by rw[ab,h1,a2o]⟩,(Z.mono (b0E aB)).succ av B (fun _=>bp),rfl,rfl⟩
             . obtain rfl:k=A.length:=j4;simp[VS];refine a8 _ _ _ ?_;simp[a5];obtain⟨l1,h1⟩:=K p;rw[←F]at h1;refine a1 (i+1,c',Y,last,ver,d,_,g19,g20,b,⟨.uu,.uu,.uu,_,_,_,_,_,_,_,_,_,_,_,_,_⟩) _ _ j4 ⟨by dsimp only;rw[h1];simp;omega,J,fun j y hj G=>?_,by rw[ao];rfl,rfl⟩;dsimp only at hj G⊢;rw[h1,a1k j4]at G;by_cases bJ:j=i
               . grind
               . exact(R j y j4 G).mono (b0E K)
          . have bt:i=L.length:=j4;obtain⟨q,bu⟩:=s8 (p%5);have hm:(p:Int).tmod 5=(q:Int):=(by grind);have ac:q<5:=j4;have aC:=f.kl;have aD:q<kn.length:=j4;have bv:kn.getD q []=kn[q]:=(by grind);have ad:=f.klen q ac;rw[bv]at ad;have ae:=f.next j4 fun x m=>by
             rw[←F]at m;obtain⟨j,hj,rfl⟩:=a1I m;exact R j _ j4 (l9 hj)
            rw[←bu,←F]at ae;have N:(kn.map KR).set q (.uslc (List.replicate (j8 t).length (.bool false)))=(kn.set q (List.replicate (j8 t).length false)).map KR:=(by rw[L6];unfold KR;rw[List.map_replicate]);by_cases M:L=[]
            . have H:FW L=.nils:=(by rw[M];rfl);have bw:i=0:=(by grind);rw[H]at g;have af:CS p c=CS (p+1) (c.set p (P4 L)):=by
               have h1:=c1S (p:=p) (c:=c) [];rw[M];have ab:(CS p c).set p (.agg [DS [],.nils])=CS p c:=by
                apply a4g;intro j;rw[a7Y];by_cases hj:p=j
                . grind
                . rw[if_neg hj]
               rw[←ab,h1,show P4 []=[]by simp[P4]]
              subst bw;simp[HPw,VS,E,C,g];refine ar _ _ _ ?_;simp[E,C,g];refine U5 (aG _) ?_;simp[hm,ac,aD,aC,ad,N,af,am];exact al (p+1,c.set p (P4 L),kn.set q (List.replicate (j8 t).length false),last,ver,d,R18,g19,g20,b,⟨_,_,_,_,_,_,_,_,_,_,_,_,_,_,_,_⟩) _ _ j4 ⟨u7,ae,rfl,by simp[HPw,L6]⟩
            . have H:FW L=.uslc (L.map IN):=if_neg M;rw[H]at g;have aE:0<L.length:=a2E.2 M;simp[HPw,VS,E,C,g,bt];refine ar _ _ _ ?_;obtain⟨a,bx⟩:∃a,L.head?=some a:=by
               cases L with
               |nil=>exact absurd rfl M
               |cons a l=>exact⟨a,rfl⟩
              have aF:∀X:PV,((CS p c).set p X)[p]?=some X:=fun X=>(by rw[a7Y,if_pos rfl,if_pos j4]);simp[E,C,g,aE,bx,aF];refine U5 (hS 26 (b+1) 0 L _ rfl aE j4) ?_;have ag:=b1Q L;have aa:List.map (B6∘IN) (P4 L)=(P4 L).map IN:=O1 fun _ _=>rfl;have af:(CS p c).set p (.agg [.slc ((P4 L).map IN),.nils])=CS (p+1) (c.set p (P4 L)):=by rw[←c1S,show DS (P4 L)=.slc ((P4 L).map IN)from if_neg (fun e=>by rw[e]at ag;simp at ag;omega)]
              simp[hm,ac,aD,aC,ad,N,am,g,ag,aF,aa,af];exact al (p+1,c.set p (P4 L),kn.set q (List.replicate (j8 t).length false),last,ver+2+1,d,R18,g19,g20,b+1,⟨_,_,_,_,_,_,_,_,_,_,_,_,_,_,_,_⟩) _ _ j4 ⟨u7,ae,rfl,by simp[HPw,L6]⟩
       . obtain rfl:p=s.length+1:=j4;simp[HPw,VS];refine aY _ _ _ ?_;simp;refine ah _ [(6,(1,.arr 2 ver false (CS (s.length+1) c))),
          (7,(1,.var (TC t++[St s,.own 5 1 (j8 t).length 3 0 (j8 t).length,.own 10 1 (j8 t).length 1 0 (j8 t).length,.own 6 1 (s.length+1) 2 0 (s.length+1),IN last]))),
          (15,(g15+1,.var [.ptr 7 1 0])),(16,(1,.arr 1 d false (kn.map KR))),(17,(g17,.dead)),(18,R18),(19,(g19,.dead)),(20,(g20,.dead)),(26,(b,.dead))] _ _ ⟨c,kn,last,ver,_,_,_,_,g19,g20,b,rfl,O,rfl⟩ ?_
         simp[L3,X41]
end
def X42:u9:=
 ⟨109,[0,1,2,3,4,5,6,7,8,9,16,37,38,39,40,70,83,84,85,95,96,97,107,108],26,[],sq [.reg [H4 1 21 0],.reg [G5 1 1,C7 0,ok 3 1,ob 1 2,obp 3,ow 2 (.alloc 22 [.int .i64 0]),og 1 5 4],.block 0 (.loop (sq [sq [.reg [G5 1 2,ow 10 (.bin .geq false (.l 0) (oi 0))],B9 10 0],.block 1 (sq [.reg [odt 1 1 23,ocx 0 23,ock 6 1 23,Q7 1 2 23,odt 1 2 23,obo 2 3 4 23,ow 3 (.alloc 23 [.lit (.pointer none)]),og 1 6 5],.reg [odt 1 3 24,G5 1 3,C7 1,ok 0 2,ob 1 3,E6 4,oq (.makeSlice 24 1 8 (.int .i64 0) (.l 5) (.l 5)),C7 0,ok 1 7,og 1 8 6],sq [.reg [G5 1 3,C7 0,ok 0 1,Z3 11 1 2,N4 12 3,ov 13 0],.block 2 (.loop (sq [ki 14 13 12,B9 14 2,.block 3 (sq [.reg [oa 13,N8 1 11 13,ob 1 1,oc 4 0,oc 5 2],.reg [G5 1 3,C7 0,ok 1 1,ob 1 2,oa 4,ol 1 3 4,oq (.store 1 (.l 5) (oi (-1)))],.reg [G5 1 2,G5 1 1,C7 1,ok 3 2,ob 1 3,obp 4,ocq 0 5,om 6,odi 1 1 7,obe 8 7,oaw 0 9 7,⟨.load true 3 (.l 10),none,some (.l 7,true),[]⟩,odi 1 1 7,obe 12 7,oaw 4 13 7,oe 1 14 7,oj 5 7,oau 3 15 16 7,⟨.load true 3 (.l 17),none,some (.l 7,true),[]⟩,obb 21 11 18 0 0 7,V1 15 7 19],.cond (.v 15) (.reg [G5 1 3,C7 0,ok 1 1,ob 1 2,oa 4,ol 1 3 4,oq (.store 1 (.l 5) (oi 0))]) kc]),ke 13 1 13 0]))],.reg [oq (.mkfn (.func 82) [] [.v 1,.v 3,.v 2]),oc 6 0],sq [.reg [G5 1 3,C7 0,ok 0 1,ob 1 2,N4 16 3,ov 17 0],.block 4 (.loop (sq [ki 18 17 16,B9 18 4,.block 5 (sq [kf 17 7 0,.reg [oa 6,oa 7,oq (.cally (.l 0) [.l 1,.c (.bool false)])]]),ke 17 1 17 0]))],kc,.block 6 (.loop (.block 7 (sq [kk 8,sq [.reg [G5 1 3,C7 0,ok 0 1,ob 1 2,N4 19 3,ov 20 0],.block 8 (.loop (sq [ki 21 20 19,B9 21 8,.block 9 (sq [kf 20 9 0,.reg [oa 6,oa 9,oq (.cally (.l 0) [.l 1,.c (.bool true)]),om 2,N2 8 3,U9 3 4,oc 8 5]]),ke 20 1 20 0]))],kaf 8 22 0,kau 22 6])))]),sq [.reg [ow 23 (.load false 1 (.v 2))],.reg [ow 2 (.alloc 25 [.int .i64 0]),oq (.store 1 (.l 0) (.v 23))]],.reg [G5 1 2,obk 0 1,L0 1 2 1]]))]⟩
def X82:u9:=
 ⟨104,[0,1,2,3,4,7,8,10,11,12,13,14,27,28,29,30,49,94],27,[(5,none)],sq [kk 5,kk 6,sq [.reg [G5 1 2,C7 0,ok 5 1,ob 1 2,G5 1 3,C7 4,ok 0 5,ob 1 6,oa 0,ol 1 7 8,ob 1 9,ol 1 3 10,Z3 12 1 11,N4 13 12,ov 14 0],.block 0 (.loop (sq [ki 15 14 13,B9 15 0,.block 1 (sq [.reg [N8 2 12 14,J7 2 0,odk 7 26 0 0,og 2 2 1],.reg [G5 1 2,G5 1 4,od 0 7,ob 1 2,oq (.call 80 [.l 0,.l 1,.l 3] [(0,0),(0,0)] false),om 4,oy 5 0,oy 5 1,oc 8 6,oc 9 7],sq [.reg [oa 9,odu 0,om 1,N2 8 2,⟨.load false 1 (.v 4),none,some (.l 2,false),[]⟩,⟨.bin .eql false (.l 3) (.l 4),none,some (.l 2,false),[]⟩,N2 1 2,⟨.bin .neq true (.l 5) (.l 6),none,some (.l 2,false),[]⟩,W9 16 2 7],kau 16 1],.reg [G5 1 2,C7 0,ok 6 1,ob 1 2,oa 8,ol 2 3 4,od 1 7,ob 1 6,oay 83 5 7 0 0,oc 10 8],.reg [oa 10,G5 1 2,C7 1,ok 0 2,ok 2 3,ob 1 4,od 0 7,ob 1 6,ol 6 5 7,ok 1 8,ob 1 9,E6 10,obq 0 11,oc 11 12],.reg [oa 10,ofh 0 0,om 1,odi 1 3 2,obe 3 2,oaw 1 4 2,oe 1 5 2,oj 0 2,oau 1 6 7 2,oe 1 8 2,obn 9 0 2,⟨.mv (.l 10),none,some (.l 2,true),[]⟩,N2 11 11,⟨.load false 1 (.v 3),none,some (.l 11,false),[]⟩,⟨.nilchk (.l 13),none,some (.l 11,false),[]⟩,⟨.fieldAddr 1 (.l 14),none,some (.l 11,false),[]⟩,os 1 15 11,N2 0 11,⟨.indexAddr 1 (.l 16) (.l 17),none,some (.l 11,false),[]⟩,os 1 18 11,odm 12 19 11,oew 11 20 2,V1 17 2 21],.cond (.v 17) (sq [.reg [G5 1 3,C7 0,ok 1 1,ob 1 2,oa 0,oa 11,ol 1 3 4,og 1 6 5],kad 6]) kc]),ke 14 1 14 0]))],kf 6 5 0,ko]⟩
theorem c42:L9 Tryz.prog 42 21=some {X42 with body:=strip X42.body}:=by kernel_rfl
theorem c82:L9 Tryz.prog 82 26=some {X82 with body:=strip X82.body}:=by kernel_rfl
abbrev DC(L:List Nat)(D:List Int):PV:=.agg [DS L,.uslc (D.map I)]
@[simp] theorem d4O(l:List Nat):K5 (DS l)=.slc (l.map IN):=by
 unfold DS;split
 . rename_i h;rw[h];rfl
 . rfl
theorem b5z(t:k7)(Y:s7 t)(s:By)(hs:s.length≤1100000000)(aA:Nat)(r0 r1 r2 r3 r4 af ag ah ai r13 aj ak al am an ao ap R22 aq R25 aB:Row)(ad gc ab kp last ver:Nat)
 (K:List PV) (p:Nat) (L:List Nat) (c:Nat→List Nat) (C:Nat→List Int) (D:List Int) (i:Nat) (silent:Bool) (M:Int)
 (aH:kp=22∧R22=(ab,.var [IN p])∨kp=25∧R25=(ab,.var [IN p])) (F:K.length=s.length+1) (hp:p≤s.length) (aI:∀x∈K,D9 x=true)
 (aJ:∀j,p<j→j≤s.length→K[j]?=some (DC (c j) (C j))) (aK:∀j,p<j→j≤s.length→(c j).Pairwise (· < ·)∧(C j).length=(c j).length∧(c j).length≤3072∧∀x∈C j,x≤M)
 (aL:L.Pairwise (· < ·)) (aM:D.length=L.length) (aN:∀x∈L,x<(j8 t).length) (bk:L.length≤3072) (hi:i<L.length) (aO:∀x∈D,x≤M) (bl:0≤M) (bm:M≤1000000000000000):
 ∃r ws,(∃aP aQ aR,r=B (V6 t s p L c C i silent D ((D6 t).getD (L.getD i 0) [])).2∧
  ws=[(6,(1,.arr 2 aP false (K.set p (DC L (V6 t s p L c C i silent D ((D6 t).getD (L.getD i 0) [])).1)))),(26,(aQ,aR))])∧
 FI Tryz.prog (.fn (.func 82) [] [.ptr 21 ad 0,.ptr 23 gc 0,.ptr kp ab 0]) [IN i,B silent] [r0,r1,r2,r3,r4,(1,.arr 3 1 true (F9 (j8 t))),(1,.arr 2 ver false (K.set p (DC L D))),
  (1,.var (TC t++[St s,.own 5 1 (j8 t).length 3 0 (j8 t).length,.own 10 1 (j8 t).length 1 0 (j8 t).length,.own 6 1 (s.length+1) 2 0 (s.length+1),IN last])),
  af,ag,(1,.arr 1 aA true ((D6 t).map SA)),ah,ai,r13,aj,ak,al,am,an,ao,ap,(ad,.var [.ptr 7 1 0]),R22,(gc,.var [.eptr 6 1 (s.length+1) 2 p 0]),aq,R25,aB] r ws:=by
 have aS:=a1F Y;have P:L[i]<(j8 t).length:=aN _ (C4 hi);have aT:L.getD i 0=L[i]:=by rw[B0,l9 hi];rfl
 rw[aT];obtain⟨x,aC⟩:=s8 (L[i]);rw[←aC]at P⊢;obtain⟨A,ar⟩:=s8 (a0u t (j8 t)[x] t.rules.length);have au:(D6 t).length=(j8 t).length:=by simp[D6]
 have aD:(D6 t)[x]'j4=A:=by simp[D6,ar]
 have aU:(D6 t).getD x []=A:=by rw[B0,l9 j4,aD];rfl
 rw[aU];have bn:A.length≤64:=by have:=b1z t (j8 t)[x] t.rules.length;have:=Y.l64;rw[ar];omega
 have aV:∀a∈A,a.1<t.rules.length∧a.2<(j8 t).length:=fun a aW=>c0S Y (C4 P) (ar▸aW) (p7 _);have J:DS L=.slc (L.map IN):=if_neg (fun e=>by subst e;simp at hi);have N:∀X:PV,(K.set p X)[p]?=some X:=fun X=>by rw[a7Y,if_pos rfl,if_pos j4]
 have O:(p:Int)<(s.length:Int)+1:=j4;have aE:∀l:List Int,DC L l=.agg [.slc (L.map IN),.uslc (l.map I)]:=fun l=>by unfold DC;rw[J]
 have aX:∀k,(Z:k<A.length)→(A.take (k+1)).foldl (P9 t s p L c C i silent) (D,false)=P9 t s p L c C i silent ((A.take k).foldl (P9 t s p L c C i silent) (D,false)) A[k]:=fun k Z=>by rw[J5,l9 Z,b2a];rfl
 have aY:∀k,((A.take k).foldl (P9 t s p L c C i silent) (D,false)).1.length=L.length:=fun k=>by have:=c2f (t:=t) (s:=s) (p:=p) (L:=L) (c:=c) (C:=C) (i:=i) (silent:=silent) (A.take k) D;rw[←aM];exact this
 have g:∀R5 R6 R7 R10 R21 R23 R26:Row,[r0,r1,r2,r3,r4,R5,R6,R7,af,ag,R10,ah,ai,r13,aj,ak,al,am,an,ao,ap,R21,R22,R23,aq,R25,R26][kp]?=some (ab,.var [IN p]):=fun _ _ _ _ _ _ _=>by rcases aH with⟨rfl,rfl⟩|⟨rfl,rfl⟩<;>rfl
 refine a3P mixed (X:=X82) c82 (by rfl) (by simp[X82]) k8 (by kernel_rfl) fun Q aZ aS=>?_;simp[g,X82,DC,N,J,F,hp,O,hi,←aC,P,au,aD];refine F5 (fun(q:Nat×Nat×Row×PV×PV×PV×PV×PV×PV×PV×PV) vs h=>q.1≤A.length∧(∀x∈((A.take q.1).foldl (P9 t s p L c C i silent) (D,false)).1,x≤M+4*q.1)∧
  vs=[IN i,B silent,.ptr 21 ad 0,.ptr 23 gc 0,.ptr kp ab 0,B false,B ((A.take q.1).foldl (P9 t s p L c C i silent) (D,false)).2,q.2.2.2.1,q.2.2.2.2.1,q.2.2.2.2.2.1,q.2.2.2.2.2.2.1,q.2.2.2.2.2.2.2.1,.slc (A.map ARw),IN A.length,IN q.1,q.2.2.2.2.2.2.2.2.1,q.2.2.2.2.2.2.2.2.2.1,q.2.2.2.2.2.2.2.2.2.2]∧
  h=[r0,r1,r2,r3,r4,(1,.arr 3 1 true (F9 (j8 t))),(1,.arr 2 q.2.1 false (K.set p (.agg [.slc (L.map IN),.uslc (((A.take q.1).foldl (P9 t s p L c C i silent) (D,false)).1.map I)]))),
   (1,.var (TC t++[St s,.own 5 1 (j8 t).length 3 0 (j8 t).length,.own 10 1 (j8 t).length 1 0 (j8 t).length,.own 6 1 (s.length+1) 2 0 (s.length+1),IN last])),
   af,ag,(1,.arr 1 aA true ((D6 t).map SA)),ah,ai,r13,aj,ak,al,am,an,ao,ap,(ad,.var [.ptr 7 1 0]),R22,(gc,.var [.eptr 6 1 (s.length+1) 2 p 0]),aq,R25,q.2.2.1]) (fun q=>A.length-q.1) (0,ver,aB,.uu,.uu,.uu,.uu,.uu,.uu,.uu,.uu) ⟨E0 _,fun x P=>by have:=aO x P;omega,rfl,rfl⟩ ?_
 rintro⟨k,ver,R26,v7,v8,v9,v10,v11,v15,v16,v17⟩ vs h ⟨a0,n,rfl,rfl⟩ Q2 v aF a1;dsimp only at a0 n;by_cases Z:k<A.length
 . have w:=wk1 k j4;obtain⟨o,bo⟩:=aV _ (C4 Z);have u:=aX k Z;have av:=aY k;have z:∀m:Nat,M+4*(m:Int)≤M+4*((m+1:Nat):Int):=fun m=>(by omega);generalize(A.take k).foldl (P9 t s p L c C i silent) (D,false)=st at n u av v aF a1⊢;obtain⟨E,b⟩:=st;dsimp only at n av;have a2:∀X:PV,D9 X=true→(∀x,x∈K.set p X→D9 x=true)=True:=fun X a3=>eq_true fun x P=>by
    rcases a5o P with h|h
    . exact aI x h
    . rw[h];exact a3
   have a4:=a2 (.agg [.slc (L.map IN),.uslc (E.map I)]) rfl;have a5:List.map (B6∘SA) (D6 t)=(D6 t).map SA:=O1 fun _ _=>rfl;have a6:List.take (j8 t).length (List.map SA (D6 t))=(D6 t).map SA:=a0t (by simp[g,au]);have a7:List.take (j8 t).length (List.map SP (j8 t))=(j8 t).map SP:=a0t k8;have aw:=fun a8 a9 ba bb=>b2y t s a8 a9 ba bb p A[k].1 hp hs Y.ok o;have bp:=b8a Y A[k].1 o;have bc:(t.rules[A[k].1]).print.length=B7 t A[k].1:=(by unfold B7;rw[B0,l9 o];rfl);have bd:(t.rules[A[k].1]).print.isPrefixOf (s.drop p)=goes t s p A[k].1:=(by unfold goes;rw[B0,l9 o];rfl);rw[bd,bc]at aw;simp[g,Z,au,F,a5,a6,a7,a4];obtain⟨nx,aG⟩:=s8 (p+B7 t A[k].1);rw[←aG]at aw;refine l8 (aw _ _ _ _) ?_;cases ax:goes t s p A[k].1 with
   |false=>
    have f:(A.take (k+1)).foldl (P9 t s p L c C i silent) (D,false)=(E,b):=(by rw[u];unfold P9;rw[ax];rfl);simp[g,w];exact v (k+1,ver,_,_,_,_,_,_,_,_,_) _ _ u7 ⟨u7,fun y d=>by dsimp only at d⊢;rw[f]at d;exact a4P (n y d) (z k),by rw[f];rfl,by rw[f];rfl⟩
   |true=>
    have hle:=a5G ax;by_cases S:decide (B7 t A[k].1=0)=silent
    . have T:i<E.length:=j4;have be:E.getD i 0=E[i]:=(by rw[B0,l9 T];rfl);have G:(t.rules[A[k].1]).cells.length=A0 t A[k].1:=(by unfold A0;rw[B0,l9 o];rfl);have bq:A0 t A[k].1≤4:=G▸(a3d (Y.sound _ (C4 o))).c4;have himp:P9 t s p L c C i silent (E,b) A[k]=(if 0≤K4 t p L c C E A[k]∧(E[i]<0∨K4 t p L c C E A[k]+A0 t A[k].1<E[i])then(E.set i (K4 t p L c C E A[k]+A0 t A[k].1),true)else(E,b)):=by
       unfold P9;rw[if_pos ⟨ax,S⟩];dsimp only;rw[be]
      have bf:0<B7 t A[k].1→∀X:PV,(K.set p X)[p+B7 t A[k].1]?=some (DC (c (p+B7 t A[k].1)) (C (p+B7 t A[k].1))):=fun h X=>by rw[a7Y,if_neg j4];exact aJ _ j4 j4
      by_cases U:B7 t A[k].1=0
      . have V:silent=true:=(by rw[←S];simp[g,U]);subst V;have aa:=b2E L E A[k].2 aL j4 av;have ac:K4 t p L c C E A[k]=a0f L E A[k].2:=(by unfold K4;rw[if_pos U]);have ay:a0f L E A[k].2≤M+4*k:=a8E n j4 _;obtain⟨R,ae⟩:=s8 (a0f L E A[k].2);rw[←ae]at aa ac ay;rw[ac]at himp;rw[himp]at u;have W:nx=p:=j4;simp[g,W,N,O,F];refine l8 aa ?_;by_cases h0:0≤R
        . have hw:IntKind.i64.wrap (R+(A0 t A[k].1:Int))=R+(A0 t A[k].1:Int):=T3;by_cases h1:E[i]<0
          . have f:=u.trans (if_pos ⟨h0,.inl h1⟩);simp[g,o,G,hw,h0,h1,N,O,F,T,J,w];exact v (k+1,ver,(R26.1+1,.var [IN A[k].1,IN A[k].2]),_,_,_,_,_,_,_,_) _ _ u7 ⟨u7,fun y d=>by
             dsimp only at d⊢;rw[f]at d;rcases a5o d with d|d
             . exact a4P (n y d) (z k)
             . rw[d];omega,by rw[f];rfl,by rw[f];simp[g,L6]⟩
          . by_cases H:R+(A0 t A[k].1:Int)<E[i]
            . have f:=u.trans (if_pos ⟨h0,.inr H⟩);simp[g,o,G,hw,h0,h1,H,N,O,F,T,J,w];exact v (k+1,ver,(R26.1+1,.var [IN A[k].1,IN A[k].2]),_,_,_,_,_,_,_,_) _ _ u7 ⟨u7,fun y d=>by
               dsimp only at d⊢;rw[f]at d;rcases a5o d with d|d
               . exact a4P (n y d) (z k)
               . rw[d];omega,by rw[f];rfl,by rw[f];simp[g,L6]⟩
            . have f:=u.trans (if_neg (fun e=>e.2.elim h1 H));simp[g,o,G,hw,h0,h1,H,N,O,F,T,J,w];exact v (k+1,ver,_,_,_,_,_,_,_,_,_) _ _ u7 ⟨u7,fun y d=>by dsimp only at d⊢;rw[f]at d;exact a4P (n y d) (z k),by rw[f];rfl,by rw[f];rfl⟩
        . have f:=u.trans (if_neg (fun e=>h0 e.1));simp[g,o,G,h0,w];exact v (k+1,ver,_,_,_,_,_,_,_,_,_) _ _ u7 ⟨u7,fun y d=>by dsimp only at d⊢;rw[f]at d;exact a4P (n y d) (z k),by rw[f];rfl,by rw[f];rfl⟩
      . have V:silent=false:=(by rw[←S];simp[g,U]);subst V;obtain⟨bg,z2,z3,z4⟩:=aK (p+B7 t A[k].1) j4 j4;have aa:=b2E (c (p+B7 t A[k].1)) (C (p+B7 t A[k].1)) A[k].2 bg j4 z2;have ac:K4 t p L c C E A[k]=a0f (c (p+B7 t A[k].1)) (C (p+B7 t A[k].1)) A[k].2:=(by unfold K4;rw[if_neg U]);have ay:a0f (c (p+B7 t A[k].1)) (C (p+B7 t A[k].1)) A[k].2≤M+4*k:=(by have:=a8E (L:=c (p+B7 t A[k].1)) z4 j4 A[k].2;omega);obtain⟨R,ae⟩:=s8 (a0f (c (p+B7 t A[k].1)) (C (p+B7 t A[k].1)) A[k].2);rw[←ae]at aa ac ay;rw[ac]at himp;rw[himp]at u;have W:¬nx=p:=j4;have bh:(nx:Int)<(s.length:Int)+1:=j4;have bi:nx<s.length+1:=j4;have az:=bf j4;rw[←aG]at az aa ae;have bj:∀(X:PV) (h:nx<(K.set p X).length),(K.set p X)[nx]=DC (c nx) (C nx):=fun X h=>by
         have:=az X;rw[l9 h]at this;exact U4 this
        simp[g,bj,W,bh,bi,az,F,DC];refine l8 aa ?_;by_cases h0:0≤R
        . have hw:IntKind.i64.wrap (R+(A0 t A[k].1:Int))=R+(A0 t A[k].1:Int):=T3;by_cases h1:E[i]<0
          . have f:=u.trans (if_pos ⟨h0,.inl h1⟩);simp[g,o,G,hw,h0,h1,N,O,F,T,J,w];exact v (k+1,ver,(R26.1+1,.var [IN A[k].1,IN A[k].2]),_,_,_,_,_,_,_,_) _ _ u7 ⟨u7,fun y d=>by
             dsimp only at d⊢;rw[f]at d;rcases a5o d with d|d
             . exact a4P (n y d) (z k)
             . rw[d];omega,by rw[f];rfl,by rw[f];simp[g,L6]⟩
          . by_cases H:R+(A0 t A[k].1:Int)<E[i]
            . have f:=u.trans (if_pos ⟨h0,.inr H⟩);simp[g,o,G,hw,h0,h1,H,N,O,F,T,J,w];exact v (k+1,ver,(R26.1+1,.var [IN A[k].1,IN A[k].2]),_,_,_,_,_,_,_,_) _ _ u7 ⟨u7,fun y d=>by
               dsimp only at d⊢;rw[f]at d;rcases a5o d with d|d
               . exact a4P (n y d) (z k)
               . rw[d];omega,by rw[f];rfl,by rw[f];simp[g,L6]⟩
            . have f:=u.trans (if_neg (fun e=>e.2.elim h1 H));simp[g,o,G,hw,h0,h1,H,N,O,F,T,J,w];exact v (k+1,ver,_,_,_,_,_,_,_,_,_) _ _ u7 ⟨u7,fun y d=>by dsimp only at d⊢;rw[f]at d;exact a4P (n y d) (z k),by rw[f];rfl,by rw[f];rfl⟩
        . have f:=u.trans (if_neg (fun e=>h0 e.1));simp[g,o,G,h0,w];exact v (k+1,ver,_,_,_,_,_,_,_,_,_) _ _ u7 ⟨u7,fun y d=>by dsimp only at d⊢;rw[f]at d;exact a4P (n y d) (z k),by rw[f];rfl,by rw[f];rfl⟩
    . have f:(A.take (k+1)).foldl (P9 t s p L c C i silent) (D,false)=(E,b):=(by rw[u];unfold P9;rw[if_neg (fun e=>S e.2)]);have br:(decide (B7 t A[k].1=0)==silent)=false:=(by simpa using S);by_cases U:B7 t A[k].1=0
      . have V:silent=false:=(by simpa[U]using S);subst V;have W:nx=p:=j4;simp[g,w,W];exact v (k+1,ver,_,_,_,_,_,_,_,_,_) _ _ u7 ⟨u7,fun y d=>by dsimp only at d⊢;rw[f]at d;exact a4P (n y d) (z k),by rw[f];rfl,by rw[f];rfl⟩
      . have V:silent=true:=(by simpa[U]using S);subst V;have W:¬nx=p:=j4;simp[g,w,W];exact v (k+1,ver,_,_,_,_,_,_,_,_,_) _ _ u7 ⟨u7,fun y d=>by dsimp only at d⊢;rw[f]at d;exact a4P (n y d) (z k),by rw[f];rfl,by rw[f];rfl⟩
 . obtain rfl:k=A.length:=j4;rw[K8];simp;refine aF _ _ _ ?_;simp;refine aZ _ [(6,(1,.arr 2 ver false (K.set p (DC L (V6 t s p L c C i silent D A).1)))),(26,R26)] _ _ ⟨ver,R26.1,R26.2,rfl,rfl⟩ ?_;rw[aE];simp[g,L3,X82];exact⟨rfl,by rw[←aE];rfl⟩
section
variable{D:List Int}{t:k7}{p i:Nat}{L:List Nat}{c:Nat→List Nat}{C:Nat→List Int}{s:By}{A:List (Nat×Nat)}
theorem a8W(t:k7)(s:By)(p:Nat)(L:List Nat)(c:Nat→List Nat)(C:Nat→List Int)(i:Nat)(silent:Bool)(st:List Int×Bool)(a:Nat×Nat):
 (P9 t s p L c C i silent st a=st∧(goes t s p a.1=true→decide (B7 t a.1=0)=silent→0≤K4 t p L c C st.1 a→0≤st.1.getD i 0∧st.1.getD i 0≤K4 t p L c C st.1 a+A0 t a.1))∨
 (goes t s p a.1=true∧decide (B7 t a.1=0)=silent∧0≤K4 t p L c C st.1 a∧(st.1.getD i 0<0∨K4 t p L c C st.1 a+A0 t a.1<st.1.getD i 0)∧
  P9 t s p L c C i silent st a=(st.1.set i (K4 t p L c C st.1 a+A0 t a.1),true)):=by
 unfold P9;by_cases h1:goes t s p a.1=true∧decide (B7 t a.1=0)=silent
 . grind
 . grind
theorem b1C{silent:Bool}(P:List Int×Bool→Prop)
 (hs:∀st a,a∈A→P st→goes t s p a.1=true→decide (B7 t a.1=0)=silent→0≤K4 t p L c C st.1 a→(st.1.getD i 0<0∨K4 t p L c C st.1 a+A0 t a.1<st.1.getD i 0)→P (st.1.set i (K4 t p L c C st.1 a+A0 t a.1),true))
 (h0:P (D,false)):P (V6 t s p L c C i silent D A):=by
 have key:∀(B:List (Nat×Nat)) (st:List Int×Bool),(∀a∈B,a∈A)→P st→P (B.foldl (P9 t s p L c C i silent) st):=by
  intro B
  induction B with
  |nil=>intro st _ h;exact h
  |cons a B d=>
   intro st e h;rw[a4e];refine d _ (fun b hb=>e b (a4i _ hb)) ?_;rcases a8W t s p L c C i silent st a with⟨h1,_⟩|⟨h1,f,g,j,k⟩
   . rw[h1];exact h
   . grind
 exact key A (D,false) (fun a h=>h) h0
def Imp(D E:List Int):Prop:=E.length=D.length∧∀j,j<D.length→E.getD j 0=D.getD j 0∨(0≤E.getD j 0∧(D.getD j 0<0∨E.getD j 0<D.getD j 0))
theorem Imp.refl(D:List Int):Imp D D:=⟨rfl,fun j _=>.inl rfl⟩
theorem Imp.trans{D E F:List Int}(h:Imp D E)(k:Imp E F):Imp D F:=by refine⟨k.1.trans h.1,fun j hj=>?_⟩;have h1:=h.2 j hj;have a:=k.2 j (by rw[h.1];exact hj);omega
theorem b2B(l:List Int)(i j:Nat)(a:Int):(l.set i a).getD j 0=if j=i∧i<l.length then a else l.getD j 0:=T7 l i j a 0
theorem Imp.set{D:List Int}{i:Nat}{v:Int}(h0:0≤v)(h:D.getD i 0<0∨v<D.getD i 0):Imp D (D.set i v):=by
 refine⟨k8,fun j hj=>?_⟩
 grind
theorem c0J(t:k7)(s:By)(p:Nat)(L:List Nat)(c:Nat→List Nat)(C:Nat→List Int)(i:Nat)(silent:Bool)(D:List Int)(A:List (Nat×Nat)):Imp D (V6 t s p L c C i silent D A).1:=
 b1C (P:=fun st=>Imp D st.1) (fun st a _ h _ _ d b=>h.trans (.set j4 b)) (Imp.refl D)
theorem c2J{silent:Bool}(h:(V6 t s p L c C i silent D A).2=false):
 (V6 t s p L c C i silent D A).1=D∧∀a∈A,goes t s p a.1=true→decide (B7 t a.1=0)=silent→0≤K4 t p L c C D a→0≤D.getD i 0∧D.getD i 0≤K4 t p L c C D a+A0 t a.1:=by
 have mono:∀(B:List (Nat×Nat)) (st:List Int×Bool),st.2=true→(B.foldl (P9 t s p L c C i silent) st).2=true:=by
  intro B
  induction B with
  |nil=>intro st h;exact h
  |cons a B d=>
   intro st h;rw[a4e];refine d _ ?_;rcases a8W t s p L c C i silent st a with⟨h1,_⟩|⟨_,_,_,_,e⟩
   . rw[h1];exact h
   . rw[e]
 have key:∀(B:List (Nat×Nat)) (st:List Int×Bool),(B.foldl (P9 t s p L c C i silent) st).2=false→(B.foldl (P9 t s p L c C i silent) st).1=st.1∧∀a∈B,goes t s p a.1=true→decide (B7 t a.1=0)=silent→0≤K4 t p L c C st.1 a→0≤st.1.getD i 0∧st.1.getD i 0≤K4 t p L c C st.1 a+A0 t a.1:=by
  intro B
  induction B with
  |nil=>intro st _;exact⟨rfl,fun a f=>by simp at f⟩
  |cons a B d=>
   intro st h;rw[a4e]at h⊢;rcases a8W t s p L c C i silent st a with⟨h1,g⟩|⟨_,_,_,_,e⟩
   . rw[h1]at h⊢;obtain⟨j,k⟩:=d st h;refine⟨j,fun b hb=>?_⟩;rcases Y8.1 hb with rfl|hb
     . exact g
     . exact k b hb
   . grind
 exact key A (D,false) h
theorem b5F(t:k7)(s:By)(p:Nat)(L:List Nat)(c:Nat→List Nat)(C:Nat→List Int)(i:Nat)(silent:Bool):∀(B:List (Nat×Nat)) (st:List Int×Bool),Imp st.1 (B.foldl (P9 t s p L c C i silent) st).1
 | [],st=>Imp.refl _
 |a::B,st=>by
  rw[a4e];refine Imp.trans ?_ (b5F t s p L c C i silent B _);rcases a8W t s p L c C i silent st a with⟨h1,_⟩|⟨_,_,e,b,d⟩
  . rw[h1];exact Imp.refl _
  . rw[d];exact .set j4 b
theorem a8V{E:List Int}{a:Nat×Nat}(h:¬B7 t a.1=0):K4 t p L c C D a=K4 t p L c C E a:=by unfold K4;rw[if_neg h,if_neg h]
theorem d1b(hi:i<D.length):
 ∀a∈A,goes t s p a.1=true→¬B7 t a.1=0→0≤K4 t p L c C D a→0≤(V6 t s p L c C i false D A).1.getD i 0∧(V6 t s p L c C i false D A).1.getD i 0≤K4 t p L c C D a+A0 t a.1:=by
 have key:∀(B:List (Nat×Nat)) (st:List Int×Bool),i<st.1.length→∀a∈B,goes t s p a.1=true→¬B7 t a.1=0→0≤K4 t p L c C D a→0≤(B.foldl (P9 t s p L c C i false) st).1.getD i 0∧(B.foldl (P9 t s p L c C i false) st).1.getD i 0≤K4 t p L c C D a+A0 t a.1:=by
  intro B
  induction B with
  |nil=>intro st _ a d;simp at d
  |cons b B j=>
   intro st g a d h f hr;rw[a4e];rcases Y8.1 d with rfl|d
   . have k:0≤K4 t p L c C st.1 a:=(by rw[a8V (E:=D) f];exact hr);have n:0≤(P9 t s p L c C i false st a).1.getD i 0∧(P9 t s p L c C i false st a).1.getD i 0≤K4 t p L c C D a+A0 t a.1:=by
      rcases a8W t s p L c C i false st a with⟨h1,l⟩|⟨_,_,o,q,m⟩
      . rw[h1,a8V (E:=st.1) f];exact l h (by simp[f]) k
      . have e:K4 t p L c C D a=K4 t p L c C st.1 a:=a8V f;rw[m,b2B,if_pos ⟨rfl,g⟩];omega
     have r:=(b5F t s p L c C i false B (P9 t s p L c C i false st a)).2 i (by rw[b4M];exact g);omega
   . exact j _ (by rw[b4M];exact g) a d h f hr
 exact key A (D,false) hi
def a1G(M:Nat)(D:List Int):Nat:=(D.map fun x=>if x<0 then M+1 else x.toNat).sum
theorem Imp.cons{a b:Int}{E:List Int}(h:Imp (a::D) (b::E)):(b=a∨(0≤b∧(a<0∨b<a)))∧Imp D E:=by refine⟨h.2 0 k8,by have:=h.1;simpa using this,fun j hj=>?_⟩;have:=h.2 (j+1) F6;simpa using this
theorem b6l{M:Nat}:∀{D E:List Int},Imp D E→(∀x∈E,x≤M)→a1G M E≤a1G M D∧(a1G M E=a1G M D→E=D)
 | [],E,h,_=>by
  have:E=[]:=a0U.1 h.1
  grind
 |a::D,[],h,_=>by have:=h.1;simp at this
 |a::D,b::E,h,c=>by
  obtain⟨h1,d⟩:=h.cons;obtain⟨f,g⟩:=b6l (M:=M) d fun x e=>c x (a4i _ e);have hb:=c b a3x;have i:a1G M (a::D)=(if a<0 then M+1 else a.toNat)+a1G M D:=by simp[a1G]
  have j:a1G M (b::E)=(if b<0 then M+1 else b.toNat)+a1G M E:=by simp[a1G]
  grind
def a5k(D:List Int):Nat:=D.countP fun x=>decide (0≤x)
theorem d0i(D:List Int):a5k D≤D.length:=List.countP_le_length
theorem c8T{v:Int}(hi:i<D.length)(a:0≤v):a5k (D.set i v)=if D.getD i 0<0 then a5k D+1 else a5k D:=by
 have b:D.getD i 0=D[i]:=by grind
 unfold a5k
 grind
def Bd(M0:Int)(D:List Int):Prop:=∀x∈D,x≤M0+4*(a5k D:Int)
theorem Bd.set{M0:Int}{D:List Int}{i:Nat}{v:Int}(h:Bd M0 D)(hi:i<D.length)(c:0≤v)(d:D.getD i 0<0∨v<D.getD i 0)(hb:v≤M0+4*(a5k D:Int)+4):Bd M0 (D.set i v):=by
 have e:D.getD i 0=D[i]:=by grind
 have f:=h D[i] (C4 hi);intro x a;rw[c8T hi c];by_cases b:D.getD i 0<0
 . rw[if_pos b];rcases a5o a with a|a
   . have:=h x a;omega
   . omega
 . rw[if_neg b];rcases a5o a with a|a
   . exact h x a
   . omega
theorem Bd.V6{t:k7}{s:By}{p:Nat}{L:List Nat}{c:Nat→List Nat}{C:Nat→List Int}{i:Nat}{silent:Bool}{D:List Int}{A:List (Nat×Nat)}{M0:Int}(h:Bd M0 D)(hi:i<D.length)(n:0≤M0)
 (e:∀a∈A,goes t s p a.1=true→¬B7 t a.1=0→∀x∈C (p+B7 t a.1),x≤M0) (f:∀a∈A,A0 t a.1≤4):Bd M0 (V6 t s p L c C i silent D A).1:=by
 refine(b1C (P:=fun st=>Bd M0 st.1∧st.1.length=D.length) (fun st a b g j _ o k=>?_) ⟨h,rfl⟩).1;obtain⟨d,l⟩:=g;have hr:K4 t p L c C st.1 a≤M0+4*(a5k st.1:Int):=by
  unfold K4;split
  . exact a8E d j4 _
  . rename_i m;have:=a8E (L:=c (p+B7 t a.1)) (e a b j m) j4 a.2;omega
 have:=f a b;exact⟨d.set j4 j4 k j4,by simp[l]⟩
end
def Pay(t:k7)(s:By)(p x m:Nat):Prop:=∃q:List Nat,∃a,E5 t ((j8 t).getD x D5) q=some a∧B8 t a=true∧J8 t q=s.drop p∧(C5 t q).length=m
theorem b2l{t:k7}{s:By}{p k:Nat}{l:By}(h:s.drop p=(t.rules.getD k default).print++l):goes t s p k=true∧s.drop (p+B7 t k)=l:=by
 constructor
 . unfold goes
   grind
 . unfold B7;rw[←a2V,h,List.drop_append_of_le_length (p7 _),List.drop_length,a4H]
theorem c2j{t:k7}{s:By}{p k:Nat}(h:goes t s p k=true):s.drop p=(t.rules.getD k default).print++s.drop (p+B7 t k):=by unfold goes at h;obtain⟨l,a⟩:=List.isPrefixOf_iff_prefix.1 h;obtain⟨_,b⟩:=b2l (k:=k) a.symm;rw[b,a]
theorem b8k{t:k7}{x:Nat}(a:x<(j8 t).length){k:Nat}{s':State}(h:step t ((j8 t).getD x D5) k=some s'):(k,S7 t s')∈(D6 t).getD x []:=by
 have c:=a2B h;have e:(j8 t).getD x D5=(j8 t)[x]:=by grind
 rw[e]at h;have b:(D6 t).getD x []=a0u t (j8 t)[x] t.rules.length:=by simp[D6,a]
 rw[b];unfold a0u
 grind
theorem a9r{t:k7}{x:Nat}(b:x<(j8 t).length){a:Nat×Nat}(h:a∈(D6 t).getD x []):∃s',step t ((j8 t).getD x D5) a.1=some s'∧a.2=S7 t s':=by
 have e:(j8 t).getD x D5=(j8 t)[x]:=by grind
 have c:(D6 t).getD x []=a0u t (j8 t)[x] t.rules.length:=by simp[D6,b]
 rw[c]at h;unfold a0u at h;obtain⟨k,_,hs⟩:=a9J.1 h;obtain⟨s',d,rfl⟩:=C9.1 hs
 grind
theorem a2z{t:k7}{s:State}(h:s∈j8 t):(j8 t).getD (S7 t s) D5=s:=by rw[B0,c1E h];rfl
theorem a2k{t:k7}{x:Nat}(a:x<(j8 t).length):(j8 t).getD x D5∈j8 t:=by grind
theorem Pay.step{t:k7}(d:s7 t){s:By}{p x m:Nat}(b:x<(j8 t).length){a:Nat×Nat}(e:a∈(D6 t).getD x [])(f:goes t s p a.1=true)(h:Pay t s (p+B7 t a.1) a.2 m):Pay t s p x (m+A0 t a.1):=by
 obtain⟨s',h1,g⟩:=a9r b e;obtain⟨q,i,c,j,k,l⟩:=h;rw[g,a2z (a0g d (a2k b) h1)]at c;refine⟨a.1::q,i,?_,j,?_,?_⟩
 . show(T.step t _ a.1).bind _=_;rw[h1];exact c
 . rw[c2j f,←k];rfl
 . show(((t.rules.getD a.1 default).cells++C5 t q)).length=_;rw[Z9,l];unfold A0;omega
theorem Pay.stop{t:k7}{s:By}{p x:Nat}(hp:s.length≤p)(h:B8 t ((j8 t).getD x D5)=true):Pay t s p x 0:=
 ⟨[],_,rfl,h,by rw[List.drop_of_length_le hp];rfl,rfl⟩
theorem Pay.low{t:k7}(g:s7 t){s:By}{c:Nat→List Nat}{f:Nat→Nat→Int}(h:∀p x,x∈c p→x<(j8 t).length)
 (i:∀p x,p≤s.length→x∈c p→∀a∈(D6 t).getD x [],goes t s p a.1=true→a.2∈c (p+B7 t a.1)∧(0≤f (p+B7 t a.1) a.2→0≤f p x∧f p x≤f (p+B7 t a.1) a.2+A0 t a.1))
 (r:∀x,x∈c s.length→B8 t ((j8 t).getD x D5)=true→f s.length x=0):∀(q:List Nat) (p x:Nat) (b:State),p≤s.length→x∈c p→E5 t ((j8 t).getD x D5) q=some b→B8 t b=true→J8 t q=s.drop p→0≤f p x∧f p x≤(C5 t q).length
 | [],p,x,b,hp,d,h1,j,e=>by
  have u:p=s.length:=by
   have:(s.drop p).length=0:=by rw[←e];rfl
   grind
  subst u;obtain rfl:=U4 h1
  grind
 |k::q,p,x,b,hp,d,h1,j,e=>by
  have l:=h p x d;obtain⟨s1,m,v⟩:=X1.1 (show(T.step t _ k).bind (fun s'=>E5 t s' q)=some b from h1);have hm:=b8k l m;have hd:s.drop p=(t.rules.getD k default).print++J8 t q:=by rw[←e];rfl
  obtain⟨g1,g2⟩:=b2l hd;obtain⟨n,o⟩:=i p x hp d _ hm g1;dsimp only at n o;have w:=a0g g (a2k l) m;have hle:=a5G g1;have y:=Pay.low g h i r q (p+B7 t k) (S7 t s1) b j4 n (by rw[a2z w];exact v) j g2.symm;obtain⟨z,i2⟩:=o y.1;refine⟨z,?_⟩;have:(C5 t (k::q)).length=A0 t k+(C5 t q).length:=by show((t.rules.getD k default).cells++C5 t q).length=_;rw[Z9];rfl
  omega
def a5h(t:k7)(s:By)(p:Nat)(L:List Nat)(D:List Int):Prop:=∀i,i<L.length→0≤D.getD i 0→Pay t s p (L.getD i 0) (D.getD i 0).toNat
theorem a5h.find{t:k7}{s:By}{p:Nat}{L:List Nat}{D:List Int}(h:a5h t s p L D)(d:D.length=L.length){x:Nat}(h0:0≤a0f L D x):Pay t s p x (a0f L D x).toNat:=by
 by_cases a:x∈L
 . have hi:L.idxOf x<L.length:=List.idxOf_lt_length_of_mem a;have e:L.idxOf x<D.length:=j4;have b:L.getD (L.idxOf x) 0=x:=(by grind);have c:a0f L D x=D.getD (L.idxOf x) 0:=by
    unfold a0f
    grind
   rw[c]at h0⊢;have:=h _ hi h0;rw[b]at this;exact this
 . unfold a0f at h0;rw[if_neg a]at h0;omega
theorem c7o{t:k7}(g:s7 t){s:By}{p:Nat}{L:List Nat}{c:Nat→List Nat}{C:Nat→List Int}{i:Nat}{silent:Bool}{D:List Int}(hi:i<L.length)(v:D.length=L.length)(k:L.getD i 0<(j8 t).length)
 (h:a5h t s p L D) (l:∀j,p<j→j≤s.length→a5h t s j (c j) (C j)∧(C j).length=(c j).length):a5h t s p L (V6 t s p L c C i silent D ((D6 t).getD (L.getD i 0) [])).1:=by
 refine(b1C (P:=fun st=>a5h t s p L st.1∧st.1.length=D.length) (fun st a m n e _ b w=>?_) ⟨h,rfl⟩).1;obtain⟨f,o⟩:=n;have q:Pay t s (p+B7 t a.1) a.2 (K4 t p L c C st.1 a).toNat:=by
  unfold K4 at b⊢;by_cases d:B7 t a.1=0
  . rw[if_pos d]at b⊢;rw[d];exact f.find j4 b
  . rw[if_neg d]at b⊢;have hle:=a5G e;by_cases r:p+B7 t a.1≤s.length
    . obtain⟨c1,c2⟩:=l (p+B7 t a.1) j4 r;exact c1.find c2 b
    . omega
 have x:=q.step g k m e;refine⟨fun j hj h0=>?_,by simp[o]⟩;rw[b2B]at h0⊢;by_cases u:j=i∧i<st.1.length
 . grind
 . rw[if_neg u]at h0⊢;exact f j hj h0
def Lat(t:k7)(s:By)(p:Nat)(c:Nat→List Nat)(C:Nat→List Int)(M0:Int):Prop:=∀j,p<j→j≤s.length→a5h t s j (c j) (C j)∧(C j).length=(c j).length∧∀x∈C j,x≤M0
structure PI(t:k7)(s:By)(p:Nat)(L:List Nat)(M0:Int)(D:List Int):Prop where
 len:D.length=L.length
 snd:a5h t s p L D
 bd:Bd M0 D
theorem PI.V6{t:k7}(d:s7 t){s:By}{p:Nat}{L:List Nat}{c:Nat→List Nat}{C:Nat→List Int}{i:Nat}{silent:Bool}{D:List Int}{M0:Int}(h:PI t s p L M0 D)(hi:i<L.length)(l:∀x∈L,x<(j8 t).length)(m:0≤M0)(b:Lat t s p c C M0):
 PI t s p L M0 (V6 t s p L c C i silent D ((D6 t).getD (L.getD i 0) [])).1:=by
 have e:L.getD i 0<(j8 t).length:=by rw[B0,l9 hi];exact l _ (C4 hi)
 refine⟨by rw[c2f];exact h.len,c7o d hi h.len e h.snd fun j h1 f=>⟨(b j h1 f).1,(b j h1 f).2.1⟩,h.bd.V6 (by rw[h.len];exact hi) m (fun a g n r x o=>?_) fun a g=>?_⟩
 . have hle:=a5G n;by_cases q:p+B7 t a.1≤s.length
   . exact(b _ j4 q).2.2 x o
   . omega
 . obtain⟨s',h1,_⟩:=a9r e g;have k:=a2B h1;unfold A0;rw[B0,l9 k];exact(a3d (d.sound _ (C4 k))).c4
def LC(t:k7)(s:By)(p:Nat)(L:List Nat)(c:Nat→List Nat)(C:Nat→List Int)(D:List Int)(j:Nat):Prop:=∀a∈(D6 t).getD (L.getD j 0) [],goes t s p a.1=true→¬B7 t a.1=0→0≤K4 t p L c C D a→0≤D.getD j 0∧D.getD j 0≤K4 t p L c C D a+A0 t a.1
def SC(t:k7)(s:By)(p:Nat)(L:List Nat)(c:Nat→List Nat)(C:Nat→List Int)(D:List Int)(j:Nat):Prop:=∀a∈(D6 t).getD (L.getD j 0) [],goes t s p a.1=true→B7 t a.1=0→0≤K4 t p L c C D a→0≤D.getD j 0∧D.getD j 0≤K4 t p L c C D a+A0 t a.1
theorem LC.imp{t:k7}{s:By}{p:Nat}{L:List Nat}{c:Nat→List Nat}{C:Nat→List Int}{D E:List Int}{j:Nat}(h:LC t s p L c C D j)(hj:j<D.length)(hi:Imp D E):LC t s p L c C E j:=fun a d e b hr=>by rw[a8V (E:=D) b]at hr⊢;have:=h a d e b hr;have:=hi.2 j hj;omega
theorem c5C{t:k7}{s:By}{p:Nat}{L:List Nat}{c:Nat→List Nat}{C:Nat→List Int}{i:Nat}{silent:Bool}{D:List Int}{A:List (Nat×Nat)}(hi:i<D.length)(h:(V6 t s p L c C i silent D A).2=true):(V6 t s p L c C i silent D A).1≠D:=by
 have key:=b1C (t:=t) (s:=s) (p:=p) (L:=L) (c:=c) (C:=C) (i:=i) (silent:=silent) (A:=A) (D:=D) (P:=fun st=>st.1.length=D.length∧(st.2=false→st.1=D)∧(st.2=true→0≤st.1.getD i 0∧(D.getD i 0<0∨st.1.getD i 0<D.getD i 0)))
  (fun st a j b k hs d f=>by
   obtain⟨h0,h1,g⟩:=b;refine⟨by simp[h0],fun e=>(by cases e),fun _=>?_⟩;dsimp only;rw[b2B,if_pos ⟨rfl,j4⟩];cases hb:st.2 with
   |false=>rw[h1 hb]at f d⊢;omega
   |true=>have:=g hb;omega) ⟨rfl,fun _=>rfl,fun e=>(by cases e)⟩
 have:=key.2.2 h;intro e;rw[e]at this;omega
def Y3(t:k7)(s:By)(p:Nat)(L:List Nat)(k:Nat):List Int:=(List.range L.length).map fun i=>if i<k then(if p=s.length∧B8 t ((j8 t).getD (L.getD i 0) D5)=true then 0 else-1)else 0
theorem b1k(t:k7)(s:By)(p:Nat)(L:List Nat)(k:Nat):(Y3 t s p L k).length=L.length:=by simp[Y3]
theorem c1W{t:k7}{s:By}{p:Nat}{L:List Nat}{k i:Nat}(hi:i<L.length):(Y3 t s p L k).getD i 0=if i<k then(if p=s.length∧B8 t ((j8 t).getD (L.getD i 0) D5)=true then 0 else-1)else 0:=by rw[B0,l9 (by rw[b1k];exact hi)];simp[Y3]
theorem d0a(t:k7)(s:By)(p:Nat)(L:List Nat):Y3 t s p L 0=List.replicate L.length 0:=by apply a0z (by simp[Y3]);intro j h1 a;simp[Y3]
theorem c8o{t:k7}{s:By}{p:Nat}{L:List Nat}{k:Nat}(a:k<L.length):(Y3 t s p L k).set k (if p=s.length∧B8 t ((j8 t).getD (L.getD k 0) D5)=true then 0 else-1)=Y3 t s p L (k+1):=by
 apply a0z (by simp[Y3]);intro j h1 b;have hj:j<L.length:=by simpa[Y3]using h1
 rw[a4k];simp only[Y3,a0V,a4I];by_cases h:k=j
 . grind
 . omega
theorem c6o{t:k7}{s:By}{p:Nat}{L:List Nat}{M0:Int}(b:0≤M0):PI t s p L M0 (Y3 t s p L L.length):=by
 refine⟨b1k _ _ _ _ _,fun i hi h0=>?_,fun x a=>?_⟩
 . rw[c1W hi,if_pos hi]at h0⊢;by_cases h:p=s.length∧B8 t ((j8 t).getD (L.getD i 0) D5)=true
   . rw[if_pos h];exact .stop j4 h.2
   . rw[if_neg h]at h0;omega
 . unfold Y3 at a;obtain⟨i,hi,rfl⟩:=G7.1 a;have:(0:Int)≤a5k (Y3 t s p L L.length):=Int.natCast_nonneg _;split
   . split<;>omega
   . omega
def a8n(t:k7)(s:By)(p:Nat)(L:List Nat)(D:List Int):Prop:=∀j,j<L.length→p=s.length→B8 t ((j8 t).getD (L.getD j 0) D5)=true→D.getD j 0=0
theorem d1z(t:k7)(s:By)(p:Nat)(L:List Nat):a8n t s p L (Y3 t s p L L.length):=fun j hj h1 a=>by rw[c1W hj,if_pos hj,if_pos ⟨h1,a⟩]
theorem a8n.imp{t:k7}{s:By}{p:Nat}{L:List Nat}{D E:List Int}(h:a8n t s p L D)(b:D.length=L.length)(hi:Imp D E):a8n t s p L E:=fun j hj h1 a=>by have:=h j hj h1 a;have:=hi.2 j j4;omega
structure PB(t:k7)(s:By)(p:Nat)(L:List Nat)(c:Nat→List Nat)(C:Nat→List Int)(M0:Int)(i:Nat)(D:List Int):Prop where
 pi:PI t s p L M0 D
 fin:a8n t s p L D
 loud:∀j,j<i→LC t s p L c C D j
theorem PB.start{t:k7}{s:By}{p:Nat}{L:List Nat}{c:Nat→List Nat}{C:Nat→List Int}{M0:Int}(a:0≤M0):PB t s p L c C M0 0 (Y3 t s p L L.length):=⟨c6o a,d1z _ _ _ _,fun j hj=>absurd hj (a7Z j)⟩
theorem PB.step{t:k7}(e:s7 t){s:By}{p:Nat}{L:List Nat}{c:Nat→List Nat}{C:Nat→List Int}{M0:Int}{i:Nat}{D:List Int}(h:PB t s p L c C M0 i D)(hi:i<L.length)(f:∀x∈L,x<(j8 t).length)(g:0≤M0)(k:Lat t s p c C M0):
 PB t s p L c C M0 (i+1) (V6 t s p L c C i false D ((D6 t).getD (L.getD i 0) [])).1:=by
 have b:=c0J t s p L c C i false D ((D6 t).getD (L.getD i 0) []);have l:=h.pi.len;refine⟨h.pi.V6 e hi f g k,h.fin.imp l b,fun j hj=>?_⟩;by_cases m:j=i
 . subst m;intro a n o d hr;rw[a8V (E:=D) d]at hr⊢;exact d1b j4 a n o d hr
 . exact(h.loud j j4).imp j4 b
structure PS(t:k7)(s:By)(p:Nat)(L:List Nat)(c:Nat→List Nat)(C:Nat→List Int)(M0:Int)(M:Nat)(D1:List Int)(i:Nat)(D:List Int)(b:Bool):Prop where
 pb:PB t s p L c C M0 L.length D
 same:b=false→D=D1∧∀j,j<i→SC t s p L c C D j
 less:a1G M D≤a1G M D1∧(b=true→a1G M D<a1G M D1)
theorem PS.start{t:k7}{s:By}{p:Nat}{L:List Nat}{c:Nat→List Nat}{C:Nat→List Int}{M0:Int}{M:Nat}{D:List Int}(h:PB t s p L c C M0 L.length D):PS t s p L c C M0 M D 0 D false:=⟨h,fun _=>⟨rfl,fun j hj=>absurd hj (a7Z j)⟩,p7 _,fun e=>by cases e⟩
theorem PB.le{t:k7}{s:By}{p:Nat}{L:List Nat}{c:Nat→List Nat}{C:Nat→List Int}{M0:Int}{i:Nat}{D:List Int}(h:PB t s p L c C M0 i D){M:Int}(b:L.length≤3072)(d:M0+12288≤M):∀x∈D,x≤M:=fun x a=>by have h1:=h.pi.bd x a;have e:=d0i D;have f:=h.pi.len;omega
theorem PS.step{t:k7}(m:s7 t){s:By}{p:Nat}{L:List Nat}{c:Nat→List Nat}{C:Nat→List Int}{M0:Int}{M:Nat}{D1:List Int}{i:Nat}{D:List Int}{b:Bool}(h:PS t s p L c C M0 M D1 i D b)(hi:i<L.length)(n:∀x∈L,x<(j8 t).length)(o:L.length≤3072)(q:0≤M0)(u:M0+12288≤M)(v:Lat t s p c C M0):
 PS t s p L c C M0 M D1 (i+1) (V6 t s p L c C i true D ((D6 t).getD (L.getD i 0) [])).1 ((V6 t s p L c C i true D ((D6 t).getD (L.getD i 0) [])).2||b):=by
 have d:=c0J t s p L c C i true D ((D6 t).getD (L.getD i 0) []);have w:=h.pb.pi.len;have f:PB t s p L c C M0 L.length (V6 t s p L c C i true D ((D6 t).getD (L.getD i 0) [])).1:=⟨h.pb.pi.V6 m hi n q v,h.pb.fin.imp w d,fun j hj=>(h.pb.loud j hj).imp j4 d⟩
 obtain⟨m1,m2⟩:=b6l (M:=M) d (f.le o u);have g:=c5C (t:=t) (s:=s) (p:=p) (L:=L) (c:=c) (C:=C) (i:=i) (silent:=true) (D:=D) (A:=(D6 t).getD (L.getD i 0) []) j4;have k:=c2J (t:=t) (s:=s) (p:=p) (L:=L) (c:=c) (C:=C) (i:=i) (silent:=true) (D:=D) (A:=(D6 t).getD (L.getD i 0) []);generalize V6 t s p L c C i true D ((D6 t).getD (L.getD i 0) [])=r at d f m1 m2 g k⊢;obtain⟨E,e⟩:=r;dsimp only at d f m1 m2 g k⊢;cases e with
 |true=>
  have h1:=g rfl;have l:a1G M E<a1G M D:=by grind
  have I:=h.less.1;exact⟨f,fun x=>by simp at x,j4,fun _=>j4⟩
 |false=>
  obtain⟨rfl,l⟩:=k rfl;refine⟨f,fun x=>?_,by simpa using h.less⟩;obtain⟨y,z⟩:=h.same (by simpa using x);refine⟨y,fun j hj=>?_⟩;by_cases B:j=i
  . subst B;intro a F G H hr;exact l a F G (by simp[H]) hr
  . exact z j j4
def FC(c:List (List Nat))(C:List (List Int))(p x:Nat):Int:=a0f (c.getD p []) (C.getD p []) x
structure PQ(t:k7)(s:By)(c:List (List Nat))(C:List (List Int))(q:Nat):Prop where
 cl:C.length=s.length+1
 len:∀j,j≤s.length→s.length<j+q→(C.getD j []).length=(c.getD j []).length
 snd:∀j,j≤s.length→s.length<j+q→a5h t s j (c.getD j []) (C.getD j [])
 bd:∀j,j≤s.length→s.length<j+q→∀x∈C.getD j [],x≤12288*((s.length+1-j:Nat):Int)
 clo:∀j,j≤s.length→s.length<j+q→∀x∈c.getD j [],∀a∈(D6 t).getD x [],goes t s j a.1=true→0≤FC c C (j+B7 t a.1) a.2→0≤FC c C j x∧FC c C j x≤FC c C (j+B7 t a.1) a.2+A0 t a.1
 fin:0<q→∀x∈c.getD s.length [],B8 t ((j8 t).getD x D5)=true→FC c C s.length x=0
theorem PQ.start(t:k7)(s:By)(c:List (List Nat)):PQ t s c (List.replicate (s.length+1) []) 0:=⟨k8,fun j _ _=>j4,fun j _ _=>j4,fun j _ _=>j4,fun j _ _=>j4,fun h=>j4⟩
theorem PQ.lat{t:k7}{s:By}{c:List (List Nat)}{C:List (List Int)}{q p:Nat}(h:PQ t s c C q)(hp:p+q=s.length):Lat t s p (fun j=>c.getD j []) (fun j=>C.getD j []) (12288*(q:Int)):=fun j h1 a=>
 ⟨h.snd j a j4,h.len j a j4,fun x b=>by have:=h.bd j a j4 x b;omega⟩
theorem c1Y{L:List Nat}{D:List Int}(c:D.length=L.length){x:Nat}(a:x∈L):L.idxOf x<L.length∧L.getD (L.idxOf x) 0=x∧a0f L D x=D.getD (L.idxOf x) 0:=by
 have hi:L.idxOf x<L.length:=List.idxOf_lt_length_of_mem a;have b:L.idxOf x<D.length:=j4;refine⟨hi,?_,?_⟩
 . grind
 . unfold a0f;rw[if_pos a,B0,B0,l9 b];rfl
theorem PQ.step{t:k7}{s:By}{c:List (List Nat)}{C:List (List Int)}{q p:Nat}(h:PQ t s c C q)(hp:p+q=s.length){D:List Int}(o:(c.getD p []).length≤3072)
 (hb:PB t s p (c.getD p []) (fun j=>c.getD j []) (fun j=>C.getD j []) (12288*(q:Int)) (c.getD p []).length D)
 (hs:∀j,j<(c.getD p []).length→SC t s p (c.getD p []) (fun j=>c.getD j []) (fun j=>C.getD j []) D j):PQ t s c (C.set p D) (q+1):=by
 have v:p<C.length:=by have:=h.cl;omega
 have e:(C.set p D).getD p []=D:=by grind
 have f:∀j,p<j→(C.set p D).getD j []=C.getD j []:=fun j hj=>by rw[T7,if_neg j4]
 have f0:∀x,FC c (C.set p D) p x=a0f (c.getD p []) D x:=fun x=>by unfold FC;rw[e]
 have f1:∀j x,p<j→FC c (C.set p D) j x=FC c C j x:=fun j x hj=>by unfold FC;rw[f j hj]
 refine⟨by simp[h.cl],fun j h1 k=>?_,fun j h1 k=>?_,fun j h1 k=>?_,fun j h1 k=>?_,fun _=>?_⟩
 . by_cases hj:j=p
   . subst hj;rw[e];exact hb.pi.len
   . rw[f j j4];exact h.len j h1 j4
 . by_cases hj:j=p
   . subst hj;rw[e];exact hb.pi.snd
   . rw[f j j4];exact h.snd j h1 j4
 . by_cases hj:j=p
   . subst hj;rw[e];intro x b;have:=hb.le (M:=12288*(q:Int)+12288) o (Int.le_refl _) x b;omega
   . rw[f j j4];exact h.bd j h1 j4
 . by_cases hj:j=p
   . subst hj;intro x b a n g hr;obtain⟨i,r,l⟩:=c1Y (D:=D) hb.pi.len b;rw[f0,l];by_cases d:B7 t a.1=0
     . rw[d,a4d,f0]at hr⊢;have m:K4 t j (c.getD j []) (fun j=>c.getD j []) (fun j=>C.getD j []) D a=a0f (c.getD j []) D a.2:=(by unfold K4;rw[if_pos d]);have:=hs _ i a (by grind) g d j4;rw[m]at this;exact this
     . rw[f1 _ _ j4]at hr⊢;have m:K4 t j (c.getD j []) (fun j=>c.getD j []) (fun j=>C.getD j []) D a=FC c C (j+B7 t a.1) a.2:=(by unfold K4;rw[if_neg d];rfl);have:=hb.loud _ i a (by grind) g d j4;rw[m]at this;exact this
   . intro x b a n g hr;rw[f1 _ _ j4]at hr⊢;rw[f1 _ _ j4];exact h.clo j h1 j4 x b a n g hr
 . intro x b u;by_cases hj:p=s.length
   . subst hj;rw[f0];obtain⟨i,r,l⟩:=c1Y (D:=D) hb.pi.len b;rw[l];exact hb.fin _ i rfl (by grind)
   . rw[f1 _ _ j4];exact h.fin j4 x b u
section
variable{n q:Nat}{c:List (List Nat)}{C:List (List Int)}
def W6(n q:Nat)(c:List (List Nat))(C:List (List Int)):List PV:=(List.range (n+1)).map fun j=>if n<j+q then DC (c.getD j []) (C.getD j [])else .agg [DS (c.getD j []),.nils]
theorem b6a(n q:Nat)(c:List (List Nat))(C:List (List Int)):(W6 n q c C).length=n+1:=by simp[W6]
theorem c4r(C:List (List Int))(a:c.length=n+1):CS (n+1) c=W6 n 0 c C:=by
 apply a0z (by simp[CS,W6,a]);intro j h1 b;have hj:j<n+1:=by simpa[W6]using b
 have d:¬n<j+0:=j4;simp only[CS,W6,a0V,a4I];rw[if_pos hj,if_neg d]
theorem c4Z{p:Nat}(hp:p+q=n):(W6 n q c C)[p]?=some (.agg [DS (c.getD p []),.nils]):=by have h1:p<n+1:=j4;have a:¬n<p+q:=j4;simp[W6,h1,a]
theorem c1p{j:Nat}(h1:j≤n)(a:n<j+q):(W6 n q c C)[j]?=some (DC (c.getD j []) (C.getD j [])):=by have h1:j<n+1:=j4;simp[W6,h1,a]
theorem d0J{p:Nat}(hp:p+q=n)(b:C.length=n+1)(D:List Int):(W6 n q c C).set p (DC (c.getD p []) D)=W6 n (q+1) c (C.set p D):=by
 apply a0z (by simp[W6]);intro j h1 a;have hj:j<n+1:=by simpa[W6]using a
 have e:=T7 C p j D [];rw[a4k];simp only[W6,a0V,a4I]
 grind
theorem c4i(l:List Nat):D9 (.agg [DS l,.nils])=true:=by unfold DS;split<;>rfl
theorem d1E(l:List Nat)(D:List Int):D9 (DC l D)=true:=by unfold DC DS;split<;>rfl
theorem b8F(n q:Nat)(c:List (List Nat))(C:List (List Int)):∀x,x∈W6 n q c C→D9 x=true:=fun x a=>by
 obtain⟨i,_,rfl⟩:=G7.1 a;split
 . exact d1E _ _
 . exact c4i _
abbrev HC(t:k7)(s:By)(a:Nat)(r0 r1 r2 r3 r4 b c d e r13 f g h i j k l:Row)(last ver:Nat)(K:List PV)(R21 R22 R23 R24 R25 R26:Row):Heap:=
 [r0,r1,r2,r3,r4,(1,.arr 3 1 true (F9 (j8 t))),(1,.arr 2 ver false K),
  (1,.var (TC t++[St s,.own 5 1 (j8 t).length 3 0 (j8 t).length,.own 10 1 (j8 t).length 1 0 (j8 t).length,.own 6 1 (s.length+1) 2 0 (s.length+1),IN last])),
  b,c,(1,.arr 1 a true ((D6 t).map SA)),d,e,r13,f,g,h,i,j,k,l,R21,R22,R23,R24,R25,R26]
structure PRV where
 (v3 v4 v5 v6 v7 v8 v9 v10 v11 v12 v13 v14 v15 v16 v17 v18 v19 v20 v21 v22 v23:PV)
abbrev Z6(g21:Nat)(v2:PV)(x:PRV):List PV:=[.ptr 7 1 0,.ptr 21 g21 0,v2,x.v3,x.v4,x.v5,x.v6,x.v7,x.v8,x.v9,x.v10,x.v11,x.v12,x.v13,x.v14,x.v15,x.v16,x.v17,x.v18,x.v19,x.v20,x.v21,x.v22,x.v23]
abbrev u0:PRV:=⟨.uu,.uu,.uu,.uu,.uu,.uu,.uu,.uu,.uu,.uu,.uu,.uu,.uu,.uu,.uu,.uu,.uu,.uu,.uu,.uu,.uu⟩
theorem c6s(t:k7)(Y:s7 t)(s:By)(hs:s.length≤1100000000)(J:Nat)(r0 r1 r2 r3 r4 m n o u r13 v w z A F G H a aq aG aH aI:Row)(g24 last ver:Nat)
 (c:List (List Nat)) (kn:List (List Bool)) (S:RI t s (s.length+1) 0 c kn):
 ∃r ws,(∃C N R21 R22 R23 R24 R25 R26,r=.tup []∧PQ t s c C (s.length+1)∧ws=[(6,(1,.arr 2 N false (W6 s.length (s.length+1) c C))),(21,R21),(22,R22),(23,R23),(24,R24),(25,R25),(26,R26)])∧
 FI Tryz.prog (.fn (.func 42) [] []) [.ptr 7 1 0] (HC t s J r0 r1 r2 r3 r4 m n o u r13 v w z A F G H last ver (CS (s.length+1) c) a aq aG (g24,.dead) aH aI) r ws:=by
 have aJ:=a1F Y;have aY:∀st∈j8 t,OkS st:=fun st h=>(a3g Y h).ok;rw[c4r (List.replicate (s.length+1) []) S.len];refine a3P mixed (X:=X42) c42 (by rfl) (by simp[X42]) k8 (by kernel_rfl) fun Q bj aK=>?_;simp[X42,HC];refine F5 (fun(q:Nat×List (List Int)×Nat×Nat×Nat×Int×Row×Row×Nat×Row×Row×PRV) vs h=>q.1≤s.length+1∧PQ t s c q.2.1 q.1∧q.2.2.2.2.2.1=(s.length:Int)-q.1∧
  (q.2.2.1=22∧q.2.2.2.2.2.2.1=(q.2.2.2.1,.var [I q.2.2.2.2.2.1])∨q.2.2.1=25∧q.2.2.2.2.2.2.2.2.2.1=(q.2.2.2.1,.var [I q.2.2.2.2.2.1]))∧
  vs=Z6 (a.1+1) (.ptr q.2.2.1 q.2.2.2.1 0) q.2.2.2.2.2.2.2.2.2.2.2∧
  h=HC t s J r0 r1 r2 r3 r4 m n o u r13 v w z A F G H last q.2.2.2.2.1 (W6 s.length q.1 c q.2.1) (a.1+1,.var [.ptr 7 1 0]) q.2.2.2.2.2.2.1 q.2.2.2.2.2.2.2.1 (q.2.2.2.2.2.2.2.2.1,.dead) q.2.2.2.2.2.2.2.2.2.1 q.2.2.2.2.2.2.2.2.2.2.1) (fun q=>s.length+1-q.1)
  (0,List.replicate (s.length+1) [],22,aq.1+1,ver,(s.length:Int),(aq.1+1,.var [I s.length]),aG,g24,aH,aI,u0) ?_ ?_
 . exact⟨E0 _,PQ.start t s c,k8,.inl ⟨rfl,rfl⟩,rfl,rfl⟩
 . rintro⟨q,C,kp,l,ver,pl,R22,R23,g24,R25,R26,⟨v3,v4,v5,v6,v7,v8,v9,v10,v11,v12,v13,v14,v15,v16,v17,v18,v19,v20,v21,v22,v23⟩⟩ vs h ⟨aZ,Z,a0,ae,rfl,rfl⟩ Q2 aL aM bk;dsimp only at aZ Z a0 ae;by_cases bl:q≤s.length
   . obtain⟨p,hp⟩:∃p,p+q=s.length:=⟨s.length-q,j4⟩
     obtain rfl:pl=(p:Int):=j4;have O:(p:Int)<(s.length:Int)+1:=j4;have aN:p≤s.length:=j4;have aO:IntKind.i64.wrap ((p:Int)-1)=(p:Int)-1:=T3;have ak:=c4Z (c:=c) (C:=C) hp;have M:=b6a s.length q c C;have al:=b8F s.length q c C;have ar:∀j,p<j→j≤s.length→(W6 s.length q c C)[j]?=some (DC (c.getD j []) (C.getD j [])):=fun j h1 am=>c1p am j4;have au:=Z.lat hp;have aP:∀j,p<j→j≤s.length→(c.getD j []).Pairwise (· < ·)∧(C.getD j []).length=(c.getD j []).length∧(c.getD j []).length≤3072∧∀x∈C.getD j [],x≤12288*((s.length+1:Nat):Int):=fun j h1 am=>
      ⟨S.sorted j j4,Z.len j am j4,U3 (a3A _ _ (S.nodup j) fun y av=>S.lt j y av) aJ,fun x T=>by have:=(au j h1 am).2.2 x T;omega⟩
     have aw:(c.getD p []).Pairwise (· < ·):=S.sorted p j4;have ac:∀x∈c.getD p [],x<(j8 t).length:=fun x T=>S.lt p x T;have aa:(c.getD p []).length≤3072:=U3 (a3A _ _ (S.nodup p) fun y av=>S.lt p y av) aJ;have an:=d0J (c:=c) hp Z.cl;have ax:=fun D=>Z.step (D:=D) hp aa;obtain⟨K,a1⟩:=s8 (W6 s.length q c C);obtain⟨L,a2⟩:=s8 (c.getD p []);rw[←a1]at ak M al ar an⊢;rw[←a2]at ak aw ac aa an ax;have a3:p<K.length:=j4;have P:∀X:PV,(K.set p X)[p]?=some X:=fun X=>(by rw[a7Y,if_pos rfl,if_pos a3]);have a4:∀X:PV,D9 X=true→(∀x,x∈K.set p X→D9 x=true)=True:=fun X a5=>eq_true fun x T=>by
      rcases a5o T with h|h
      . exact al x h
      . rw[h];exact a5
     have d:∀R5 R6 R7 R10 R21 R23 R24 R26:Row,[r0,r1,r2,r3,r4,R5,R6,R7,m,n,R10,o,u,r13,v,w,z,A,F,G,H,R21,R22,R23,R24,R25,R26][kp]?=some (l,.var [I p]):=fun _ _ _ _ _ _ _ _=>by rcases ae with⟨rfl,rfl⟩|⟨rfl,rfl⟩<;>rfl
     have f:¬kp=23:=j4;have g:¬kp=24:=j4;have bm:∀X:PV,(K.set p X).length=s.length+1:=fun X=>(by rw[a4J,M]);by_cases aQ:L=[]
     . subst aQ;have a6:PB t s p [] (fun j=>c.getD j []) (fun j=>C.getD j []) (12288*(q:Int)) 0 []:=PB.start (L:=[]) j4;have a7:K[p]?=some (.agg [.nils,.nils]):=ak;simp[d,f,g,HC,Z6,a7,M,O,P];refine F5 (fun(x:Nat×PRV) vs h=>vs=Z6 (a.1+1) (.ptr kp l 0) {x.2 with v3:=.ptr 23 (R23.1+1) 0,v11:=.nils,v12:=IN 0,v13:=IN 0}∧
        h=HC t s J r0 r1 r2 r3 r4 m n o u r13 v w z A F G H last x.1 (K.set p (.agg [.nils,.uslc []])) (a.1+1,.var [.ptr 7 1 0]) R22 (R23.1+1,.var [.eptr 6 1 (s.length+1) 2 p 0]) (g24+1,.dead) R25 R26) (fun _=>0) (_,⟨.uu,_,_,_,_,_,_,_,.uu,.uu,.uu,_,_,_,_,_,_,_,_,_,_⟩) ⟨rfl,rfl⟩ ?_
       rintro⟨ver,⟨v3,v4,v5,v6,v7,v8,v9,v10,v11,v12,v13,v14,v15,v16,v17,v18,v19,v20,v21,v22,v23⟩⟩ vs h ⟨rfl,rfl⟩ Q3 ad af aR;simp[d,f,g,HC,Z6];refine af _ _ _ ?_;simp[d,f,g,M,O,P];refine F5 (fun(x:Nat×PRV) vs h=>vs=Z6 (a.1+1) (.ptr kp l 0) {x.2 with v3:=.ptr 23 (R23.1+1) 0,v6:=.fn (.func 82) [] [.ptr 21 (a.1+1) 0,.ptr 23 (R23.1+1) 0,.ptr kp l 0],v16:=IN 0,v17:=IN 0}∧
        h=HC t s J r0 r1 r2 r3 r4 m n o u r13 v w z A F G H last x.1 (K.set p (.agg [.nils,.uslc []])) (a.1+1,.var [.ptr 7 1 0]) R22 (R23.1+1,.var [.eptr 6 1 (s.length+1) 2 p 0]) (g24+1,.dead) R25 R26) (fun _=>0) (_,⟨.uu,_,_,.uu,_,_,_,_,_,_,_,_,_,.uu,.uu,_,_,_,_,_,_⟩) ⟨rfl,rfl⟩ ?_
       rintro⟨ver,⟨v3,v4,v5,v6,v7,v8,v9,v10,v11,v12,v13,v14,v15,v16,v17,v18,v19,v20,v21,v22,v23⟩⟩ vs h ⟨rfl,rfl⟩ Q4 aS ay a8;simp[d,f,g,HC,Z6];refine ay _ _ _ ?_;simp;refine F5 (fun(x:Nat×PRV) vs h=>vs=Z6 (a.1+1) (.ptr kp l 0) {x.2 with v3:=.ptr 23 (R23.1+1) 0,v6:=.fn (.func 82) [] [.ptr 21 (a.1+1) 0,.ptr 23 (R23.1+1) 0,.ptr kp l 0]}∧
        h=HC t s J r0 r1 r2 r3 r4 m n o u r13 v w z A F G H last x.1 (K.set p (.agg [.nils,.uslc []])) (a.1+1,.var [.ptr 7 1 0]) R22 (R23.1+1,.var [.eptr 6 1 (s.length+1) 2 p 0]) (g24+1,.dead) R25 R26) (fun _=>0) (_,⟨.uu,_,_,.uu,_,_,_,_,_,_,_,_,_,_,_,_,_,_,_,_,_⟩) ⟨rfl,rfl⟩ ?_
       rintro⟨ver,⟨v3,v4,v5,v6,v7,v8,v9,v10,v11,v12,v13,v14,v15,v16,v17,v18,v19,v20,v21,v22,v23⟩⟩ vs h ⟨rfl,rfl⟩ Q5 az aA a9;simp[d,f,g,HC,Z6,M,O,P];refine F5 (fun(x:Nat×PRV) vs h=>vs=Z6 (a.1+1) (.ptr kp l 0) {x.2 with v3:=.ptr 23 (R23.1+1) 0,v6:=.fn (.func 82) [] [.ptr 21 (a.1+1) 0,.ptr 23 (R23.1+1) 0,.ptr kp l 0],v8:=B false,v19:=IN 0,v20:=IN 0}∧
        h=HC t s J r0 r1 r2 r3 r4 m n o u r13 v w z A F G H last x.1 (K.set p (.agg [.nils,.uslc []])) (a.1+1,.var [.ptr 7 1 0]) R22 (R23.1+1,.var [.eptr 6 1 (s.length+1) 2 p 0]) (g24+1,.dead) R25 R26) (fun _=>0) (_,⟨.uu,_,_,.uu,_,.uu,_,_,_,_,_,_,_,_,_,_,.uu,.uu,_,_,_⟩) ⟨rfl,rfl⟩ ?_
       rintro⟨ver,⟨v3,v4,v5,v6,v7,v8,v9,v10,v11,v12,v13,v14,v15,v16,v17,v18,v19,v20,v21,v22,v23⟩⟩ vs h ⟨rfl,rfl⟩ Q6 bn ba bo;simp[d,f,g,HC,Z6];refine ba _ _ _ ?_;simp;refine aA _ _ _ ?_;simp[d,f,g,aO];exact aL (q+1,C.set p [],25,R25.1+1,_,(p:Int)-1,R22,(R23.1+1,.var [.eptr 6 1 (s.length+1) 2 p 0]),g24+1,(R25.1+1,.var [I ((p:Int)-1)]),_,⟨_,_,_,_,_,_,_,_,_,_,_,_,_,_,_,_,_,_,_,_,_⟩) _ _ j4 ⟨u7,ax [] a6 (fun j hj=>absurd hj (a7Z j)),u7,.inr ⟨rfl,rfl⟩,rfl,by dsimp only;rw[←an []];rfl⟩
     . have aT:DS L=.slc (L.map IN):=if_neg aQ;have aB:∀D,DC L D=.agg [.slc (L.map IN),.uslc (D.map I)]:=fun D=>(by unfold DC;rw[aT]);have bb:List.replicate L.length (I 0)=(Y3 t s p L 0).map I:=(by rw[d0a,List.map_replicate]);have hlen:(L.length:Int)≤3072:=j4;have bc:L.length≤9223372036854775807:=j4;have bd:(L.length:Int)*8≤140737488355328:=j4;have aU:∀D:List Int,(∀x,x∈K.set p (.agg [.slc (L.map IN),.uslc (D.map I)])→D9 x=true)=True:=fun D=>a4 _ rfl;simp[d,f,g,HC,Z6,ak,M,O,aT,P,hlen,bc,bd,bb,b1k];refine F5 (fun(x:Nat×Nat×PRV) vs h=>x.1≤L.length∧vs=Z6 (a.1+1) (.ptr kp l 0) {x.2.2 with v3:=.ptr 23 (R23.1+1) 0,v11:=.slc (L.map IN),v12:=IN L.length,v13:=IN x.1}∧
        h=HC t s J r0 r1 r2 r3 r4 m n o u r13 v w z A F G H last x.2.1 (K.set p (.agg [.slc (L.map IN),.uslc ((Y3 t s p L x.1).map I)])) (a.1+1,.var [.ptr 7 1 0]) R22 (R23.1+1,.var [.eptr 6 1 (s.length+1) 2 p 0]) (g24+1,.dead) R25 R26) (fun x=>L.length-x.1) (0,_,⟨.uu,_,_,_,_,_,_,_,.uu,.uu,.uu,_,_,_,_,_,_,_,_,_,_⟩) ⟨E0 _,rfl,rfl⟩ ?_
       rintro⟨k,ver,⟨v3,v4,v5,v6,v7,v8,v9,v10,v11,v12,v13,v14,v15,v16,v17,v18,v19,v20,v21,v22,v23⟩⟩ vs h ⟨aC,rfl,rfl⟩ Q3 ad af aR;dsimp only at aC;by_cases ag:k<L.length
       . have aD:=wk1 k j4;have T:L[k]<(j8 t).length:=ac _ (C4 ag);have ab:=c8o (t:=t) (s:=s) (p:=p) ag;have aE:=b1k t s p L k;have be:(j8 t).getD (L.getD k 0) D5=(j8 t)[L[k]]:=(by grind);rw[be]at ab;have bf:List.take (j8 t).length (List.map SP (j8 t))=(j8 t).map SP:=a0t k8;by_cases ao:p=s.length
         . have aF:(p=s.length)=True:=eq_true ao;have bg:=a9n t (j8 t)[L[k]] Y.ok (aY _ (C4 T));simp[d,f,g,HC,Z6,ag,M,O,P,aE,aF,T,bf];refine l8 bg ?_;cases aV:B8 t (j8 t)[L[k]]with
           |true=>
            rw[if_pos ⟨ao,aV⟩]at ab;have ah:((Y3 t s p L k).map I).set k (I 0)=(Y3 t s p L (k+1)).map I:=(by rw[←ab,L6]);simp[d,f,g,ag,M,O,P,aE,aD,ah];exact ad (k+1,_,⟨.uu,_,_,_,_,_,_,_,.uu,.uu,.uu,_,_,_,_,_,_,_,_,_,_⟩) _ _ j4 ⟨u7,rfl,rfl⟩
           |false=>
            rw[if_neg (fun e=>by rw[aV]at e;exact absurd e.2 H9)]at ab;have ah:((Y3 t s p L k).map I).set k (I (-1))=(Y3 t s p L (k+1)).map I:=(by rw[←ab,L6]);simp[d,f,g,aD,ah];exact ad (k+1,_,⟨.uu,_,_,_,_,_,_,_,.uu,.uu,.uu,_,_,_,_,_,_,_,_,_,_⟩) _ _ j4 ⟨u7,rfl,rfl⟩
         . have aF:(p=s.length)=False:=eq_false ao;rw[if_neg (fun e=>ao e.1)]at ab;have ah:((Y3 t s p L k).map I).set k (I (-1))=(Y3 t s p L (k+1)).map I:=(by rw[←ab,L6]);simp[d,f,g,HC,Z6,ag,M,O,P,aE,aF,aD,ah];exact ad (k+1,_,⟨.uu,_,_,_,_,_,_,_,.uu,.uu,.uu,_,_,_,_,_,_,_,_,_,_⟩) _ _ j4 ⟨u7,rfl,rfl⟩
       obtain rfl:k=L.length:=j4;simp[d,f,g,HC,Z6];refine af _ _ _ ?_;simp[d,f,g,M,O,P];refine F5 (fun(x:Nat×List Int×Nat×Row×PRV) vs h=>x.1≤L.length∧PB t s p L (fun j=>c.getD j []) (fun j=>C.getD j []) (12288*(q:Int)) x.1 x.2.1∧vs=Z6 (a.1+1) (.ptr kp l 0) {x.2.2.2.2 with v3:=.ptr 23 (R23.1+1) 0,v6:=.fn (.func 82) [] [.ptr 21 (a.1+1) 0,.ptr 23 (R23.1+1) 0,.ptr kp l 0],v16:=IN L.length,v17:=IN x.1}∧
        h=HC t s J r0 r1 r2 r3 r4 m n o u r13 v w z A F G H last x.2.2.1 (K.set p (.agg [.slc (L.map IN),.uslc (x.2.1.map I)])) (a.1+1,.var [.ptr 7 1 0]) R22 (R23.1+1,.var [.eptr 6 1 (s.length+1) 2 p 0]) (g24+1,.dead) R25 x.2.2.2.1) (fun x=>L.length-x.1) (0,Y3 t s p L L.length,_,_,⟨.uu,_,_,.uu,_,_,_,_,_,_,_,_,_,.uu,.uu,_,_,_,_,_,_⟩) ⟨E0 _,PB.start j4,rfl,rfl⟩ ?_
       rintro⟨i,D,ver,R26,⟨v3,v4,v5,v6,v7,v8,v9,v10,v11,v12,v13,v14,v15,v16,v17,v18,v19,v20,v21,v22,v23⟩⟩ vs h ⟨aC,U,rfl,rfl⟩ Q3 ad af aR;dsimp only at aC U;by_cases hi:i<L.length
       . have ap:=wk1 i j4;obtain⟨r,ws,⟨N,ai,aj,rfl,rfl⟩,R⟩:=b5z t Y s hs J r0 r1 r2 r3 r4 m n o u r13 v w z A F G H R22 (g24+1,.dead) R25 R26 (a.1+1) (R23.1+1) l kp last ver K p L (fun j=>c.getD j []) (fun j=>C.getD j []) D i false (12288*((s.length+1:Nat):Int)) ae M aN al ar aP aw (U.pi.len) ac aa hi (U.le aa j4) j4 j4;have V:=U.step Y hi ac j4 au;obtain⟨r,hr⟩:∃r,r=V6 t s p L (fun j=>c.getD j []) (fun j=>C.getD j []) i false D ((D6 t).getD (L.getD i 0) []):=⟨_,rfl⟩
         rw[←hr]at R V;obtain⟨D2,aW⟩:=r;simp only[aB]at R;dsimp only at R V;have hu:p8 (HC t s J r0 r1 r2 r3 r4 m n o u r13 v w z A F G H last ver (K.set p (.agg [.slc (L.map IN),.uslc (D.map I)])) (a.1+1,.var [.ptr 7 1 0]) R22 (R23.1+1,.var [.eptr 6 1 (s.length+1) 2 p 0]) (g24+1,.dead) R25 R26) [(6,(1,.arr 2 N false (K.set p (.agg [.slc (L.map IN),.uslc (D2.map I)])))),(26,(ai,aj))]=HC t s J r0 r1 r2 r3 r4 m n o u r13 v w z A F G H last N (K.set p (.agg [.slc (L.map IN),.uslc (D2.map I)])) (a.1+1,.var [.ptr 7 1 0]) R22 (R23.1+1,.var [.eptr 6 1 (s.length+1) 2 p 0]) (g24+1,.dead) R25 (ai,aj):=rfl;simp[d,f,g,HC,Z6,hi,aU];refine a5y R hu rfl ?_;simp[d,f,g,HC,ap];exact ad (i+1,D2,N,_,⟨.uu,_,_,.uu,_,_,_,_,_,_,_,_,_,.uu,.uu,_,_,_,_,_,_⟩) _ _ j4 ⟨u7,V,rfl,rfl⟩
       . obtain rfl:i=L.length:=j4;simp[d,f,g,HC,Z6];refine af _ _ _ ?_;simp[d,f,g,M,O,P];refine F5 (fun(x:List Int×Nat×Row×PRV) vs h=>PB t s p L (fun j=>c.getD j []) (fun j=>C.getD j []) (12288*(q:Int)) L.length x.1∧vs=Z6 (a.1+1) (.ptr kp l 0) {x.2.2.2 with v3:=.ptr 23 (R23.1+1) 0,v6:=.fn (.func 82) [] [.ptr 21 (a.1+1) 0,.ptr 23 (R23.1+1) 0,.ptr kp l 0]}∧
         h=HC t s J r0 r1 r2 r3 r4 m n o u r13 v w z A F G H last x.2.1 (K.set p (.agg [.slc (L.map IN),.uslc (x.1.map I)])) (a.1+1,.var [.ptr 7 1 0]) R22 (R23.1+1,.var [.eptr 6 1 (s.length+1) 2 p 0]) (g24+1,.dead) R25 x.2.2.1) (fun x=>a1G (12288*(q+1)) x.1) (D,_,_,⟨.uu,_,_,.uu,_,_,_,_,_,_,_,_,_,_,_,_,_,_,_,_,_⟩) ⟨U,rfl,rfl⟩ ?_
         rintro⟨D,ver,R26,⟨v3,v4,v5,v6,v7,v8,v9,v10,v11,v12,v13,v14,v15,v16,v17,v18,v19,v20,v21,v22,v23⟩⟩ vs h ⟨U,rfl,rfl⟩ Q4 aS ay a8;dsimp only at U;simp[d,f,g,HC,Z6,M,O,P];refine F5 (fun(x:Nat×List Int×Bool×Nat×Row×PRV) vs h=>x.1≤L.length∧PS t s p L (fun j=>c.getD j []) (fun j=>C.getD j []) (12288*(q:Int)) (12288*(q+1)) D x.1 x.2.1 x.2.2.1∧vs=Z6 (a.1+1) (.ptr kp l 0) {x.2.2.2.2.2 with v3:=.ptr 23 (R23.1+1) 0,v6:=.fn (.func 82) [] [.ptr 21 (a.1+1) 0,.ptr 23 (R23.1+1) 0,.ptr kp l 0],v8:=B x.2.2.1,v19:=IN L.length,v20:=IN x.1}∧
         h=HC t s J r0 r1 r2 r3 r4 m n o u r13 v w z A F G H last x.2.2.2.1 (K.set p (.agg [.slc (L.map IN),.uslc (x.2.1.map I)])) (a.1+1,.var [.ptr 7 1 0]) R22 (R23.1+1,.var [.eptr 6 1 (s.length+1) 2 p 0]) (g24+1,.dead) R25 x.2.2.2.2.1) (fun x=>L.length-x.1) (0,D,false,_,_,⟨.uu,_,_,.uu,_,.uu,_,_,_,_,_,_,_,_,_,_,.uu,.uu,_,_,_⟩) ⟨E0 _,.start U,rfl,rfl⟩ ?_
         rintro⟨i,E,b,ver,R26,⟨v3,v4,v5,v6,v7,v8,v9,v10,v11,v12,v13,v14,v15,v16,v17,v18,v19,v20,v21,v22,v23⟩⟩ vs h ⟨bh,W,rfl,rfl⟩ Q5 az aA a9;dsimp only at bh W;by_cases hi:i<L.length
         . have ap:=wk1 i j4;obtain⟨r,ws,⟨N,ai,aj,rfl,rfl⟩,R⟩:=b5z t Y s hs J r0 r1 r2 r3 r4 m n o u r13 v w z A F G H R22 (g24+1,.dead) R25 R26 (a.1+1) (R23.1+1) l kp last ver K p L (fun j=>c.getD j []) (fun j=>C.getD j []) E i true (12288*((s.length+1:Nat):Int)) ae M aN al ar aP aw (W.pb.pi.len) ac aa hi (W.pb.le aa j4) j4 j4;have V:=W.step Y hi ac aa j4 j4 au;obtain⟨r,hr⟩:∃r,r=V6 t s p L (fun j=>c.getD j []) (fun j=>C.getD j []) i true E ((D6 t).getD (L.getD i 0) []):=⟨_,rfl⟩
           rw[←hr]at R V;obtain⟨D2,aW⟩:=r;simp only[aB]at R;dsimp only at R V;have hu:p8 (HC t s J r0 r1 r2 r3 r4 m n o u r13 v w z A F G H last ver (K.set p (.agg [.slc (L.map IN),.uslc (E.map I)])) (a.1+1,.var [.ptr 7 1 0]) R22 (R23.1+1,.var [.eptr 6 1 (s.length+1) 2 p 0]) (g24+1,.dead) R25 R26) [(6,(1,.arr 2 N false (K.set p (.agg [.slc (L.map IN),.uslc (D2.map I)])))),(26,(ai,aj))]=HC t s J r0 r1 r2 r3 r4 m n o u r13 v w z A F G H last N (K.set p (.agg [.slc (L.map IN),.uslc (D2.map I)])) (a.1+1,.var [.ptr 7 1 0]) R22 (R23.1+1,.var [.eptr 6 1 (s.length+1) 2 p 0]) (g24+1,.dead) R25 (ai,aj):=rfl;simp[d,f,g,HC,Z6,hi,aU];refine a5y R hu rfl ?_;cases aW with
           |true=>
            simp[d,f,g,HC,ap];exact az (i+1,D2,true,N,_,⟨.uu,_,_,.uu,_,.uu,_,_,_,_,_,_,_,_,_,_,.uu,.uu,_,_,_⟩) _ _ j4 ⟨u7,V,rfl,rfl⟩
           |false=>
            simp[d,f,g,HC,ap];exact az (i+1,D2,b,N,_,⟨.uu,_,_,.uu,_,.uu,_,_,_,_,_,_,_,_,_,_,.uu,.uu,_,_,_⟩) _ _ j4 ⟨u7,V,rfl,rfl⟩
         . obtain rfl:i=L.length:=j4;simp[d,f,g,HC,Z6];refine aA _ _ _ ?_;cases b with
           |true=>
            simp;exact aS (E,ver,_,⟨.uu,_,_,.uu,_,_,_,_,_,_,_,_,_,_,_,_,_,_,_,_,_⟩) _ _ (W.less.2 rfl) ⟨W.pb,rfl,rfl⟩
           |false=>
            obtain⟨bp,bi⟩:=W.same rfl;simp;refine ay _ _ _ ?_;simp[d,f,g,aO];exact aL (q+1,C.set p E,25,R25.1+1,_,(p:Int)-1,R22,(R23.1+1,.var [.eptr 6 1 (s.length+1) 2 p 0]),g24+1,(R25.1+1,.var [I ((p:Int)-1)]),_,⟨_,_,_,_,_,_,_,_,_,_,_,_,_,_,_,_,_,_,_,_,_⟩) _ _ j4 ⟨u7,ax E W.pb bi,u7,.inr ⟨rfl,rfl⟩,rfl,by dsimp only;rw[←an E,aB];rfl⟩
   . obtain rfl:q=s.length+1:=j4;have aX:¬0≤pl:=j4;rcases ae with⟨rfl,rfl⟩|⟨rfl,rfl⟩
     . simp[HC,Z6,aX];refine aM _ _ _ ?_;simp;refine aK _ [(6,(1,.arr 2 ver false (W6 s.length (s.length+1) c C))),(21,(a.1+1,.var [.ptr 7 1 0])),(22,(l,.var [I pl])),(23,R23),(24,(g24,.dead)),(25,R25),(26,R26)] _ _ ⟨C,ver,_,_,_,_,_,_,rfl,Z,rfl⟩ ?_;simp[L3,X42,HC]
     . simp[HC,Z6,aX];refine aM _ _ _ ?_;simp;refine aK _ [(6,(1,.arr 2 ver false (W6 s.length (s.length+1) c C))),(21,(a.1+1,.var [.ptr 7 1 0])),(22,R22),(23,R23),(24,(g24,.dead)),(25,(l,.var [I pl])),(26,R26)] _ _ ⟨C,ver,_,_,_,_,_,_,rfl,Z,rfl⟩ ?_;simp[L3,X42,HC]
end
section
def wrS(t:k7)(s:By)(F:Nat→Nat→Int)(p x:Nat)(m:Int):Option (Nat×Nat):=((D6 t).getD x []).find? fun a=>goes t s p a.1&&decide (0≤F (p+B7 t a.1) a.2)&&decide (F (p+B7 t a.1) a.2=m-A0 t a.1)
def wr(t:k7)(s:By)(F:Nat→Nat→Int):Nat→Nat→Nat→Int→List Nat
 |0,_,_,_=>[]
 |n+1,p,x,m=>if 0<m then match wrS t s F p x m with
  |some a=>a.1::wr t s F n (p+B7 t a.1) a.2 (m-A0 t a.1)
  |none=>[]
  else []
structure a2s(t:k7)(s:By)(c:List (List Nat))(C:List (List Int)):Prop where
 lt:∀p x,x∈c.getD p []→x<(j8 t).length
 root:0∈c.getD 0 []
 sorted:∀p,p≤s.length→(c.getD p []).Pairwise (· < ·)
 le:∀p,p≤s.length→(c.getD p []).length≤3072
 next:∀p x,p≤s.length→x∈c.getD p []→∀a∈(D6 t).getD x [],goes t s p a.1=true→a.2∈c.getD (p+B7 t a.1) []
 pq:PQ t s c C (s.length+1)
theorem a7x{t:k7}(b:s7 t){s s':State}{k:Nat}(h:step t s k=some s'):1≤A0 t k:=by have a:=a2B h;unfold A0;rw[B0,l9 a];exact(a3d (b.sound _ (C4 a))).c1
theorem b6t{t:k7}(b:s7 t){s s':State}{k:Nat}(h:step t s k=some s'):A0 t k≤4:=by have a:=a2B h;unfold A0;rw[B0,l9 a];exact(a3d (b.sound _ (C4 a))).c4
theorem b0L(t:k7)(k:Nat)(q:List Nat):(C5 t (k::q)).length=A0 t k+(C5 t q).length:=by show((t.rules.getD k default).cells++C5 t q).length=_;rw[Z9];rfl
theorem a3L(t:k7)(k:Nat)(q:List Nat):J8 t (k::q)=(t.rules.getD k default).print++J8 t q:=rfl
namespace a2s
variable{t:k7}{s:By}{c:List (List Nat)}{C:List (List Int)}
theorem low(h:a2s t s c C)(i:s7 t){q:List Nat}{p x:Nat}{d:State}(hp:p≤s.length)(b:x∈c.getD p [])(h1:E5 t ((j8 t).getD x D5) q=some d)(j:B8 t d=true)(k:J8 t q=s.drop p):0≤FC c C p x∧FC c C p x≤(C5 t q).length:=
 Pay.low (f:=FC c C) (c:=fun p=>c.getD p []) i (fun p x b=>h.lt p x b) (fun p x hp b a e g=>⟨h.next p x hp b a e g,h.pq.clo p hp j4 x b a e g⟩) (h.pq.fin j4) q p x d hp b h1 j k
theorem pay(h:a2s t s c C){p x:Nat}(hp:p≤s.length)(h0:0≤FC c C p x):Pay t s p x (FC c C p x).toNat:=
 (h.pq.snd p hp j4).find (h.pq.len p hp j4) h0
theorem bd(h:a2s t s c C){p x:Nat}(hp:p≤s.length):FC c C p x≤12288*((s.length+1:Nat):Int):=
 a8E (L:=c.getD p []) (fun y a=>by have:=h.pq.bd p hp j4 y a;omega) j4 x
theorem b9e(h:a2s t s c C)(g:s7 t){p x:Nat}(hp:p≤s.length)(f:x∈c.getD p [])(h0:0<FC c C p x):∃a,wrS t s (FC c C) p x (FC c C p x)=some a:=by
 obtain⟨q,n,d,o,e,b⟩:=h.pay hp (Int.le_of_lt h0)
 match q,d,e,b with
 | [],d,e,b=>simp[C5]at b;omega
 |k::q,d,e,b=>
  have i:=h.lt p x f;obtain⟨s1,j,r⟩:=X1.1 (show(T.step t _ k).bind (fun s'=>E5 t s' q)=some n from d);have hm:=b8k i j;have hd:s.drop p=(t.rules.getD k default).print++J8 t q:=by rw[←e];rfl
  obtain⟨g1,g2⟩:=b2l hd;have hle:=a5G g1;have u:=a0g g (a2k i) j;have l:=h.next p x hp f _ hm g1;dsimp only at l;obtain⟨m,i2⟩:=h.low g (show p+B7 t k≤s.length by omega) l (by rw[a2z u];exact r) o g2.symm;have v:=h.pq.clo p hp j4 x f _ hm g1 m;dsimp only at v;rw[b0L]at b;unfold wrS;cases w:((D6 t).getD x []).find? fun a=>goes t s p a.1&&decide (0≤FC c C (p+B7 t a.1) a.2)&&decide (FC c C (p+B7 t a.1) a.2=FC c C p x-A0 t a.1)with
  |some a=>exact⟨a,rfl⟩
  |none=>
   have:=List.find?_eq_none.1 w _ hm;refine absurd ?_ this;simp only[E7,decide_eq_true_eq];exact⟨⟨g1,m⟩,j4⟩
theorem c1l(h:a2s t s c C)(d:s7 t){p x:Nat}(hp:p≤s.length)(e:x∈c.getD p []){m:Int}{a:Nat×Nat}(f:wrS t s (FC c C) p x m=some a):
 a∈(D6 t).getD x []∧goes t s p a.1=true∧FC c C (p+B7 t a.1) a.2=m-A0 t a.1∧0≤m-A0 t a.1∧p+B7 t a.1≤s.length∧a.2∈c.getD (p+B7 t a.1) []∧1≤A0 t a.1∧A0 t a.1≤4:=by
 have h1:=List.find?_some f;have b:=List.mem_of_find?_eq_some f;simp only[E7,decide_eq_true_eq]at h1;obtain⟨⟨g1,g2⟩,g3⟩:=h1;have hle:=a5G g1;obtain⟨s',g,_⟩:=a9r (h.lt p x e) b;exact⟨b,g1,g3,j4,j4,h.next p x hp e a b g1,a7x d g,b6t d g⟩
theorem b7i(h:a2s t s c C)(d:s7 t):∀(n p x:Nat),p≤s.length→x∈c.getD p []→0≤FC c C p x→FC c C p x≤n→
 ∃b,E5 t ((j8 t).getD x D5) (wr t s (FC c C) n p x (FC c C p x))=some b∧B8 t b=true∧J8 t (wr t s (FC c C) n p x (FC c C p x))=s.drop p∧((C5 t (wr t s (FC c C) n p x (FC c C p x))).length:Int)=FC c C p x
 |n,p,x,hp,g,h0,v=>by
  by_cases r:FC c C p x=0
  . have e:wr t s (FC c C) n p x (FC c C p x)=[]:=by
     cases n with
     |zero=>rfl
     |succ n=>unfold wr;rw[if_neg j4]
    rw[e];obtain⟨q,b,f,u,i,j⟩:=h.pay hp h0
    match q,f,i,j with
    | [],f,i,j=>exact⟨b,f,u,i,by rw[r];rfl⟩
    |k::q,f,i,j=>
     obtain⟨s1,l,m⟩:=X1.1 (show(T.step t _ k).bind (fun s'=>E5 t s' q)=some b from f);have:=a7x d l;rw[b0L]at j;omega
  . match n with
    |0=>omega
    |n+1=>
     obtain⟨a,o⟩:=h.b9e d hp g j4;obtain⟨r1,r2,r3,r4,r5,r6,w,y⟩:=h.c1l d hp g o;have e:wr t s (FC c C) (n+1) p x (FC c C p x)=a.1::wr t s (FC c C) n (p+B7 t a.1) a.2 (FC c C (p+B7 t a.1) a.2):=by
      rw[r3]
      conv=>lhs;unfold wr
      rw[if_pos j4,o]
     rw[e];obtain⟨b,w1,w2,w3,w4⟩:=b7i h d n (p+B7 t a.1) a.2 r5 r6 j4 j4;obtain⟨s',l,m⟩:=a9r (h.lt p x g) r1;rw[m,a2z (a0g d (a2k (h.lt p x g)) l),←m]at w1;refine⟨b,?_,w2,?_,?_⟩
     . show(T.step t _ a.1).bind _=_;rw[l];exact w1
     . rw[a3L,w3,←c2j r2]
     . rw[b0L];omega
end a2s
theorem RI.a2N{t:k7}(b:s7 t){s:By}{c:List (List Nat)}{kn:List (List Bool)}{C:List (List Int)}(h:RI t s (s.length+1) 0 c kn)(d:PQ t s c C (s.length+1)):a2s t s c C:=
 ⟨h.lt,h.root,fun p hp=>h.sorted p j4,fun p hp=>U3 (a3A _ _ (h.nodup p) fun y e=>h.lt p y e) (a1F b),fun p x hp f a g i=>by have:=h.done p j4 x f;unfold Cl at this;rw[K8]at this;exact this a g i,d⟩
end
def KF(n:Nat)(c:List (List Nat))(C:List (List Int)):List PV:=(List.range (n+1)).map fun j=>.agg [.slc ((c.getD j []).map IN),.slc ((C.getD j []).map I)]
theorem c3S(n:Nat)(c:List (List Nat))(C:List (List Int)):(KF n c C).length=n+1:=by simp[KF]
theorem c6d{n:Nat}{c:List (List Nat)}{C:List (List Int)}(j:Nat)(h:j<(KF n c C).length):(KF n c C)[j]=.agg [.slc ((c.getD j []).map IN),.slc ((C.getD j []).map I)]:=by simp[KF]
def InC(c:List (List Nat))(p x:Nat):Prop:=x∈c.getD p []
abbrev WR(t:k7)(q:List Nat):PV:=.agg [.uslc ((C5 t q).map UN),.uslc (q.map IN)]
theorem c5k(t:k7)(f:s7 t)(s:By)(hs:s.length≤1100000000)(c:List (List Nat))(C:List (List Int))(b:a2s t s c C)(o q:PV)(h0:0≤FC c C 0 0):
 F0 43 [1,1] [.fptr [IN t.modes,UN t.accept,.slc (t.rules.map RP),St s,o,.slc ((D6 t).map SA),.slc (KF s.length c C),q]] (WR t (wr t s (FC c C) (FC c C 0 0).toNat 0 0 (FC c C 0 0))):=by
 have ad:=a1F f;have ae:(D6 t).length=(j8 t).length:=by simp[D6]
 have M:=c3S s.length c C;have aJ:=b.sorted;have N:∀j x,j≤s.length→F0 83 [0] [.fptr [.slc ((c.getD j []).map IN),.slc ((C.getD j []).map I)],IN x] (I (FC c C j x)):=fun j x hj=>b2E _ _ x (b.sorted j hj) (by have:=b.le j hj;omega) (b.pq.len j hj j4);have aK:=b.bd (p:=0) (x:=0) (E0 _);obtain⟨W,O⟩:=s8 (wr t s (FC c C) (FC c C 0 0).toNat 0 0 (FC c C 0 0));rw[←O];have P:=@c6d s.length c C;refine E1 c43 14 (by simp[X43]) fun Q af ad=>?_;simp[X43,M,P];refine l8 (N 0 0 (E0 _)) ?_;simp;refine I6 (fun(y:Nat×Nat×Int×List Nat×Nat) vs h=>y.1≤s.length∧InC c y.1 y.2.1∧y.2.2.1=FC c C y.1 y.2.1∧0≤y.2.2.1∧y.2.2.1≤y.2.2.2.2∧y.2.2.2.1++wr t s (FC c C) y.2.2.2.2 y.1 y.2.1 y.2.2.1=W∧((C5 t y.2.2.2.1).length:Int)+y.2.2.1=FC c C 0 0∧y.2.2.2.1.length+y.2.2.2.2=(FC c C 0 0).toNat∧
  vs=[.fptr [IN t.modes,UN t.accept,.slc (t.rules.map RP),St s,o,.slc ((D6 t).map SA),.slc (KF s.length c C),q],.ptr 6 1 0,.ptr 7 1 0,IN y.1,IN y.2.1,I y.2.2.1,.uu,.uu,.uu,.uu,.uu,.uu,.uu,.uu,.uu,.uu,.uu,.uu]∧
  h=[dd,dd,dd,dd,dd,dd,(1,.var [.nils,.nils]),(1,.var [.own 8 1 (C5 t y.2.2.2.1).length 1 0 (C5 t y.2.2.2.1).length,.own 9 1 y.2.2.2.1.length 1 0 y.2.2.2.1.length]),(1,.arr 1 0 false ((C5 t y.2.2.2.1).map UN)),(1,.arr 1 0 false (y.2.2.2.1.map IN)),dd,dd,dd,dd])
  (fun y=>y.2.2.1.toNat) (0,0,FC c C 0 0,[],(FC c C 0 0).toNat) ?_ ?_
 . simp[C5,O];exact⟨b.root,h0,j4⟩
 . rintro⟨p,x,m,pre,g⟩ vs h ⟨r,u,S,ag,ah,v,T,ai,rfl,rfl⟩ Q2 aj ak aL;dsimp only at r u S ag ah v T ai;have D:=b.lt p x u;have U:∀a∈(D6 t).getD x [],a.1<t.rules.length∧a.2<(j8 t).length:=fun a d=>by
    obtain⟨s',V,al⟩:=a9r D d;exact⟨a2B V,by rw[al];exact a3J (a0g f (a2k D) V)⟩
   obtain⟨A,am⟩:=s8 ((D6 t).getD x []);have X:(D6 t)[x]'j4=A:=(by grind);have aM:A.length≤64:=by have h1:A=a0u t (j8 t)[x] t.rules.length:=(by rw[←X];simp[D6]);have:=b1z t (j8 t)[x] t.rules.length;have:=f.l64;rw[h1];omega
   by_cases hm:0<m
   . obtain⟨a,d⟩:=b.b9e f r u j4;obtain⟨aN,z2,z3,z4,z5,an,aO,aP⟩:=b.c1l f r u d;rw[←S]at d;have ao:=d;unfold wrS at d;rw[←am]at d U;obtain⟨C1,Y⟩:=s8 (C5 t pre);rw[←Y]at T⊢;simp[hm,ae,D,X];refine I6 (fun(k:Nat) vs h=>k≤A.length∧((A.drop k).find? fun a=>goes t s p a.1&&decide (0≤FC c C (p+B7 t a.1) a.2)&&decide (FC c C (p+B7 t a.1) a.2=m-A0 t a.1))=some a∧
      vs=[.fptr [IN t.modes,UN t.accept,.slc (t.rules.map RP),St s,o,.slc ((D6 t).map SA),.slc (KF s.length c C),q],.ptr 6 1 0,.ptr 7 1 0,IN p,.uu,I m,.uu,.uu,.uu,.uu,.uu,.uu,.slc (A.map ARw),IN A.length,IN k,.uu,.uu,.uu]∧
      h=[dd,dd,dd,dd,dd,dd,(1,.var [.nils,.nils]),(1,.var [.own 8 1 C1.length 1 0 C1.length,.own 9 1 pre.length 1 0 pre.length]),(1,.arr 1 0 false (C1.map UN)),(1,.arr 1 0 false (pre.map IN)),dd,dd,dd,dd])
      (fun k=>A.length-k) 0 ?_ ?_
     . simp[d]
     . rintro k vs h ⟨g1,g2,rfl,rfl⟩ Q3 E ap aQ;by_cases l:k<A.length
       . have F:=wk1 k j4;obtain⟨i,aR⟩:=U _ (C4 l);have Z:=fun aq ar=>b2y t s o aq ar q p A[k].1 r hs f.ok i;have au:(t.rules[A[k].1]).print.length=B7 t A[k].1:=(by unfold B7;rw[B0,l9 i];rfl);have av:(t.rules[A[k].1]).print.isPrefixOf (s.drop p)=goes t s p A[k].1:=(by unfold goes;rw[B0,l9 i];rfl);have w:(t.rules[A[k].1]).cells.length=A0 t A[k].1:=(by unfold A0;rw[B0,l9 i];rfl);have aw:t.rules.getD A[k].1 default=t.rules[A[k].1]:=(by grind);have aS:A0 t A[k].1≤4:=w▸(a3d (f.sound _ (C4 i))).c4;rw[av,au]at Z;rw[b5u l,List.find?_cons]at g2;simp[l];refine l8 (Z _ _) ?_;cases G:goes t s p A[k].1 with
         |false=>
          rw[G]at g2;simp[F];exact E (k+1) _ _ j4 (by simp;exact⟨j4,g2⟩)
         |true=>
          have hle:=a5G G;have H:=N (p+B7 t A[k].1) A[k].2 j4;rw[G]at g2;obtain⟨R,aa⟩:=s8 (FC c C (p+B7 t A[k].1) A[k].2);have ax:=b.bd (p:=p+B7 t A[k].1) (x:=A[k].2) j4;rw[←aa]at H g2 ax;obtain⟨nx,z⟩:=s8 (p+B7 t A[k].1);rw[←z]at H⊢;have aT:(nx:Int)<(s.length:Int)+1:=j4;have ay:nx<s.length+1:=j4;have ab:IntKind.i64.wrap (m-(A0 t A[k].1:Int))=m-(A0 t A[k].1:Int):=T3;simp[l,i,M,P,ay];refine l8 H ?_;by_cases J:R<0
          . have ac:¬0≤R:=j4;have g3:=g2;simp[ac]at g3;simp[J,F];exact E (k+1) _ _ j4 (by simp;exact⟨j4,g3⟩)
          . by_cases B:R=m-(A0 t A[k].1:Int)
            . have ac:0≤R:=j4;have hb:(true&&decide (0≤R)&&decide (R=m-(A0 t A[k].1:Int)))=true:=(by grind);rw[hb]at g2;obtain rfl:A[k]=a:=U4 g2;obtain⟨C2,K⟩:=s8 (C5 t (pre++[A[k].1]));have aU:C2=C1++t.rules[A[k].1].cells:=(by rw[K,b0n,←Y];simp only[C5,a2Z,List.flatMap_nil,a1v,aw]);have az:C1.map UN++t.rules[A[k].1].cells.map UN=C2.map UN:=(by grind);have aA:C1.length+(t.rules[A[k].1]).cells.length=C2.length:=(by grind);have aB:C2.length=C1.length+A0 t A[k].1:=(by rw[←aA,w]);obtain⟨P2,L⟩:=s8 (pre++[A[k].1]);have aC:pre.map IN++[IN A[k].1]=P2.map IN:=(by grind);have aD:pre.length+1=P2.length:=(by rw[L];simp);have aE:C2.length≤140737488355328:=j4;have aF:P2.length*8≤140737488355328:=j4;have aG:P2.length≤140737488355328:=j4;have aH:IntKind.i64.wrap (m-(A0 t A[k].1:Int))=R:=(by rw[ab,B]);have aI:C1.length+A0 t A[k].1=C2.length:=aB.symm;simp[J,w,aH,l,i,az,aI,aC,aD,aE,aF,aG];refine ap _ _ _ ?_;simp;cases g with
              |zero=>omega
              |succ g=>
               refine aj (nx,A[k].2,R,P2,g) _ _ (by grind) ?_;rw[←L]at K;have hw:wr t s (FC c C) (g+1) p x m=A[k].1::wr t s (FC c C) g nx A[k].2 R:=by
                rw[B,z]
                conv=>lhs;unfold wr
                rw[if_pos hm,ao]
               simp[←K];refine⟨j4,by rw[z];exact an,by rw[aa,z],j4,j4,?_,j4,j4⟩;rw[L,a2o,←v,hw];rfl
            . simp[J,B,w,ab,F];have g3:=g2;simp[B]at g3;exact E (k+1) _ _ j4 (by simp;exact⟨j4,g3⟩)
       . grind
   . have aV:m=0:=j4;simp[hm];refine ak _ _ _ ?_;have e:wr t s (FC c C) g p x m=[]:=by
      cases g with
      |zero=>rfl
      |succ n=>unfold wr;rw[if_neg hm]
     rw[e,a1v]at v;subst v;simp;refine af _ _ ?_;simp[X43]
def gTo(g:State→Nat→Option (Nat×Nat))(s:State)(n:Nat):List (Nat×Nat):=(List.range n).filterMap (g s)
def gL(g:State→Nat→Option (Nat×Nat))(t:k7):List (List (Nat×Nat)):=(j8 t).map fun s=>gTo g s t.rules.length
def gU(g:State→Nat→Option (Nat×Nat))(t:k7)(k j:Nat):List (List (Nat×Nat)):=(List.range (j8 t).length).map fun i=>if i<k then gTo g ((j8 t).getD i D5) t.rules.length else if i=k then gTo g ((j8 t).getD i D5) j else []
section
variable{g:State→Nat→Option (Nat×Nat)}{t:k7}
theorem c1R(s:State):gTo g s 0=[]:=rfl
theorem b4G(s:State)(n:Nat):gTo g s (n+1)=gTo g s n++(g s n).toList:=by unfold gTo;rw[a2F,b5t];cases h:g s n<;>simp[h]
theorem b3J(s:State)(n:Nat):(gTo g s n).length≤n:=by have:=List.length_filterMap_le (g s) (List.range n);simpa[gTo]using this
theorem b1r(k j:Nat):(gU g t k j).length=(j8 t).length:=by simp[gU]
theorem b9v:gU g t 0 0=List.replicate (j8 t).length []:=by refine a7X.2 ⟨b1r 0 0,fun b hb=>?_⟩;obtain⟨i,_,rfl⟩:=G7.1 hb;simp[c1R]
theorem b7B(k:Nat):gU g t k t.rules.length=gU g t (k+1) 0:=by
 unfold gU;refine O1 fun i _=>?_;by_cases h1:i<k
 . simp[h1,show i<k+1 by omega]
 . by_cases a:i=k
   . subst a;simp
   . have b:¬i<k+1:=j4;simp[h1,a,b,c1R]
theorem b1n:gU g t (j8 t).length 0=gL g t:=by
 apply a0z (by simp[gU,gL]);intro i h1 a;have hi:i<(j8 t).length:=by simpa[gL]using a
 simp[gU,gL,hi]
theorem b3n{k:Nat}(a:k<(j8 t).length)(j:Nat):(gU g t k j)[k]'(by rw[b1r];exact a)=gTo g (j8 t)[k] j:=by simp[gU,a]
theorem b2k{k:Nat}(a:k<(j8 t).length)(j:Nat):gU g t k (j+1)=(gU g t k j).set k (gTo g (j8 t)[k] (j+1)):=by
 apply a0z (by simp[gU]);intro i h1 b;have hi:i<(j8 t).length:=by simpa[gU]using h1
 rw[a4k];simp only[gU,a0V,a4I];by_cases h:k=i
 . subst h;simp[a]
 . grind
theorem a9V{k:Nat}(a:k<(j8 t).length){j:Nat}(h:g (j8 t)[k] j=none):gU g t k (j+1)=gU g t k j:=by
 rw[b2k a,b4G,h];apply a0z k8;intro i h1 b;rw[a4k];split
 . rename_i e;subst e;rw[b3n a];simp
 . rfl
end
open Classical in
noncomputable def E3(t:k7)(s:State)(k:Nat):Option (Nat×Nat):=(step t s k).bind fun s'=>if Live t s' then some (k,S7 t s')else none
theorem b0x(t:k7):(L8 t).length=(j8 t).length:=by simp[L8]
open Classical in
theorem b9N{t:k7}{s:State}(h:s∈j8 t):(L8 t)[S7 t s]'(by rw[b0x];exact a3J h)=decide (Live t s):=by have h1:=c1E h;rw[l9 (a3J h)]at h1;simp only[L8,a0V,U4 h1]
def a1h(t:k7)(k:Nat):List Bool:=(List.range (j8 t).length).map fun i=>decide (i<k)&&B8 t ((j8 t).getD i D5)
def S5(t:k7):List Bool:=(j8 t).map (B8 t)
theorem b2J(t:k7)(k:Nat):(a1h t k).length=(j8 t).length:=by simp[a1h]
theorem c0G(t:k7):a1h t 0=List.replicate (j8 t).length false:=by refine a7X.2 ⟨b2J t 0,fun b hb=>?_⟩;obtain⟨i,_,rfl⟩:=G7.1 hb;simp
theorem b1D(t:k7):a1h t (j8 t).length=S5 t:=by
 apply a0z (by simp[a1h,S5]);intro i h1 a;have hi:i<(j8 t).length:=by simpa[S5]using a
 simp[a1h,S5,hi]
theorem b6c{t:k7}{k:Nat}(a:k<(j8 t).length):(a1h t k).set k (B8 t (j8 t)[k])=a1h t (k+1):=by
 apply a0z (by simp[a1h]);intro i h1 b;have hi:i<(j8 t).length:=by simpa[a1h]using b
 rw[a4k];simp only[a1h,a0V,a4I];by_cases h:k=i
 . subst h;simp[a]
 . grind
def prt(t:k7)(k:Nat):By:=(t.rules.getD k default).print
def cls(t:k7)(k:Nat):List Nat:=(t.rules.getD k default).cells
def X84:u9:=
 ⟨109,[0,1,2,3,4,5,6,7,8,9,10,11,12,13,19,20,21,22,40,41,42,43,57,58,59,60,82],13,[(2,none)],sq [.reg [H4 1 0 0,odj 2],.reg [oo 3 1,Y4 76 0 1 3,oc 3 1],.reg [oa 3,E6 0,oq (.makeMap 2 (some (.l 1))),oc 4 2],sq [kal 14 3 15 0 16 0,.block 0 (.loop (sq [ki 17 16 15,B9 17 0,.block 1 (sq [.reg [oa 16,N8 3 14 16,J7 3 1,oam 6 3 0 0 0,oc 5 0,og 3 3 2],.reg [oa 4,oo 3 6,oa 5,odo 46 0 1 2]]),ke 16 1 16 0]))],.reg [obv 3 5 6,⟨.len false (.l 0),none,none,[5,6]⟩,⟨.makeSlice 4 1 24 .nils (.l 1) (.l 1),none,none,[5,6]⟩,obv 3 4 6,⟨.len false (.l 3),none,none,[4,6]⟩,⟨.makeSlice 5 1 1 (.bool false) (.l 4) (.l 4),none,none,[4,6]⟩,⟨.load true 3 (.v 1),none,none,[4,5]⟩,⟨.call 91 [.l 6] [(6,1)] false,none,none,[4,5]⟩,oq (.build [.nils,.nils,.nils] [(0,1,.l 2),(1,1,.l 5),(2,1,.l 7)]),oq (.box 7 (.l 8)),oc 7 9],sq [kal 18 3 19 0 20 0,.block 2 (.loop (sq [ki 21 20 19,B9 21 2,.block 3 (sq [.reg [oa 20,N8 3 18 20,J7 3 1,oam 9 8 0 0 0,oc 8 0,og 3 3 2],.reg [oa 7,C7 0,ok 1 1,ob 1 2,oa 8,oo 3 1,oo 3 9,oay 21 5 6 0 0,ol 1 3 4,og 1 8 7],.reg [od 2 1,Z3 22 1 0,N4 23 1,ov 24 0],.block 4 (.loop (sq [ki 25 24 23,B9 25 4,.block 5 (sq [.reg [oa 24,N8 6 22 24,J7 6 1,oat 11 9 0 0 0 0,oc 10 0,og 6 3 2],.reg [oo 3 1,oo 3 9,oa 10,oei 77 0 1 2 0 0 0 0 0 0 0 0,om 3,oy 4 0,oy 4 1,oam 12 10 0 0 0,og 3 7 5,oc 13 6],.reg [oa 13,om 0,oj 7 1,obe 2 1,oaw 2 3 1,oe 1 4 1,oj 4 1,ocd 3 12 1,⟨.lookup 46 false (.int .i64 0) (.l 6) (.l 7),none,some (.l 1,true),[]⟩,oau 1 5 8 1,oe 1 9 1,V1 26 1 10],.cond (.v 26) (.G4 8 none 26010 0 (.reg [obv 7 11 12,odq 0 11 12,ocn 0 1 11 12,oey 1 2 11 12,obv 8 11 12,M9 7 11,ocx 5 11,ock 0 6 11,Q7 1 7 11,M9 8 11,obo 1 8 9 11,Q7 1 10 11,od 0 11,ob 1 12,od 1 11,ob 1 14,oa 4,oo 3 12,oq (.lookup 46 false (.int .i64 0) (.l 16) (.l 17)),oq (.build [.str ⟨#[]⟩,.nils,.int .i64 0] [(0,1,.l 13),(1,1,.l 15),(2,1,.l 18)]),oq (.mkarr 11 3 [.agg [.str ⟨#[]⟩,.nils,.int .i64 0]] [(0,.l 19)]),J3 12 3 48 1 11 20,ol 1 3 4,og 1 22 21])) kc]),ke 24 1 24 0]))]),ke 20 1 20 0]))],kf 7 2 0,.G6 [(4,true),(5,true),(6,true)] (.G4 2 none 1 0 ko)]⟩
def X49:u9:=
 ⟨110,[0,1,2,3,4,5,6,7,8,9,10,11,12,13,14,22,23,24,25,44,45,46,47,61,62,63,64,83],13,[(2,none)],sq [.reg [H4 1 0 0,odj 2],.reg [oo 3 1,Y4 76 0 1 3,occ 3 1 1,Y4 91 2 2 1,oc 3 1,oc 4 3],.reg [oa 3,E6 0,oq (.makeMap 3 (some (.l 1))),oc 5 2],sq [kal 15 3 16 0 17 0,.block 0 (.loop (sq [ki 18 17 16,B9 18 0,.block 1 (sq [.reg [oa 17,N8 3 15 17,J7 3 1,oam 7 4 0 0 0,oc 6 0,og 3 3 2],.reg [oa 5,oo 3 7,oa 6,odo 46 0 1 2]]),ke 17 1 17 0]))],.reg [M9 3 6,⟨.len false (.l 0),none,none,[6]⟩,⟨.makeSlice 5 1 24 .nils (.l 1) (.l 1),none,none,[6]⟩,M9 3 5,⟨.len false (.l 3),none,none,[5]⟩,⟨.makeSlice 6 1 1 (.bool false) (.l 4) (.l 4),none,none,[5]⟩,obv 4 5 6,⟨.indexAddr 1 (.l 6) (oi 0),none,none,[5,6]⟩,odg 1 7 5 6,oq (.build [.nils,.nils,.bool false] [(0,1,.l 2),(1,1,.l 5),(2,1,.l 8)]),oq (.box 7 (.l 9)),oc 8 10],sq [kal 19 3 20 0 21 0,.block 2 (.loop (sq [ki 22 21 20,B9 22 2,.block 3 (sq [.reg [oa 21,N8 3 19 21,J7 3 1,oam 10 8 0 0 0,oc 9 0,og 3 3 2],.reg [oa 8,C7 0,ok 1 1,ob 1 2,oa 9,oo 3 1,oo 3 10,oay 21 5 6 0 0,ol 1 3 4,og 1 8 7],.reg [od 2 1,Z3 23 1 0,N4 24 1,ov 25 0],.block 4 (.loop (sq [ki 26 25 24,B9 26 4,.block 5 (sq [.reg [oa 25,N8 6 23 25,J7 6 1,oat 12 9 0 0 0 0,oc 11 0,og 6 3 2],.reg [oo 3 1,oo 3 10,oa 11,oei 77 0 1 2 0 0 0 0 0 0 0 0,om 3,oy 4 0,oy 4 1,oam 13 10 0 0 0,og 3 7 5,oc 14 6],.reg [oa 14,om 0,oj 4 1,oj 5 1,ocd 3 13 1,⟨.lookup 46 false (.int .i64 0) (.l 3) (.l 4),none,some (.l 1,true),[]⟩,oau 1 2 5 1,oe 1 6 1,V1 27 1 7],.cond (.v 27) (.G4 9 none 26012 0 (.reg [obv 8 11 12,odq 0 11 12,ocn 0 1 11 12,oey 1 2 11 12,obv 9 11 12,M9 8 11,ocx 5 11,ock 0 6 11,Q7 1 7 11,M9 9 11,obo 1 8 9 11,Q7 1 10 11,od 0 12,ob 1 12,od 1 12,ob 1 14,oa 5,oo 3 13,oq (.lookup 46 false (.int .i64 0) (.l 16) (.l 17)),oq (.build [.str ⟨#[]⟩,.nils,.int .i64 0] [(0,1,.l 13),(1,1,.l 15),(2,1,.l 18)]),oq (.mkarr 11 3 [.agg [.str ⟨#[]⟩,.nils,.int .i64 0]] [(0,.l 19)]),J3 12 3 48 1 11 20,ol 1 3 4,og 1 22 21])) kc]),ke 25 1 25 0]))]),ke 21 1 21 0]))],kf 8 2 0,.G6 [(5,true),(6,true)] (.G4 2 none 1 0 ko)]⟩
theorem c84:D3 84 X84:=D7
theorem c49:D3 49 X49:=D7
abbrev AG(t:k7)(a:Nat×Nat):PV:=.agg [St (prt t a.1),CL (cls t a.1),IN a.2]
abbrev FG(t:k7)(l:List (Nat×Nat)):PV:=if l=[]then .nils else .uslc (l.map (AG t))
abbrev SG(t:k7)(l:List (Nat×Nat)):PV:=.slc (l.map (AG t))
abbrev AV(t:k7)(a:Nat×Nat):PV:=.agg [St (prt t a.1),IN (cls t a.1).length,IN a.2]
abbrev FV(t:k7)(l:List (Nat×Nat)):PV:=if l=[]then .nils else .uslc (l.map (AV t))
@[simp] theorem d4d(t:k7):FG t []=.nils:=rfl
@[simp] theorem d2I(t:k7)(a:Nat×Nat)(l:List (Nat×Nat)):FG t (a::l)=.uslc (AG t a::l.map (AG t)):=rfl
@[simp] theorem d3S(t:k7):FV t []=.nils:=rfl
@[simp] theorem d4U(t:k7)(a:Nat×Nat)(l:List (Nat×Nat)):FV t (a::l)=.uslc (AV t a::l.map (AV t)):=rfl
@[simp] theorem d4o(t:k7)(l:List (Nat×Nat)):List.map (B6∘AG t) l=l.map (AG t):=O1 fun _ _=>rfl
theorem b8H(t:k7)(l:List (Nat×Nat)):B6 (FG t l)=SG t l:=by
 cases l with
 |nil=>rfl
 |cons a l=>simp[B6,K5]<;>rfl
theorem b6W(t:k7)(l:List (Nat×Nat)):D9 (FG t l)=true:=by unfold FG;split<;>rfl
structure GV where
 (w0 w1 w2 w3 w4 w5 w6 w7 w8 w9 w10 w11:PV)
theorem c5G(t:k7)(c:s7 t):F0 84 [0] [TP t] (.fptr [.slc ((gL (E3 t) t).map (SG t)),.slc ((S5 t).map B),.slc ((L8 t).map B)]):=by
 have ae:=a1F c;have af:=a2J c;have w:(j8 t).length≤140737488355328:=j4;have y:(j8 t).length≤9223372036854775807:=j4;have I:((j8 t).length:Int)*24≤140737488355328:=j4;have f:=b0x t;refine E1 c84 14 (by simp[X84]) fun Q J ag=>?_;simp[X84];refine l8 (b4s t c) ?_;simp[w,y];refine F5 (fun(x:Nat×PV×PV×PV×Row) vs h=>x.1≤(j8 t).length∧vs=[TP t,.ptr 0 1 0,.lit (.pointer none),.own 1 1 (j8 t).length 3 0 (j8 t).length,.mapv 2 1,x.2.1,x.2.2.1,.uu,.uu,.uu,.uu,.uu,.uu,.uu,.own 1 1 (j8 t).length 3 0 (j8 t).length,IN (j8 t).length,IN x.1,x.2.2.2.1,.uu,.uu,.uu,.uu,.uu,.uu,.uu,.uu,.uu]∧h=[(1,.var (TC t)),(1,.arr 3 0 false (F9 (j8 t))),(1,.mp false (F9 (X0 t x.1)) ((List.range x.1).map IN)),x.2.2.2.2,dd,dd,dd,dd,dd,dd,dd,dd,dd,dd]) (fun x=>(j8 t).length-x.1) (0,.uu,.uu,.uu,dd) ?_ ?_
 . simp[X0]
 . rintro⟨i,v5,v6,v17,R3⟩ vs h ⟨g1,rfl,rfl⟩ Q' K L ah;dsimp only at g1;by_cases hi:i<(j8 t).length
   . have hw:=wk1 i j4;have n:(X0 t i).idxOf? (j8 t)[i]=none:=b4w (b1J c) hi;have M:F9 (X0 t i)++[.agg [IN (j8 t)[i].mode,IN (j8 t)[i].last,UN (j8 t)[i].need]]=F9 (X0 t (i+1)):=(by rw[show X0 t (i+1)=X0 t i++[(j8 t)[i]]by unfold X0;rw[List.take_append_getElem]];simp);have N:List.map IN (List.range i)++[IN i]=List.map IN (List.range (i+1)):=(by rw[a2F];simp);simp[hi,hw,n,M,N];exact K (i+1,_,_,_,_) _ _ j4 ⟨u7,rfl,rfl⟩
   . obtain rfl:i=(j8 t).length:=j4;have O:X0 t (j8 t).length=j8 t:=K8;simp;refine L _ _ _ ?_;simp[y,I,w,O];refine l8 (c1v t c) ?_;simp[f];refine F5 (fun(x:Nat×Nat×Nat×GV×Row×Row×Row×Nat×Nat×Nat) vs h=>x.1≤(j8 t).length∧vs=[TP t,.ptr 0 1 0,.lit (.pointer none),.own 1 1 (j8 t).length 3 0 (j8 t).length,.mapv 2 1,v5,v6,.ptr 7 1 0,x.2.2.2.1.w0,x.2.2.2.1.w1,x.2.2.2.1.w2,x.2.2.2.1.w3,x.2.2.2.1.w4,x.2.2.2.1.w5,.own 1 1 (j8 t).length 3 0 (j8 t).length,IN (j8 t).length,IN (j8 t).length,.bool false,.own 1 1 (j8 t).length 3 0 (j8 t).length,IN (j8 t).length,IN x.1,x.2.2.2.1.w6,x.2.2.2.1.w7,x.2.2.2.1.w8,x.2.2.2.1.w9,x.2.2.2.1.w10,x.2.2.2.1.w11]∧h=[(1,.var (TC t)),(1,.arr 3 0 false (F9 (j8 t))),(1,.mp false (F9 (j8 t)) ((List.range (j8 t).length).map IN)),R3,(1,.arr 1 x.2.1 false ((gU (E3 t) t x.1 0).map (FG t))),(1,.arr 1 x.2.2.1 false ((a1h t x.1).map B)),(1,.arr 1 0 false ((L8 t).map B)),(1,.var [.own 4 1 (j8 t).length 1 0 (j8 t).length,.own 5 1 (j8 t).length 1 0 (j8 t).length,.own 6 1 (j8 t).length 1 0 (j8 t).length]),x.2.2.2.2.1,x.2.2.2.2.2.1,x.2.2.2.2.2.2.1,(x.2.2.2.2.2.2.2.1,.dead),(x.2.2.2.2.2.2.2.2.1,.dead),(x.2.2.2.2.2.2.2.2.2,.dead)]) (fun x=>(j8 t).length-x.1) (0,0,0,⟨.uu,.uu,.uu,.uu,.uu,.uu,.uu,.uu,.uu,.uu,.uu,.uu⟩,dd,dd,dd,0,0,0) ?_ ?_
     . simp[b9v,c0G]
     . rintro⟨k,ver,ai,⟨v8,v9,v10,v11,v12,v13,v21,v22,v23,v24,z,A⟩,R8,R9,R10,g11,g12,g13⟩ vs h ⟨g2,rfl,rfl⟩ Q2 P R aj;dsimp only at g2;by_cases b:k<(j8 t).length
       . have S:=wk1 k j4;have C:=a3g c (C4 b);have T:=a9n t (j8 t)[k] c.ok C.ok;have U:=b2J t k;have V:((a1h t k).map B).set k (B (B8 t (j8 t)[k]))=(a1h t (k+1)).map B:=(by rw[←b6c b,L6]);simp[b];refine l8 T ?_;simp[b,U,V];refine F5 (fun(x:Nat×Nat×Nat×GV×Row×Row×Row×Nat×Nat×Nat) vs h=>x.1≤t.rules.length∧vs=[TP t,.ptr 0 1 0,.lit (.pointer none),.own 1 1 (j8 t).length 3 0 (j8 t).length,.mapv 2 1,v5,v6,.ptr 7 1 0,IN k,.ptr 8 (R8.1+1) 0,x.2.2.2.1.w2,x.2.2.2.1.w3,x.2.2.2.1.w4,x.2.2.2.1.w5,.own 1 1 (j8 t).length 3 0 (j8 t).length,IN (j8 t).length,IN (j8 t).length,.bool false,.own 1 1 (j8 t).length 3 0 (j8 t).length,IN (j8 t).length,IN k,.bool true,.slc (t.rules.map RP),IN t.rules.length,IN x.1,x.2.2.2.1.w10,x.2.2.2.1.w11]∧h=[(1,.var (TC t)),(1,.arr 3 0 false (F9 (j8 t))),(1,.mp false (F9 (j8 t)) ((List.range (j8 t).length).map IN)),R3,(1,.arr 1 x.2.1 false ((gU (E3 t) t k x.1).map (FG t))),(1,.arr 1 x.2.2.1 false ((a1h t (k+1)).map B)),(1,.arr 1 0 false ((L8 t).map B)),(1,.var [.own 4 1 (j8 t).length 1 0 (j8 t).length,.own 5 1 (j8 t).length 1 0 (j8 t).length,.own 6 1 (j8 t).length 1 0 (j8 t).length]),(R8.1+1,.var [IN (j8 t)[k].mode,IN (j8 t)[k].last,UN (j8 t)[k].need]),x.2.2.2.2.2.1,x.2.2.2.2.2.2.1,(x.2.2.2.2.2.2.2.1,.dead),(x.2.2.2.2.2.2.2.2.1,.dead),(x.2.2.2.2.2.2.2.2.2,.dead)]) (fun x=>t.rules.length-x.1) (0,ver,_,⟨v8,v9,v10,v11,v12,v13,v21,v22,v23,v24,z,A⟩,R8,R9,R10,g11,g12,g13) ⟨E0 _,rfl,rfl⟩ ?_
         . rintro⟨j,ver,ak,⟨v8,v9,v10,v11,v12,v13,v21,v22,v23,v24,z,A⟩,R80,R9,R10,g11,g12,g13⟩ vs h ⟨g3,rfl,rfl⟩ Q3 o W al;dsimp only at g3;by_cases hj:j<t.rules.length
           . have am:=c.l64;have p:=wk1 j j4;have X:=b1p t (j8 t)[k] j c.ok C.ok j4;have D:=b1r (g:=E3 t) (t:=t) k j;have E:(t.rules[j]).print=prt t j:=(by unfold prt;rw[B0,l9 hj];rfl);have F:(t.rules[j]).cells=cls t j:=(by unfold cls;rw[B0,l9 hj];rfl);simp[hj];refine l8 X ?_;cases hs:step t (j8 t)[k] j with
             |none=>
              have d:gU (E3 t) t k (j+1)=gU (E3 t) t k j:=a9V b (by unfold E3;rw[hs];rfl);simp[p];exact o (j+1,_,_,⟨v8,v9,_,_,_,_,v21,v22,v23,v24,_,_⟩,R8,_,_,_,_,_) _ _ j4 ⟨u7,rfl,by rw[d]<;>rfl⟩
             |some nx=>
              have q:=a0g c (C4 b) hs;have r:=a8F q;have hm:=a3J q;have s:=b9N q;by_cases m:Live t nx
              case neg=>
               have d:gU (E3 t) t k (j+1)=gU (E3 t) t k j:=a9V b (by unfold E3;rw[hs];exact if_neg m);simp[b,p,r,hm,f,s,m];exact o (j+1,_,_,⟨v8,v9,_,_,_,_,v21,v22,v23,v24,_,_⟩,R8,_,_,_,_,_) _ _ j4 ⟨u7,rfl,by rw[d]<;>rfl⟩
              case pos=>
               have Y:E3 t (j8 t)[k] j=some (j,S7 t nx):=(by unfold E3;rw[hs];exact if_pos m);have d:=b2k (g:=E3 t) b j;rw[b4G,Y]at d;have e:=b3n (g:=E3 t) b j;have G:k<(gU (E3 t) t k j).length:=j4;by_cases n:gTo (E3 t) (j8 t)[k] j=[]
               . rw[n]at d e;have u:FG t (gU (E3 t) t k j)[k]=.nils:=(by rw[e];rfl);have v:(List.map (FG t) (gU (E3 t) t k j)).set k (.uslc [.agg [St (prt t j),CL (cls t j),IN (S7 t nx)]])=List.map (FG t) (gU (E3 t) t k (j+1)):=(by rw[d,L6];rfl);simp[b,D,p,r,hm,G,u,v,e,f,s,m,E,F];exact o (j+1,_,_,⟨v8,v9,_,_,_,_,v21,v22,v23,v24,_,_⟩,R8,_,_,_,_,_) _ _ j4 ⟨u7,rfl,rfl⟩
               . obtain⟨a,l,H⟩:=a9L n;rw[H]at d e;have u:FG t (gU (E3 t) t k j)[k]=.uslc (AG t a::l.map (AG t)):=(by rw[e];rfl);have v:(List.map (FG t) (gU (E3 t) t k j)).set k (.uslc (AG t a::(l.map (AG t)++[.agg [St (prt t j),CL (cls t j),IN (S7 t nx)]])))=List.map (FG t) (gU (E3 t) t k (j+1)):=(by rw[d,L6];simp);have hle:=b3J (g:=E3 t) (j8 t)[k] j;rw[H]at hle;have Z:(l.length+1+1)*48≤140737488355328:=(by grind);simp[b,D,p,r,hm,G,u,v,e,Z,f,s,m,E,F];exact o (j+1,_,_,⟨v8,v9,_,_,_,_,v21,v22,v23,v24,_,_⟩,R8,_,_,_,_,_) _ _ j4 ⟨u7,rfl,rfl⟩
           . obtain rfl:j=t.rules.length:=j4;simp;refine W _ _ _ ?_;simp[S];exact P (k+1,_,_,⟨_,_,_,_,_,_,_,_,_,_,_,_⟩,_,_,_,_,_,_) _ _ j4 ⟨u7,rfl,by rw[←b7B]<;>rfl⟩
       . obtain rfl:k=(j8 t).length:=j4;have aa:(∀(x:List (Nat×Nat)),x∈gL (E3 t) t→D9 (FG t x)=true)=True:=eq_true fun x _=>b6W t x;have ab:List.map (B6∘FG t) (gL (E3 t) t)=(gL (E3 t) t).map (SG t):=O1 fun l _=>b8H t l;have ac:(gL (E3 t) t).length=(j8 t).length:=(by simp[gL]);have ad:(S5 t).length=(j8 t).length:=(by simp[S5]);simp[b1n,b1D];refine R _ _ _ ?_;simp[b1n,b1D,aa,ab,ac,ad,f];refine J _ _ ?_;simp[X84]
open Classical in
theorem d1D(t:k7)(c:s7 t):F0 49 [0] [TP t] (.fptr [.slc ((gL (E3 t) t).map (SG t)),.slc ((S5 t).map B),B (decide (Live t start))]):=by
 have ah:=a1F c;have I:=a2J c;have q:(j8 t).length≤140737488355328:=j4;have r:(j8 t).length≤9223372036854775807:=j4;have J:((j8 t).length:Int)*24≤140737488355328:=j4;have e:=b0x t;have K:(L8 t)[0]'(by rw[e];omega)=decide (Live t start):=by have h1:=a2t c;rw[l9 j4]at h1;simp only[L8,a0V,U4 h1]
 have L:0<(j8 t).length:=I;refine E1 c49 14 (by simp[X49]) fun Q M ai=>?_;simp[X49];refine l8 (b4s t c) ?_;simp[q,r];refine l8 (c1v t c) ?_;simp[q,r,e];refine F5 (fun(x:Nat×PV×PV×PV×Row) vs h=>x.1≤(j8 t).length∧vs=[TP t,.ptr 0 1 0,.lit (.pointer none),.own 1 1 (j8 t).length 3 0 (j8 t).length,.own 2 1 (j8 t).length 1 0 (j8 t).length,.mapv 3 1,x.2.1,x.2.2.1,.uu,.uu,.uu,.uu,.uu,.uu,.uu,.own 1 1 (j8 t).length 3 0 (j8 t).length,IN (j8 t).length,IN x.1,x.2.2.2.1,.uu,.uu,.uu,.uu,.uu,.uu,.uu,.uu,.uu]∧h=[(1,.var (TC t)),(1,.arr 3 0 false (F9 (j8 t))),(1,.arr 1 0 false ((L8 t).map B)),(1,.mp false (F9 (X0 t x.1)) ((List.range x.1).map IN)),x.2.2.2.2,dd,dd,dd,dd,dd,dd,dd,dd,dd]) (fun x=>(j8 t).length-x.1) (0,.uu,.uu,.uu,dd) ?_ ?_
 . simp[X0]
 . rintro⟨i,v5,v6,v17,R3⟩ vs h ⟨g1,rfl,rfl⟩ Q' N O aj;dsimp only at g1;by_cases hi:i<(j8 t).length
   . have hw:=wk1 i j4;have n:(X0 t i).idxOf? (j8 t)[i]=none:=b4w (b1J c) hi;have P:F9 (X0 t i)++[.agg [IN (j8 t)[i].mode,IN (j8 t)[i].last,UN (j8 t)[i].need]]=F9 (X0 t (i+1)):=(by rw[show X0 t (i+1)=X0 t i++[(j8 t)[i]]by unfold X0;rw[List.take_append_getElem]];simp);have R:List.map IN (List.range i)++[IN i]=List.map IN (List.range (i+1)):=(by rw[a2F];simp);simp[hi,hw,n,P,R];exact N (i+1,_,_,_,_) _ _ j4 ⟨u7,rfl,rfl⟩
   . obtain rfl:i=(j8 t).length:=j4;have S:X0 t (j8 t).length=j8 t:=K8;simp;refine O _ _ _ ?_;simp[r,J,q,S,e,L,K];refine F5 (fun(x:Nat×Nat×Nat×GV×Row×Row×Row×Nat×Nat×Nat) vs h=>x.1≤(j8 t).length∧vs=[TP t,.ptr 0 1 0,.lit (.pointer none),.own 1 1 (j8 t).length 3 0 (j8 t).length,.own 2 1 (j8 t).length 1 0 (j8 t).length,.mapv 3 1,v5,v6,.ptr 7 1 0,x.2.2.2.1.w0,x.2.2.2.1.w1,x.2.2.2.1.w2,x.2.2.2.1.w3,x.2.2.2.1.w4,x.2.2.2.1.w5,.own 1 1 (j8 t).length 3 0 (j8 t).length,IN (j8 t).length,IN (j8 t).length,.bool false,.own 1 1 (j8 t).length 3 0 (j8 t).length,IN (j8 t).length,IN x.1,x.2.2.2.1.w6,x.2.2.2.1.w7,x.2.2.2.1.w8,x.2.2.2.1.w9,x.2.2.2.1.w10,x.2.2.2.1.w11]∧h=[(1,.var (TC t)),(1,.arr 3 0 false (F9 (j8 t))),(1,.arr 1 0 false ((L8 t).map B)),(1,.mp false (F9 (j8 t)) ((List.range (j8 t).length).map IN)),R3,(1,.arr 1 x.2.1 false ((gU (E3 t) t x.1 0).map (FG t))),(1,.arr 1 x.2.2.1 false ((a1h t x.1).map B)),(1,.var [.own 5 1 (j8 t).length 1 0 (j8 t).length,.own 6 1 (j8 t).length 1 0 (j8 t).length,B (decide (Live t start))]),x.2.2.2.2.1,x.2.2.2.2.2.1,x.2.2.2.2.2.2.1,(x.2.2.2.2.2.2.2.1,.dead),(x.2.2.2.2.2.2.2.2.1,.dead),(x.2.2.2.2.2.2.2.2.2,.dead)]) (fun x=>(j8 t).length-x.1) (0,0,0,⟨.uu,.uu,.uu,.uu,.uu,.uu,.uu,.uu,.uu,.uu,.uu,.uu⟩,dd,dd,dd,0,0,0) ?_ ?_
     . simp[b9v,c0G]
     . rintro⟨k,ver,ak,⟨v8,v9,v10,v11,v12,v13,v21,v22,v23,v24,z,A⟩,R8,R9,R10,g11,g12,g13⟩ vs h ⟨g2,rfl,rfl⟩ Q2 T U al;dsimp only at g2;by_cases b:k<(j8 t).length
       . have V:=wk1 k j4;have C:=a3g c (C4 b);have W:=a9n t (j8 t)[k] c.ok C.ok;have X:=b2J t k;have Y:((a1h t k).map B).set k (B (B8 t (j8 t)[k]))=(a1h t (k+1)).map B:=(by rw[←b6c b,L6]);simp[b];refine l8 W ?_;simp[b,X,Y];refine F5 (fun(x:Nat×Nat×Nat×GV×Row×Row×Row×Nat×Nat×Nat) vs h=>x.1≤t.rules.length∧vs=[TP t,.ptr 0 1 0,.lit (.pointer none),.own 1 1 (j8 t).length 3 0 (j8 t).length,.own 2 1 (j8 t).length 1 0 (j8 t).length,.mapv 3 1,v5,v6,.ptr 7 1 0,IN k,.ptr 8 (R8.1+1) 0,x.2.2.2.1.w2,x.2.2.2.1.w3,x.2.2.2.1.w4,x.2.2.2.1.w5,.own 1 1 (j8 t).length 3 0 (j8 t).length,IN (j8 t).length,IN (j8 t).length,.bool false,.own 1 1 (j8 t).length 3 0 (j8 t).length,IN (j8 t).length,IN k,.bool true,.slc (t.rules.map RP),IN t.rules.length,IN x.1,x.2.2.2.1.w10,x.2.2.2.1.w11]∧h=[(1,.var (TC t)),(1,.arr 3 0 false (F9 (j8 t))),(1,.arr 1 0 false ((L8 t).map B)),(1,.mp false (F9 (j8 t)) ((List.range (j8 t).length).map IN)),R3,(1,.arr 1 x.2.1 false ((gU (E3 t) t k x.1).map (FG t))),(1,.arr 1 x.2.2.1 false ((a1h t (k+1)).map B)),(1,.var [.own 5 1 (j8 t).length 1 0 (j8 t).length,.own 6 1 (j8 t).length 1 0 (j8 t).length,B (decide (Live t start))]),(R8.1+1,.var [IN (j8 t)[k].mode,IN (j8 t)[k].last,UN (j8 t)[k].need]),x.2.2.2.2.2.1,x.2.2.2.2.2.2.1,(x.2.2.2.2.2.2.2.1,.dead),(x.2.2.2.2.2.2.2.2.1,.dead),(x.2.2.2.2.2.2.2.2.2,.dead)]) (fun x=>t.rules.length-x.1) (0,ver,_,⟨v8,v9,v10,v11,v12,v13,v21,v22,v23,v24,z,A⟩,R8,R9,R10,g11,g12,g13) ⟨E0 _,rfl,rfl⟩ ?_
         . rintro⟨j,ver,am,⟨v8,v9,v10,v11,v12,v13,v21,v22,v23,v24,z,A⟩,R80,R9,R10,g11,g12,g13⟩ vs h ⟨g3,rfl,rfl⟩ Q3 o Z an;dsimp only at g3;by_cases hj:j<t.rules.length
           . have ao:=c.l64;have p:=wk1 j j4;have aa:=b1p t (j8 t)[k] j c.ok C.ok j4;have D:=b1r (g:=E3 t) (t:=t) k j;have E:(t.rules[j]).print=prt t j:=(by unfold prt;rw[B0,l9 hj];rfl);have F:(t.rules[j]).cells=cls t j:=(by unfold cls;rw[B0,l9 hj];rfl);simp[hj];refine l8 aa ?_;cases hs:step t (j8 t)[k] j with
             |none=>
              have d:gU (E3 t) t k (j+1)=gU (E3 t) t k j:=a9V b (by unfold E3;rw[hs];rfl);simp[p];exact o (j+1,_,_,⟨v8,v9,_,_,_,_,v21,v22,v23,v24,_,_⟩,R8,_,_,_,_,_) _ _ j4 ⟨u7,rfl,by rw[d]<;>rfl⟩
             |some nx=>
              have s:=a0g c (C4 b) hs;have u:=a8F s;have hm:=a3J s;have v:=b9N s;by_cases m:Live t nx
              case neg=>
               have d:gU (E3 t) t k (j+1)=gU (E3 t) t k j:=a9V b (by unfold E3;rw[hs];exact if_neg m);simp[b,p,u,hm,e,v,m];exact o (j+1,_,_,⟨v8,v9,_,_,_,_,v21,v22,v23,v24,_,_⟩,R8,_,_,_,_,_) _ _ j4 ⟨u7,rfl,by rw[d]<;>rfl⟩
              case pos=>
               have ab:E3 t (j8 t)[k] j=some (j,S7 t nx):=(by unfold E3;rw[hs];exact if_pos m);have d:=b2k (g:=E3 t) b j;rw[b4G,ab]at d;have f:=b3n (g:=E3 t) b j;have G:k<(gU (E3 t) t k j).length:=j4;by_cases n:gTo (E3 t) (j8 t)[k] j=[]
               . rw[n]at d f;have w:FG t (gU (E3 t) t k j)[k]=.nils:=(by rw[f];rfl);have y:(List.map (FG t) (gU (E3 t) t k j)).set k (.uslc [.agg [St (prt t j),CL (cls t j),IN (S7 t nx)]])=List.map (FG t) (gU (E3 t) t k (j+1)):=(by rw[d,L6];rfl);simp[b,D,p,u,hm,G,w,y,f,e,v,m,E,F];exact o (j+1,_,_,⟨v8,v9,_,_,_,_,v21,v22,v23,v24,_,_⟩,R8,_,_,_,_,_) _ _ j4 ⟨u7,rfl,rfl⟩
               . obtain⟨a,l,H⟩:=a9L n;rw[H]at d f;have w:FG t (gU (E3 t) t k j)[k]=.uslc (AG t a::l.map (AG t)):=(by rw[f];rfl);have y:(List.map (FG t) (gU (E3 t) t k j)).set k (.uslc (AG t a::(l.map (AG t)++[.agg [St (prt t j),CL (cls t j),IN (S7 t nx)]])))=List.map (FG t) (gU (E3 t) t k (j+1)):=(by rw[d,L6];simp);have hle:=b3J (g:=E3 t) (j8 t)[k] j;rw[H]at hle;have ac:(l.length+1+1)*48≤140737488355328:=(by grind);simp[b,D,p,u,hm,G,w,y,f,ac,e,v,m,E,F];exact o (j+1,_,_,⟨v8,v9,_,_,_,_,v21,v22,v23,v24,_,_⟩,R8,_,_,_,_,_) _ _ j4 ⟨u7,rfl,rfl⟩
           . obtain rfl:j=t.rules.length:=j4;simp;refine Z _ _ _ ?_;simp[V];exact T (k+1,_,_,⟨_,_,_,_,_,_,_,_,_,_,_,_⟩,_,_,_,_,_,_) _ _ j4 ⟨u7,rfl,by rw[←b7B]<;>rfl⟩
       . obtain rfl:k=(j8 t).length:=j4;have ad:(∀(x:List (Nat×Nat)),x∈gL (E3 t) t→D9 (FG t x)=true)=True:=eq_true fun x _=>b6W t x;have ae:List.map (B6∘FG t) (gL (E3 t) t)=(gL (E3 t) t).map (SG t):=O1 fun l _=>b8H t l;have af:(gL (E3 t) t).length=(j8 t).length:=(by simp[gL]);have ag:(S5 t).length=(j8 t).length:=(by simp[S5]);simp[b1n,b1D];refine U _ _ _ ?_;simp[b1n,b1D,ad,ae,af,ag,e];refine M _ _ ?_;simp[X49]
def a7n:u9:=
 ⟨30,[0,1,4,5,26],0,[(2,none)],sq [kj 2 0,kj 3 0,.block 0 (.loopS [0,1,3] 0 (sq [sq [.reg [oa 3,oa 0,E6 1,oby 0 2,om 3,oj 3 4,oj 1 4,oeg 6 4,⟨.bin .lss false (.l 5) (.l 7),none,some (.l 4,true),[]⟩,ot 4 8,om 9,oj 0 10,oj 3 10,oau 1 11 12 10,oe 1 13 10,oj 1 10,oj 3 10,oau 1 15 16 10,oe 1 17 10,obc 14 18 10,V1 4 10 19],B9 4 0],.block 1 (kh 3 0 1 3 1)])),kf 3 2 0,ko]⟩
def X89:u9:=
 ⟨38,[0,2,3,5,6,10,11,12,13,34],1,[(1,none)],sq [kj 1 0,.reg [odv 2],sq [.reg [oa 0,C7 0,ok 0 1,Z3 5 1 2,N4 6 3,ov 7 0],.block 0 (.loopS [0,2,5,6,7] 1 (sq [ki 8 7 6,B9 8 0,.block 1 (sq [.reg [N8 3 5 7,J7 3 0,oez 3 0 0 0,og 3 2 1],.reg [od 2 3,ob 1 0,oea 1 0,oq (.conv .i64 (.l 2)),oc 4 3],.reg [oa 4,oa 0,C7 1,ok 1 2,ob 1 3,oq (.bin .geq false (.l 0) (.l 4)),om 5,oj 2 6,obn 7 0 6,⟨.mv (.l 8),none,some (.l 6,true),[]⟩,N2 4 9,N2 2 9,odm 10 11 9,oew 9 12 6,V1 9 6 13],.cond (.v 9) (kf 4 2 0) kc]),ke 7 1 7 0]))],kf 2 1 0,ko]⟩
def X90:u9:=
 ⟨33,[0,1,4,5,7,11,12,13,14,21],3,[(2,none)],sq [ku 2,ku 3,.G4 3 none 2 3 (sq [sq [.reg [oa 0,C7 0,ok 0 1,Z3 5 1 2,N4 6 3,ov 7 0],.block 0 (.loopS [1,3,5,6,7] 3 (sq [ki 8 7 6,B9 8 0,.block 1 (sq [.reg [N8 3 5 7,J7 3 0,oez 4 0 0 0,og 3 2 1],.reg [od 2 4,ob 1 0,oea 1 0,oa 1,ow 9 (.bin .eql false (.l 2) (.l 3))],.cond (.v 9) (.reg [M9 3 1,od 0 4,J7 2 1,od 2 4,ob 1 3,oed 0 4 1,oq (.build [.int .i64 0,.int .i64 0,.str ⟨#[]⟩] [(0,2,.l 2),(2,1,.l 5)]),oq (.mkarr 1 3 [.agg [.int .i64 0,.int .i64 0,.str ⟨#[]⟩]] [(0,.l 6)]),J3 2 3 32 1 0 7,oc 3 8]) kc]),ke 7 1 7 0]))],kf 3 2 0,ko])]⟩
def a7e:u9:=
 ⟨9,[0,2],19,[(1,none)],sq [ku 1,.reg [oa 0,oa 0,E6 1,oa 0,E6 3,oq (.slice false 3 (.l 0) none (some (.l 2)) (some (.l 4))),oc 1 5],ko]⟩
def a2q:u9:=
 ⟨23,[0,1,2,3,7],8,[],sq [.reg [H4 3 5 0],.reg [G5 1 1,oo 2 3,oq (.lookup 14 false (.bool false) (.l 0) (.l 1)),obd 4 2],.cond (.v 4) (sq [.reg [G5 1 1,oo 2 3,oer 14 0 1],.G4 3 (some 0) 16002 0 (.reg [⟨.loadV false 1 (.v 2),none,none,[6,7]⟩,⟨.fieldAddr 0 (.v 3),none,none,[6,7]⟩,oey 1 1 6 7,odt 1 2 6,obh 0 3 6,Q7 1 4 6,obo 1 3 5 6,Q7 1 6 6,od 1 3,ob 1 8,ocm 6 1 0 0 9,J3 7 1 8 1 7 10,ol 1 0 2,og 1 12 11])]) kc]⟩
def X85:u9:=
 ⟨88,[0,1,4,5,6,7,8,9,10,12,14,15,28,34,35,36,41,42,43,44,53,54,55,56,74],5,[(2,none),(3,none)],sq [.reg [oax 2,ov 3 0],.reg [oa 1,E6 0,oaf 1 1,oq (.makeSlice 0 1 24 .nils (.l 2) (.l 2)),ow 4 (.alloc 1 [.nils]),og 1 4 3],.reg [ofb 2,ow 5 (.alloc 3 [.lit (.map none)]),og 1 1 0],.reg [oq (.mkfn (.func 116) [] [.v 5,.v 4]),oc 6 0],sq [.reg [oa 0,C7 0,ok 2 1,ob 1 2,oce 1 3 0,ob 1 4,obd 12 5],.cond (.v 12) (sq [.reg [G5 1 4,oc 2 0,odv 3],ko]) kc],.reg [oa 6,oq (.build [.int .i64 0,.int .i64 0] []),oq (.cally (.l 0) [.l 1])],kj 7 0,sq [.reg [G5 1 4,N4 13 0,ov 14 0],.block 0 (.loop (sq [ki 15 14 13,B9 15 0,.block 1 (sq [kf 14 8 0,.G4 8 none 16002 0 (.G4 8 none 16003 0 (.reg [G5 1 4,oa 8,ol 1 0 1,Z3 16 1 2,N4 17 3,ov 18 0])),.block 2 (.loop (sq [ki 19 18 17,B9 19 2,.block 3 (sq [.reg [N8 1 16 18,ob 1 0,oc 9 1],.reg [oa 0,C7 0,ok 0 1,ob 1 2,oa 9,ol 1 3 4,Z3 20 1 5,N4 21 6,ov 22 0],.block 4 (.loop (sq [ki 23 22 21,B9 23 4,.block 5 (sq [.reg [N8 3 20 22,J7 3 0,ofd 10 4 0,og 3 2 1],.reg [od 1 10,ob 1 0,oa 1,oa 8,oq (.slice false 1 (.l 2) (some (.l 3)) none none),oay 117 1 4 0 0,oc 11 5],.reg [oa 7,oa 8,oa 11,obq 1 2,oq (.minmax true [.l 0,.l 3]),oc 7 4],.reg [oa 11,od 1 10,ob 1 1,E6 2,ow 24 (.bin .eql false (.l 0) (.l 3))],.cond (.v 24) (.reg [oa 6,oa 8,oa 11,obq 1 2,od 2 10,ob 1 4,off 0 0 0 1 3 1 1 5,oq (.cally (.l 0) [.l 6])]) kc]),ke 22 1 22 0]))]),ke 18 1 18 0]))]),ke 14 1 14 0]))],.reg [G5 1 4,oa 7,oc 2 0,oc 3 1],ko]⟩
def X47:u9:=
 ⟨88,[0,1,2,4,5,6,7,8,9,11,12,14,33,39,40,41,42,63,71,73,79],7,[(3,none),(4,none)],sq [.reg [H4 2 0 0,odj 3,ov 4 0],.reg [oo 3 2,Y4 84 0 0 0,oa 1,ofb 1,oq (.build [.lit (.pointer none),.nils,.lit (.map none)] [(0,1,.l 1),(1,1,.l 2),(2,1,.l 3)]),oq (.box 2 (.l 4)),ow 5 (.alloc 3 [.lit (.pointer none)]),og 1 6 5],.reg [G5 1 5,C7 0,ok 0 1,ob 1 2,oa 1,odp 85 3 4 4 1 0 0,om 5,oy 6 0,oy 6 1,oc 6 7,oc 7 8],.G6 [(4,true)] (.G4 6 none 0 0 (sq [sq [.reg [oa 1,E6 0,oc 8 1],.block 0 (.loop (sq [sq [.reg [oa 8,ow 12 (.bin .geq false (.l 0) (oi 0))],B9 12 0],.block 1 (sq [.reg [oa 6,oa 8,ol 1 0 1,Z3 13 1 2,N4 14 3,ov 15 0],.block 2 (.loop (sq [ki 16 15 14,B9 16 2,.block 3 (sq [.reg [N8 1 13 15,ob 1 0,oc 9 1],.reg [oa 8,oa 9,off 0 0 0 1 0 1 1 1,odk 10 5 0 0,og 2 3 2],sq [.reg [oa 8,oa 1,E6 1,ocq 0 2,om 3,odi 1 5 4,obe 5 4,oaw 0 6 4,oe 1 7 4,obe 8 4,oaw 1 9 4,oe 1 10 4,oj 9 4,oau 1 11 12 4,oe 1 13 4,V1 17 4 14],.cond (.v 17) (.reg [G5 1 5,C7 0,ok 2 1,ob 1 2,oo 2 10,oer 14 3 4]) kc],.reg [G5 1 5,oo 2 10,odd 18 86 0 1],.block 4 (.rfor (.v 18) [none,some 19] (.reg [odk 11 6 0 0,oq (.store 2 (.l 0) (.v 19))]) (.block 5 (sq [.reg [G5 1 5,C7 0,ok 2 1,ob 1 2,oo 2 11,oes 20 14 3 4],.cond (.v 20) (sq [.reg [G5 1 5,C7 0,ok 2 1,ob 1 2,oo 2 10,oer 14 3 4],kn 4]) kc])))]),ke 15 1 15 0]))]),.reg [oa 8,obk 0 1,oc 8 1]]))],.reg [G5 1 5,oa 7,oc 3 0,oc 4 1],.G6 [(1,true)] (.G4 3 none 1 0 ko)]))]⟩
def a1L:u9:=
 ⟨21,[0,1,2,3,4,7,12],18,[],sq [.reg [H4 4 13 0],sq [.reg [G5 1 1,oo 3 4,oes 5 62 0 1],.cond (.v 5) ko kc],.reg [G5 1 1,oo 3 4,oer 62 0 1],.reg [od 2 4,ob 1 0,ow 6 (.bin .eql false (.l 1) (.c (.str ⟨#[]⟩)))],.cond (.v 6) (.reg [G5 1 2,oo 3 4,oq (.mkarr 14 3 [.agg [.int .i64 0,.int .i64 0,.str ⟨#[]⟩]] [(0,.l 1)]),J3 15 3 32 1 0 2,L0 1 2 3]) (.reg [G5 1 3,oo 3 4,oq (.mkarr 16 3 [.agg [.int .i64 0,.int .i64 0,.str ⟨#[]⟩]] [(0,.l 1)]),J3 17 3 32 1 0 2,L0 1 3 3])]⟩
def X86:u9:=
 ⟨6,[0,1,2,3,4],12,[(4,none)],sq [.reg [H4 2 10 0,H4 3 11 1,ow 4 (.mv (.c (.lit .nilFunc)))],.reg [oq (.mkfn (.func 118) [] [.v 2,.v 3]),oc 4 0],ko]⟩
def a4a:u9:=
 ⟨53,[0,1,2,5,16,17,18,19,51],13,[],sq [.reg [G5 1 1,C7 0,ok 0 1,ob 1 2,C7 3,ok 0 4,ob 1 5,od 1 2,ob 1 7,ol 1 6 8,Z3 4 1 9,N4 5 10,ov 6 0],.block 0 (.loop (sq [ki 7 6 5,B9 7 0,.block 1 (sq [.reg [N8 3 4 6,J7 3 0,ofd 3 12 0,og 3 2 1],.reg [od 1 3,ob 1 0,G5 1 1,C7 2,ok 1 3,ob 1 4,od 0 2,ob 1 6,oq (.slice false 1 (.l 5) (some (.l 7)) none none),oay 117 1 8 0 0,od 1 3,ob 1 10,E6 11,ocq 9 12,om 13,oj 0 14,ou 0 3 14,oe 1 16 14,ou 0 2 14,oe 1 18 14,ou 1 3 14,oe 1 20 14,oeg 21 14,⟨.bin .add false (.l 19) (.l 22),none,some (.l 14,true),[]⟩,ou 2 3 14,oe 1 24 14,⟨.build [.int .i64 0,.int .i64 0] [(0,1,.l 23),(1,1,.l 25)],none,some (.l 14,true),[]⟩,⟨.cally (.l 15) [.l 17,.l 26],none,some (.l 14,true),[]⟩,oct 27 14,V1 8 14 28],.cond (.v 8) ko kc]),ke 6 1 6 0]))]⟩
theorem c117:D3 117 a7n:=D7
theorem c89:D3 89 X89:=D7
theorem c90:D3 90 X90:=D7
theorem c120:L9 Tryz.prog 120 19=some {a7e with body:=strip a7e.body}:=by kernel_rfl
theorem b5h:L9 Tryz.prog 116 5=some {a2q with body:=strip a2q.body}:=by kernel_rfl
theorem c85:D3 85 X85:=D7
theorem c47:D3 47 X47:=D7
theorem b4q:L9 Tryz.prog 119 13=some {a1L with body:=strip a1L.body}:=by kernel_rfl
theorem c86:L9 Tryz.prog 86 10=some {X86 with body:=strip X86.body}:=by kernel_rfl
theorem b3W:L9 Tryz.prog 118 12=some {a4a with body:=I0 a4a.body}:=by kernel_rfl
def V2:List Nat→List Nat→Nat
 |a::r,b::q=>if a=b then V2 r q+1 else 0
 |_,_=>0
theorem b4z:∀(a b:List Nat),V2 a b≤a.length∧V2 a b≤b.length
 | [],b=>by simp[V2]
 |a::r,[]=>by simp[V2]
 |a::r,b::q=>by
  have:=b4z r q;unfold V2;split
  . simp;omega
  . simp
theorem a8y:∀(a b:List Nat),V2 a b=a.length↔a<+:b
 | [],b=>by simp[V2]
 |a::r,[]=>by simp[V2]
 |a::r,b::q=>by
  have:=a8y r q;unfold V2;by_cases h:a=b
  . grind
  . grind
theorem c9p(a b:List Nat)(k:Nat):k≤V2 a b→(k<a.length→k<b.length→a[k]?=b[k]?→k<V2 a b)∧(k<V2 a b→k<a.length∧k<b.length∧a[k]?=b[k]?):=by
 induction a generalizing b k with
 |nil=>intro h;simp[V2]at h⊢
 |cons x a c=>
  cases b with
  |nil=>intro h;simp[V2]at h⊢
  |cons y b=>
   intro h;unfold V2 at h⊢;by_cases d:x=y
   . grind
   . grind
theorem b1L(a b:List Nat)(l:a.length≤1100000000):F0 117 [0] [CL a,CL b] (IN (V2 a b)):=by
 refine E1 c117 0 (by simp[a7n]) fun Q e m=>?_;simp[a7n];refine I6 (fun(k:Nat) vs h=>k≤V2 a b∧vs=[CL a,CL b,.uu,IN k,.uu]∧h=[]) (fun k=>V2 a b-k) 0 ?_ ?_
 . simp
 . rintro k vs h ⟨g1,rfl,rfl⟩ Q' j f n;obtain⟨s1,s2⟩:=c9p a b k g1;have hle:=b4z a b;have hw:=wk1 k j4;have g:¬k<V2 a b→V2 a b=k:=fun h=>(by omega);by_cases h1:k<a.length
   . by_cases c:k<b.length
     . by_cases i:a[k]=b[k]
       . have o:=s1 h1 c (by grind);simp[h1,c,i,hw];refine j (k+1) _ _ j4 ?_;simp;omega
       . have d:¬k<V2 a b:=fun h=>by
          have:=(s2 h).2.2;rw[l9 h1,l9 c]at this;exact i (U4 this)
         simp[h1,c,i];refine f _ _ _ ?_;simp;refine e _ _ ?_;simp[a7n,g d]
     . have d:¬k<V2 a b:=fun h=>c (s2 h).2.1;simp[h1,c];refine f _ _ _ ?_;simp;refine e _ _ ?_;simp[a7n,g d]
   . have d:¬k<V2 a b:=fun h=>h1 (s2 h).1;simp[h1];refine f _ _ _ ?_;simp;refine e _ _ ?_;simp[a7n,g d]
theorem c2U{t:k7}(a:s7 t)(h:¬Live t start):(L8 t)[0]?=some false:=by simp only[L8,H6,a2t a,a2Y,h,decide_false]
theorem c7S{t:k7}(a:s7 t)(h:Live t start):(L8 t)[0]?=some true:=by simp only[L8,H6,a2t a,a2Y,h,decide_true]
structure A8 where
 (p x:Nat)
 deriving DecidableEq
noncomputable abbrev G8(t:k7)(x:Nat):List (Nat×Nat):=(gL (E3 t) t).getD x []
theorem a6s{t:k7}{x:Nat}(c:x<(j8 t).length){a:Nat×Nat}(h:a∈G8 t x):∃s',step t ((j8 t).getD x D5) a.1=some s'∧Live t s'∧a.2=S7 t s'∧a.1<t.rules.length:=by
 have e:(j8 t).getD x D5=(j8 t)[x]:=by grind
 have d:G8 t x=gTo (E3 t) (j8 t)[x] t.rules.length:=by simp[G8,gL,c]
 rw[d]at h;unfold gTo at h;obtain⟨k,_,hs⟩:=a9J.1 h;unfold E3 at hs;obtain⟨s',h1,b⟩:=X1.1 hs;split at b
 . grind
 . cases b
theorem b0J{t:k7}{x:Nat}(a:x<(j8 t).length){k:Nat}{s':State}(h:step t ((j8 t).getD x D5) k=some s')(b:Live t s'):(k,S7 t s')∈G8 t x:=by
 have c:=a2B h;have e:(j8 t).getD x D5=(j8 t)[x]:=by grind
 rw[e]at h;have d:G8 t x=gTo (E3 t) (j8 t)[x] t.rules.length:=by simp[G8,gL,a]
 rw[d];unfold gTo;exact a9J.2 ⟨k,a2p.2 c,by unfold E3;rw[h];exact if_pos b⟩
theorem a4B{t:k7}(b:s7 t){x:Nat}(c:x<(j8 t).length){a:Nat×Nat}(h:a∈G8 t x):a.1<t.rules.length∧a.2<(j8 t).length∧1≤A0 t a.1∧A0 t a.1≤4:=by obtain⟨s',h1,_,d,e⟩:=a6s c h;exact⟨e,by rw[d];exact a3J (a0g b (a2k c) h1),a7x b h1,b6t b h1⟩
theorem a6p{t:k7}(a:s7 t)(x:Nat):(G8 t x).length≤64:=by
 by_cases b:x<(j8 t).length
 . have c:G8 t x=gTo (E3 t) (j8 t)[x] t.rules.length:=(by simp[G8,gL,b]);rw[c];have:=b3J (g:=E3 t) (j8 t)[x] t.rules.length;have:=a.l64;omega
 . have:G8 t x=[]:=by
    unfold G8;rw[B0,a0i (by simp[gL];omega)];rfl
   rw[this];simp
def fits(t:k7)(l:List Nat)(i k:Nat):Prop:=cls t k<+:l.drop i
instance(t:k7)(l:List Nat)(i k:Nat):Decidable (fits t l i k):=inferInstanceAs (Decidable (_<+:_))
theorem b0b{t:k7}{l:List Nat}{i k:Nat}(h:fits t l i k):l.drop i=cls t k++l.drop (i+A0 t k):=by
 obtain⟨r,hr⟩:=h;have:l.drop (i+A0 t k)=r:=by rw[←a2V,←hr];exact List.drop_left
 rw[this,hr]
theorem a5I{t:k7}{l:List Nat}{i k:Nat}(h:fits t l i k):A0 t k≤l.length-i:=by have:=h.length_le;rw[a4O]at this;exact this
theorem b4W{t:k7}{l r:List Nat}{i k:Nat}(h:l.drop i=cls t k++r):fits t l i k∧l.drop (i+A0 t k)=r:=by refine⟨⟨r,h.symm⟩,?_⟩;rw[←a2V,h];exact List.drop_left
def Reach(t:k7)(l:List Nat)(i x:Nat):Prop:=x<(j8 t).length∧i≤l.length∧∃q,E5 t start q=some ((j8 t).getD x D5)∧C5 t q=l.take i
theorem Reach.step{t:k7}(g:s7 t){l:List Nat}{i x:Nat}(h:Reach t l i x){a:Nat×Nat}(j:a∈G8 t x)(b:fits t l i a.1):Reach t l (i+A0 t a.1) a.2:=by
 obtain⟨h1,n,q,k,m⟩:=h;obtain⟨s',c,o,d,p⟩:=a6s h1 j;have f:=a0g g (a2k h1) c;have hle:=a5I b;refine⟨by rw[d];exact a3J f,j4,q++[a.1],?_,?_⟩
 . rw[a5N,k];show(T.step t _ a.1).bind _=_;rw[c,d,a2z f];rfl
 . rw[b0n,m];have hd:=b0b b;have e:C5 t [a.1]=cls t a.1:=(by simp[C5,cls]);rw[e,List.take_add,hd];rw[show A0 t a.1=(cls t a.1).length from rfl,List.take_left]
theorem Reach.root{t:k7}(a:s7 t)(l:List Nat):Reach t l 0 0:=⟨a2J a,E0 _,[],by have h:=a2t a;show some start=_;rw[B0,h];rfl,by simp[C5]⟩
def CW(t:k7)(l:List Nat)(i x m:Nat)(c:List (List Nat)):Prop:=∀a∈(G8 t x).take m,fits t l i a.1→a.2∈c.getD (i+A0 t a.1) []
structure WI(t:k7)(l:List Nat)(p:Nat)(c:List (List Nat))(kn:List A8):Prop where
 len:c.length=l.length+1
 kno:∀i x,A8.mk i x∈kn↔x∈c.getD i []
 nodup:∀i,(c.getD i []).Nodup
 sound:∀i x,x∈c.getD i []→Reach t l i x
 root:0∈c.getD 0 []
 done:∀i,i<p→∀x∈c.getD i [],CW t l i x (G8 t x).length c
theorem CW.mono{t:k7}{l:List Nat}{i x m:Nat}{c c':List (List Nat)}(h:∀j y,y∈c.getD j []→y∈c'.getD j [])(b:CW t l i x m c):CW t l i x m c':=fun a d e=>h _ _ (b a d e)
theorem CW.succ{t:k7}{l:List Nat}{i x k:Nat}{c:List (List Nat)}{A:List (Nat×Nat)}(d:G8 t x=A)(e:k<A.length)(h:CW t l i x k c)(g:fits t l i A[k].1→A[k].2∈c.getD (i+A0 t A[k].1) []):CW t l i x (k+1) c:=by
 subst d;intro a b f;rw[J5,l9 e]at b;rcases I5.1 b with b|b
 . exact h a b f
 . grind
theorem WI.start{t:k7}(b:s7 t)(l:List Nat):WI t l 0 ((List.replicate (l.length+1) []).set 0 [0]) [⟨0,0⟩]:=by
 have e:∀i,((List.replicate (l.length+1) ([]:List Nat)).set 0 [0]).getD i []=if i=0 then [0]else []:=fun i=>by
  rw[T7];by_cases h:i=0
  . rw[if_pos h,if_pos ⟨h,k8⟩]
  . grind
 refine⟨k8,fun i x=>?_,fun i=>?_,fun i x a=>?_,by rw[e];simp,fun i hi=>j4⟩
 . grind
 . rw[e];split<;>simp
 . rw[e]at a;split at a
   . rename_i h;simp at a;subst h;subst a;exact Reach.root b l
   . simp at a
theorem WI.add{t:k7}{l:List Nat}{p i x:Nat}{c:List (List Nat)}{kn:List A8}(h:WI t l p c kn)(f:A8.mk i x∉kn)(hr:Reach t l i x)(hp:p≤i):WI t l p (c.set i (c.getD i []++[x])) (kn++[⟨i,x⟩]):=by
 have m:i<c.length:=by have:=h.len;have:=hr.2.1;omega
 have hm:∀j y,y∈c.getD j []→y∈(c.set i (c.getD i []++[x])).getD j []:=b3l c i x;refine⟨by simp[h.len],fun j y=>?_,fun j=>?_,fun j y d=>?_,hm 0 0 h.root,fun j hj y d=>?_⟩
 . rw[I5,H5,h.kno,T7]
   grind
 . rw[T7];split
   . rw[a6d];refine⟨h.nodup i,k8,fun a g b hb=>?_⟩;rw[H5]at hb;intro e;subst e;subst hb;exact f ((h.kno i a).2 g)
   . exact h.nodup j
 . rw[T7]at d;split at d
   . rename_i k;rcases I5.1 d with d|d
     . rw[k.1];exact h.sound i y d
     . grind
   . exact h.sound j y d
 . rw[T7,if_neg j4]at d;exact(h.done j hj y d).mono hm
theorem WI.next{t:k7}{l:List Nat}{p:Nat}{c:List (List Nat)}{kn:List A8}(h:WI t l p c kn)(b:∀x∈c.getD p [],CW t l p x (G8 t x).length c):WI t l (p+1) c kn:=
 ⟨h.len,h.kno,h.nodup,h.sound,h.root,fun i hi x a=>by
  by_cases d:i=p
  . subst d;exact b x a
  . exact h.done i j4 x a⟩
structure WE(t:k7)(l:List Nat)(c:List (List Nat)):Prop where
 len:c.length=l.length+1
 nodup:∀i,(c.getD i []).Nodup
 sound:∀i x,x∈c.getD i []→Reach t l i x
 root:Live t start→0∈c.getD 0 []
 done:∀i x,i≤l.length→x∈c.getD i []→∀a∈G8 t x,fits t l i a.1→a.2∈c.getD (i+A0 t a.1) []
theorem WI.fin{t:k7}{l:List Nat}{c:List (List Nat)}{kn:List A8}(h:WI t l (l.length+1) c kn):WE t l c:=
 ⟨h.len,h.nodup,h.sound,fun _=>h.root,fun i x hi b a d e=>by have:=h.done i j4 x b;unfold CW at this;rw[K8]at this;exact this a d e⟩
theorem WE.dead{t:k7}{l:List Nat}(h:¬Live t start):WE t l (List.replicate (l.length+1) []):=by
 have e:∀i,(List.replicate (l.length+1) ([]:List Nat)).getD i []=[]:=fun i=>by rw[B0,List.getElem?_replicate];split<;>simp
 exact⟨k8,fun i=>by rw[e];simp,fun i x a=>by rw[e]at a;simp at a,fun h'=>absurd h' h,fun i x _ a=>by rw[e]at a;simp at a⟩
theorem a7B{α:Type} [DecidableEq α]{f:α→PV}(c:∀a b,a1g (f a) (f b)=some (decide (a=b)))(s:α):∀(L:List α) (i:Nat),a0q (f s) (L.map f) i=some ((L.idxOf? s).map (· +i))
 | [],i=>rfl
 |a::L,i=>by
  simp only[a0s,a0q];rw[c,a7B c s L (i+1)];by_cases h:a=s
  . grind
  . have h':¬s=a:=fun e=>h e.symm;simp[h',List.idxOf?,List.findIdx?_cons,h];cases List.findIdx? (fun x=>x==s) L<;>simp;omega
abbrev SQ(s:A8):PV:=.agg [IN s.p,IN s.x]
theorem c8y(a b:A8):a1g (SQ a) (SQ b)=some (decide (a=b)):=by cases a;cases b;simp[a1g,V7,a1d]
@[simp] theorem d2R(a b:Nat)(L:List A8):a0q (.agg [.int .i64 a,.int .i64 b]) (L.map SQ) 0=some (L.idxOf? ⟨a,b⟩):=by have:=a7B c8y ⟨a,b⟩ L 0;simpa using this
abbrev TR(p:A8):PV:=B true
theorem c6I(cs:List PV)(kn:List A8)(p x:Nat)(r4 r5 r6 a b:Row)(ver n:Nat)(c:kn.idxOf? ⟨p,x⟩=some n)(d:n<kn.length):
 FI Tryz.prog (.fn (.func 116) [] [.ptr 3 1 0,.ptr 1 1 0]) [.agg [IN p,IN x]] [(1,.arr 1 ver false cs),(1,.var [.own 0 1 cs.length 1 0 cs.length]),(1,.mp false (kn.map SQ) (kn.map TR)),(1,.var [.mapv 2 1]),r4,r5,r6,a,b] (.tup []) [(5,(r5.1+1,.var [IN p,IN x]))]:=by
 refine a3q mixed (X:=a2q) b5h (by rfl) (by simp[a2q]) k8 fun Q f e=>?_;simp[a2q,c,d];refine e _ _ ?_;simp[L3,a2q]
theorem b7V(cs:List PV)(kn:List A8)(p x:Nat)(l:List Nat)(r4 r5:Row)(ver g6 g7 g8:Nat)(e:kn.idxOf? ⟨p,x⟩=none)(hp:p<cs.length)(o:cs.length≤1100000001)(q:cs[p]?=some (FW l))(i:l.length≤1000000):
 ∃r ws,(∃j R5 g6 g7 g8,r=.tup []∧ws=[(0,(1,.arr 1 j false (cs.set p (FW (l++[x]))))),(2,(1,.mp false ((kn++[A8.mk p x]).map SQ) ((kn++[A8.mk p x]).map TR))),(5,R5),(6,(g6,.dead)),(7,(g7,.dead)),(8,(g8,.dead))])∧
 FI Tryz.prog (.fn (.func 116) [] [.ptr 3 1 0,.ptr 1 1 0]) [.agg [IN p,IN x]] [(1,.arr 1 ver false cs),(1,.var [.own 0 1 cs.length 1 0 cs.length]),(1,.mp false (kn.map SQ) (kn.map TR)),(1,.var [.mapv 2 1]),r4,r5,(g6,.dead),(g7,.dead),(g8,.dead)] r ws:=by
 have f:cs[p]=FW l:=by grind
 obtain⟨b,k⟩:=s8 (kn++[A8.mk p x]);rw[←k];have g:kn.map SQ++[.agg [IN p,IN x]]=b.map SQ:=by grind
 have h:kn.map TR++[B true]=b.map TR:=by grind
 cases l with
 |nil=>
  have c:cs[p]=.nils:=f;refine a3P mixed (X:=a2q) b5h (by rfl) (by simp[a2q]) k8 (by kernel_rfl) fun Q m d=>?_;simp[a2q,e,hp,c,g,h];refine d _ [(0,(1,.arr 1 (ver+1) false (cs.set p (FW ([]++[x]))))),(2,(1,.mp false (b.map SQ) (b.map TR))),(5,(r5.1+1,.var [IN p,IN x])),(6,(g6+1,.dead)),(7,(g7+1,.dead)),(8,(g8,.dead))] _ _ ⟨ver+1,_,g6+1,g7+1,g8,rfl,rfl⟩ ?_;simp[L3,a2q]
 |cons a l=>
  have c:cs[p]=.uslc (IN a::l.map IN):=f;have n:(l.length+1+1)*8≤140737488355328:=by simp at i;omega
  refine a3P mixed (X:=a2q) b5h (by rfl) (by simp[a2q]) k8 (by kernel_rfl) fun Q m d=>?_;simp[a2q,e,hp,c,g,h,n];refine d _ [(0,(1,.arr 1 (ver+2+1) false (cs.set p (FW (a::l++[x]))))),(2,(1,.mp false (b.map SQ) (b.map TR))),(5,(r5.1+1,.var [IN p,IN x])),(6,(g6+1,.dead)),(7,(g7,.dead)),(8,(g8+1,.dead))] _ _ ⟨ver+2+1,_,g6+1,g7,g8+1,rfl,rfl⟩ ?_;simp[L3,a2q]
section
variable{p i:Nat}{c:List (List Nat)}
def RS(p:Nat)(c:List (List Nat)):List PV:=(List.range c.length).map fun i=>if i<p then DS (c.getD i [])else FW (c.getD i [])
theorem a5L(p:Nat)(c:List (List Nat)):(RS p c).length=c.length:=by simp[RS]
theorem b2L(hi:i<c.length):(RS p c)[i]?=some (if i<p then DS (c.getD i [])else FW (c.getD i [])):=by simp[RS,hi]
theorem b6w(p:Nat)(c:List (List Nat)):∀x,x∈RS p c→D9 x=true:=fun x a=>by
 obtain⟨i,_,rfl⟩:=G7.1 a;by_cases h:i<p
 . rw[if_pos h];unfold DS;split<;>rfl
 . rw[if_neg h];unfold FW;split<;>rfl
theorem b9z(l:List Nat)(hp:p≤i):(RS p c).set i (FW l)=RS p (c.set i l):=by
 apply a0z (by simp[RS]);intro j h1 a;have hj:j<c.length:=by simpa[RS]using h1
 have e:=T7 c i j l [];rw[a4k];simp only[RS,a0V,a4I]
 grind
theorem c7s:(RS p c).set p (DS (c.getD p []))=RS (p+1) c:=by
 apply a0z (by simp[RS]);intro j h1 a;have hj:j<c.length:=by simpa[RS]using h1
 rw[a4k];simp only[RS,a0V,a4I]
 grind
theorem c5Y(n:Nat):RS 0 (List.replicate n [])=List.replicate n .nils:=by
 refine a7X.2 ⟨by simp[RS],fun b hb=>?_⟩;obtain⟨i,hi,rfl⟩:=G7.1 hb
 grind
theorem c9e(p n:Nat):RS p (List.replicate n [])=List.replicate n .nils:=by
 refine a7X.2 ⟨by simp[RS],fun b hb=>?_⟩;obtain⟨i,hi,rfl⟩:=G7.1 hb
 grind
abbrev HW(p:Nat)(c:List (List Nat))(kn:List A8)(ver:Nat)(R4 R5:Row)(g6 g7 g8:Nat):Heap:=
 [(1,.arr 1 ver false (RS p c)),(1,.var [.own 0 1 c.length 1 0 c.length]),(1,.mp false (kn.map SQ) (kn.map TR)),(1,.var [.mapv 2 1]),R4,R5,(g6,.dead),(g7,.dead),(g8,.dead)]
theorem c9n{t:k7}{l:List Nat}{sp x:Nat}{kn:List A8}(ver:Nat)(R4 R5:Row)(g6 g7 g8:Nat)(h:WI t l p c kn)(z:l.length≤1100000000)(A:(j8 t).length≤3072)(hr:Reach t l i x)(hp:p≤i)(o:sp≤i):
 ∃c' k ver' R5' d e f ws,WI t l p c' k∧(∀j,∃l,c'.getD j []=c.getD j []++l)∧(∀j,j<i→c'.getD j []=c.getD j [])∧x∈c'.getD i []∧
  FI Tryz.prog (.fn (.func 116) [] [.ptr 3 1 0,.ptr 1 1 0]) [.agg [IN i,IN x]] (HW sp c kn ver R4 R5 g6 g7 g8) (.tup []) ws∧p8 (HW sp c kn ver R4 R5 g6 g7 g8) ws=HW sp c' k ver' R4 R5' d e f:=by
 have m:i<c.length:=by have:=h.len;have:=hr.2.1;omega
 by_cases b:A8.mk i x∈kn
 . obtain⟨n,g⟩:∃n,kn.idxOf? (A8.mk i x)=some n:=by
    cases q:kn.idxOf? (A8.mk i x)with
    |none=>exact absurd b (a3a.1 q)
    |some n=>exact⟨n,rfl⟩
   have s:n<kn.length:=by rw[List.idxOf?,a1W]at g;exact g.1
   have a:=c6I (RS sp c) kn i x R4 R5 (g6,.dead) (g7,.dead) (g8,.dead) ver n g s;rw[a5L]at a;exact⟨c,kn,ver,_,g6,g7,g8,_,h,fun j=>⟨[],k8⟩,fun _ _=>rfl,(h.kno i x).1 b,a,rfl⟩
 . have hlen:(c.getD i []).length≤(j8 t).length:=a3A _ _ (h.nodup i) fun y u=>(h.sound i y u).1;obtain⟨r,ws,⟨v,R5',d,e,f,rfl,rfl⟩,a⟩:=b7V (RS sp c) kn i x (c.getD i []) R4 R5 ver g6 g7 g8 (a3a.2 b) (by rw[a5L];exact m) (by rw[a5L,h.len];omega) (by rw[b2L m,if_neg j4]) j4;rw[a5L,b9z _ o]at a;refine⟨c.set i (c.getD i []++[x]),kn++[⟨i,x⟩],v,R5',d,e,f,_,h.add b hr hp,fun j=>?_,fun j hj=>?_,?_,a,?_⟩
   . rw[T7];split
     . rename_i w;exact⟨[x],by rw[w.1]⟩
     . exact⟨[],k8⟩
   . rw[T7,if_neg j4]
   . grind
   . simp[p8]
structure WVu where
 (w8 w9 w10 w11 w15 w16 w17 w18 w19 w20 w21 w22 w23 w24:PV)
noncomputable abbrev GR(t:k7):PV:=.fptr [.slc ((gL (E3 t) t).map (SG t)),.slc ((S5 t).map B),.slc ((L8 t).map B)]
noncomputable abbrev VW(t:k7)(l:List Nat)(a p:Nat)(x:WVu):List PV:=[GR t,CL l,.nils,I 0,.ptr 1 1 0,.ptr 3 1 0,.fn (.func 116) [] [.ptr 3 1 0,.ptr 1 1 0],IN a,x.w8,x.w9,x.w10,x.w11,B false,IN (l.length+1),IN p,x.w15,x.w16,x.w17,x.w18,x.w19,x.w20,x.w21,x.w22,x.w23,x.w24]
def d1W(t:k7)(l:List Nat)(r:PV):Prop:=∃(c:List (List Nat)) (most:Int),r=.tup [.uslc (RS (l.length+1) c),I most]∧WE t l c∧ -1≤most∧most≤l.length
theorem d1u(t:k7)(f:s7 t)(l:List Nat)(aD:l.length≤1100000000):∃r,d1W t l r∧F0 85 [1,0] [GR t,CL l] r:=by
 have Z:=a1F f;have aE:=a2J f;have aa:=b0x t;have ab:0<(j8 t).length:=aE;have ac:0≤(l.length:Int)+1:=j4;have ad:((l.length:Int)+1)*24≤140737488355328:=j4;have ae:(l.length:Int)+1≤9223372036854775807:=j4;have af:((l.length:Int)+1).toNat=l.length+1:=j4;have ag:IntKind.i64.wrap ((l.length:Int)+1)=(l.length:Int)+1:=T3;refine a3u mixed (X:=X85) c85 9 (by simp[X85]) (by kernel_rfl) fun Q ah be=>?_;by_cases K:Live t start
 case neg=>
  have e:(L8 t)[0]'j4=false:=by
   have h1:=c2U f K
   grind
  have aF:WE t l (List.replicate (l.length+1) []):=WE.dead K;have aG:=c9e (l.length+1) (l.length+1);simp[X85,ag,ac,ad,ae,af,aa,ab,e];refine ah _ _ _ ⟨_,-1,rfl,aF,j4,j4⟩ ?_;simp[X85,aG]
 case pos=>
  have e:(L8 t)[0]'j4=true:=by
   have h1:=c7S f K
   grind
  simp[X85,ag,ac,ad,ae,af,aa,ab,e];have q:=b7V (List.replicate (l.length+1) .nils) [] 0 0 [] dd dd 0 0 0 0 rfl k8 F6 k8 k8;obtain⟨r,ws,⟨ai,R50,aj,ak,al,rfl,rfl⟩,q⟩:=q;have aH:(List.replicate (l.length+1) PV.nils).set 0 (FW ([]++[0]))=RS 0 ((List.replicate (l.length+1) []).set 0 [0]):=by rw[←b9z _ (p7 0),c5Y];rfl
  rw[aH,b2f]at q;have s:=WI.start f l;obtain⟨c0,aI⟩:∃c,c=(List.replicate (l.length+1) []).set 0 [0]:=⟨_,rfl⟩
  rw[←aI]at q s;refine a5y (h1:=HW 0 c0 [⟨0,0⟩] ai dd R50 aj ak al) q (by simp[p8,HW,s.len]) rfl ?_;simp[HW,s.len];refine F5 (fun(y:Nat×List (List Nat)×List A8×Nat×Nat×Row×Row×Nat×Nat×Nat×WVu) vs h=>y.1≤l.length+1∧WI t l y.1 y.2.1 y.2.2.1∧y.2.2.2.1≤l.length∧vs=VW t l y.2.2.2.1 y.1 y.2.2.2.2.2.2.2.2.2.2∧h=HW y.1 y.2.1 y.2.2.1 y.2.2.2.2.1 y.2.2.2.2.2.1 y.2.2.2.2.2.2.1 y.2.2.2.2.2.2.2.1 y.2.2.2.2.2.2.2.2.1 y.2.2.2.2.2.2.2.2.2.1) (fun y=>l.length+1-y.1)
   (0,c0,[⟨0,0⟩],0,ai,dd,R50,aj,ak,al,⟨.uu,.uu,.uu,.uu,.uu,.uu,.uu,.uu,.uu,.uu,.uu,.uu,.uu,.uu⟩) ⟨E0 _,s,E0 _,rfl,by simp[HW,s.len]⟩ ?_
  rintro⟨p,c,kn,g,ver,R4,R5,g6,g7,g8,⟨v8,v9,v10,v11,v15,v16,v17,v18,v19,v20,v21,v22,v23,v24⟩⟩ vs h ⟨aJ,b,M,rfl,rfl⟩ Q2 am aK aL;dsimp only at aJ b M;by_cases hp:p<l.length+1
  . have an:(p:Int)<(l.length:Int)+1:=j4;have ao:=wk1 p j4;have aM:p<c.length:=(by have:=b.len;omega);have N:(RS p c).length=l.length+1:=(by rw[a5L,b.len]);have u:=b2L (p:=p) aM;rw[if_neg (Nat.lt_irrefl p)]at u;have D:=c7s (p:=p) (c:=c);obtain⟨L,v⟩:=s8 (c.getD p []);rw[←v]at u D;have aN:L.Nodup:=v▸b.nodup p;have ap:∀x∈L,Reach t l p x:=fun x d=>b.sound p x (v▸d);have bf:L.length≤3072:=U3 (a3A _ _ aN fun y aO=>(ap y aO).1) Z;by_cases o:L=[]
    . have O:(RS p c)[p]'j4=.nils:=by
       rw[l9 j4,o]at u;exact U4 u
      have aP:RS p c=RS (p+1) c:=by
       rw[←D,o];apply a4g;intro j;rw[a7Y];by_cases hj:p=j
       . grind
       . rw[if_neg hj]
      simp[HW,VW,hp,b.len,an,N,O];refine F5 (fun(y:WVu) vs h=>vs=VW t l g p {y with w8:=IN p,w15:=B true,w16:=.nils,w17:=IN 0,w18:=IN 0}∧h=HW p c kn ver R4 R5 g6 g7 g8) (fun _=>0) ⟨.uu,_,_,_,.uu,.uu,.uu,.uu,_,_,_,_,_,_⟩ ⟨rfl,by dsimp only[HW];rw[b.len]⟩ ?_;rintro⟨v8,v9,v10,v11,v15,v16,v17,v18,v19,v20,v21,v22,v23,v24⟩ vs h ⟨rfl,rfl⟩ Q3 aq P aQ;simp[VW,HW];refine P _ _ _ ?_;simp[ao];exact am (p+1,c,kn,g,ver,_,_,_,_,_,⟨_,_,_,_,_,_,_,_,_,_,_,_,_,_⟩) _ _ j4 ⟨u7,b.next (fun x d=>by rw[←v,o]at d;simp at d),M,rfl,by dsimp only[HW];rw[aP]⟩
    . have aR:FW L=.uslc (L.map IN):=if_neg o;have ar:DS L=.slc (L.map IN):=if_neg o;rw[aR]at u;rw[ar]at D;have aS:0<L.length:=a2E.2 o;obtain⟨a0,aT⟩:∃a0,L.head?=some a0:=by
       cases L with
       |nil=>exact absurd rfl o
       |cons a L=>exact⟨a,rfl⟩
      have O:(RS p c)[p]'j4=.uslc (L.map IN):=(by grind);have aL:∀X:PV,((RS p c).set p X).length=l.length+1:=fun X=>(by rw[a4J,N]);have bg:∀c':List (List Nat),c'.length=l.length+1→c'.getD p []=L→(RS (p+1) c')[p]?=some (.slc (L.map IN)):=fun c' h1 R=>by rw[b2L j4,if_pos (Nat.lt_succ_self p),R,ar]
      have aU:(RS (p+1) c)[p]'(by rw[a5L,b.len];exact hp)=.slc (L.map IN):=(by grind);have aV:(RS (p+1) c).length=l.length+1:=(by grind);simp[HW,VW,hp,b.len,an,N,O,D,aS,aT,aU,aV];refine F5 (fun(y:Nat×List (List Nat)×List A8×Nat×Nat×Row×Row×Nat×Nat×Nat×WVu) vs h=>y.1≤L.length∧WI t l p y.2.1 y.2.2.1∧y.2.2.2.1≤l.length∧y.2.1.getD p []=L∧(∀i z,i<y.1→L[i]?=some z→CW t l p z (G8 t z).length y.2.1)∧vs=VW t l y.2.2.2.1 p {y.2.2.2.2.2.2.2.2.2.2 with w8:=IN p,w15:=B true,w16:=.slc (L.map IN),w17:=IN L.length,w18:=IN y.1}∧h=HW (p+1) y.2.1 y.2.2.1 y.2.2.2.2.1 y.2.2.2.2.2.1 y.2.2.2.2.2.2.1 y.2.2.2.2.2.2.2.1 y.2.2.2.2.2.2.2.2.1 y.2.2.2.2.2.2.2.2.2.1) (fun y=>L.length-y.1)
       (0,c,kn,g,_,_,_,_,_,_,⟨.uu,_,_,_,.uu,.uu,.uu,.uu,_,_,_,_,_,_⟩) ⟨E0 _,b,M,v.symm,fun i z hi=>absurd hi (a7Z i),rfl,by dsimp only[HW];rw[b.len]⟩ ?_
      rintro⟨j,c,kn,g,ver,R4,R5,g6,g7,g8,⟨v8,v9,v10,v11,v15,v16,v17,v18,v19,v20,v21,v22,v23,v24⟩⟩ vs h ⟨aW,z2,z3,z4,z5,rfl,rfl⟩ Q3 aq P aQ;dsimp only at aW z2 z3 z4 z5;by_cases hj:j<L.length
      . have aX:=wk1 j j4;have S:=ap _ (C4 hj);obtain⟨x,au⟩:=s8 (L[j]);rw[←au]at S;have d:=S.1;have aY:(gL (E3 t) t).length=(j8 t).length:=(by simp[gL]);obtain⟨A,e⟩:=s8 (G8 t x);have aZ:(gL (E3 t) t)[x]'j4=A:=(by grind);have bh:A.length≤64:=e▸a6p f x;have a1:∀a∈A,a.1<t.rules.length∧a.2<(j8 t).length∧1≤A0 t a.1∧A0 t a.1≤4:=fun a T=>a4B f d (e▸T);simp[HW,VW,hj,←au,aY,d,aZ];refine F5 (fun(y:Nat×List (List Nat)×List A8×Nat×Nat×Row×Row×Nat×Nat×Nat×WVu) vs h=>y.1≤A.length∧WI t l p y.2.1 y.2.2.1∧y.2.2.2.1≤l.length∧y.2.1.getD p []=L∧(∀i,∃l,y.2.1.getD i []=c.getD i []++l)∧CW t l p x y.1 y.2.1∧vs=VW t l y.2.2.2.1 p {y.2.2.2.2.2.2.2.2.2.2 with w8:=IN p,w9:=IN x,w15:=B true,w16:=.slc (L.map IN),w17:=IN L.length,w18:=IN j,w19:=B true,w20:=SG t A,w21:=IN A.length,w22:=IN y.1}∧h=HW (p+1) y.2.1 y.2.2.1 y.2.2.2.2.1 y.2.2.2.2.2.1 y.2.2.2.2.2.2.1 y.2.2.2.2.2.2.2.1 y.2.2.2.2.2.2.2.2.1 y.2.2.2.2.2.2.2.2.2.1) (fun y=>A.length-y.1)
         (0,c,kn,g,_,_,_,_,_,_,⟨.uu,.uu,_,_,.uu,.uu,.uu,.uu,.uu,.uu,.uu,.uu,_,_⟩) ⟨E0 _,z2,z3,z4,fun i=>⟨[],k8⟩,fun a T=>by simp at T,rfl,rfl⟩ ?_
        rintro⟨k,c2,av,E,ver,R4,R5,g6,g7,g8,⟨v8,v9,v10,v11,v15,v16,v17,v18,v19,v20,v21,v22,v23,v24⟩⟩ vs h ⟨a2,F,U,G,H,V,rfl,rfl⟩ Q4 aw a3 bi;dsimp only at a2 F U G H V;by_cases w:k<A.length
        . have ax:=wk1 k j4;obtain⟨bj,bk,bl,bm⟩:=a1 _ (C4 w);have W:=b1L (cls t A[k].1) (l.drop p) (by have:A0 t A[k].1=(cls t A[k].1).length:=rfl;omega);have ay:=b4z (cls t A[k].1) (l.drop p);have Y:=a8y (cls t A[k].1) (l.drop p);obtain⟨n,a4⟩:=s8 (V2 (cls t A[k].1) (l.drop p));rw[←a4]at W ay Y;simp only[CL,a2X]at W;rw[a4O]at ay;have a5:p≤l.length:=j4;have a6:List.take (l.length-p) (List.drop p (l.map UN))=(l.map UN).drop p:=a0t k8;have az:IntKind.i64.wrap ((p:Int)+(n:Int))=((p+n:Nat):Int):=T3;have I:∃m:Nat,m≤l.length∧(if(E:Int)<(p:Int)+(n:Int)then(p:Int)+(n:Int)else(E:Int))=(m:Int):=by
           split
           . exact⟨p+n,j4,j4⟩
           . exact⟨E,U,rfl⟩
          obtain⟨m2,aA,I⟩:=I;simp[HW,VW,w,a5,a6];refine l8 W ?_;by_cases C:n=(cls t A[k].1).length
          . have J:fits t l p A[k].1:=Y.1 C;have bn:=a5I J;have aB:A0 t A[k].1=n:=C.symm;obtain⟨c3,a7,a8,R53,a9,ba,bb,ws,w1,w2,w3,w4,w5,w6⟩:=c9n (sp:=p+1) ver (R4.1+1,.var [St (prt t A[k].1),CL (cls t A[k].1),IN A[k].2]) R5 g6 g7 g8 F aD Z (S.step f (e▸C4 w) J) j4 j4;rw[aB]at w4 w5;simp[az,I,←C];refine a5y w5 w6 rfl ?_;simp[HW,ax];exact aw (k+1,c3,a7,m2,a8,_,R53,a9,ba,bb,⟨.uu,.uu,_,_,.uu,.uu,.uu,.uu,.uu,.uu,.uu,.uu,_,_⟩) _ _ j4 ⟨u7,w1,aA,by dsimp only;rw[w3 p j4];exact G,fun i=>by
             obtain⟨l1,h1⟩:=H i;obtain⟨bc,R⟩:=w2 i;exact⟨l1++bc,by dsimp only;rw[R,h1,a2o]⟩,(V.mono (b0E w2)).succ e.symm w (fun _=>by rw[aB];exact w4),rfl,rfl⟩
          . have J:¬fits t l p A[k].1:=fun h=>C (Y.2 h);simp[az,I,C,ax];exact aw (k+1,c2,av,m2,ver,_,R5,g6,g7,g8,⟨.uu,.uu,_,_,.uu,.uu,.uu,.uu,.uu,.uu,.uu,.uu,_,_⟩) _ _ j4 ⟨u7,F,aA,G,H,V.succ e.symm w (fun h=>absurd h J),rfl,rfl⟩
        . obtain rfl:k=A.length:=j4;simp[VW];refine a3 _ _ _ ?_;simp[aX];refine aq (j+1,c2,av,E,ver,_,_,_,_,_,⟨.uu,_,_,_,.uu,.uu,.uu,.uu,_,_,_,_,_,_⟩) _ _ j4 ⟨u7,F,U,G,fun i z hi aC=>?_,rfl,rfl⟩;dsimp only at hi aC⊢;by_cases bo:i=j
          . grind
          . exact(z5 i z j4 aC).mono (b0E H)
      . obtain rfl:j=L.length:=j4;simp[VW];refine P _ _ _ ?_;simp[ao];exact am (p+1,c,kn,g,ver,_,_,_,_,_,⟨_,_,_,_,_,_,_,_,_,_,_,_,_,_⟩) _ _ j4 ⟨u7,z2.next (fun x d=>by
         rw[z4]at d;obtain⟨i,hi,rfl⟩:=a1I d;exact z5 i _ hi (l9 hi)),z3,rfl,rfl⟩
  . obtain rfl:p=l.length+1:=j4;have bd:(∀x,x∈RS (l.length+1) c→D9 x=true)=True:=eq_true (b6w _ _);simp[HW,VW];refine aK _ _ _ ?_;simp;refine ah _ _ _ ⟨c,g,rfl,b.fin,j4,j4⟩ ?_;simp[X85,a5L,bd]
end
section
variable{L:List Nat}{c:List (List Nat)}{j p x:Nat}
def Good(t:k7)(l:List Nat)(i x:Nat):Prop:=∃q a,E5 t ((j8 t).getD x D5) q=some a∧B8 t a=true∧C5 t q=l.drop i
theorem Good.stop{t:k7}{l:List Nat}(h:B8 t ((j8 t).getD x D5)=true):Good t l l.length x:=⟨[],_,rfl,h,by simp[C5]⟩
theorem Good.step{t:k7}(d:s7 t){l:List Nat}{i x:Nat}(b:x<(j8 t).length){a:Nat×Nat}(e:a∈G8 t x)(f:fits t l i a.1)(h:Good t l (i+A0 t a.1) a.2):Good t l i x:=by
 obtain⟨s',h1,_,g,_⟩:=a6s b e;obtain⟨q,j,c,k,m⟩:=h;rw[g,a2z (a0g d (a2k b) h1)]at c;refine⟨a.1::q,j,?_,k,?_⟩
 . show(T.step t _ a.1).bind _=_;rw[h1];exact c
 . rw[b0b f,←m];rfl
theorem Good.cases{t:k7}(m:s7 t){l:List Nat}{i:Nat}(f:x<(j8 t).length)(hi:i≤l.length)(h:Good t l i x):(i=l.length∧B8 t ((j8 t).getD x D5)=true)∨∃a∈G8 t x,fits t l i a.1∧Good t l (i+A0 t a.1) a.2:=by
 obtain⟨q,d,b,e,c⟩:=h
 match q,b,c with
 | [],b,c=>
  obtain rfl:=U4 b;have:(l.drop i).length=0:=by rw[←c];rfl
  rw[a4O]at this;exact .inl ⟨j4,e⟩
 |k::q,b,c=>
  obtain⟨s1,g,j⟩:=X1.1 (show(T.step t _ k).bind (fun s'=>E5 t s' q)=some d from b);have hd:l.drop i=cls t k++C5 t q:=by rw[←c];rfl
  obtain⟨f1,f2⟩:=b4W hd;have n:=a0g m (a2k f) g;exact .inr ⟨_,b0J f g ⟨q,d,j,e⟩,f1,q,d,by rw[a2z n];exact j,e,f2.symm⟩
theorem Good.live{t:k7}(b:s7 t){l:List Nat}{i:Nat}(h:Good t l i 0):Live t start:=by
 obtain⟨q,c,a,d,_⟩:=h;have e:(j8 t).getD 0 D5=start:=by rw[B0,a2t b];rfl
 rw[e]at a;exact⟨q,c,a,d⟩
def GI(t:k7)(l:List Nat)(c:List (List Nat))(P:Nat)(L:List Nat)(j:Nat)(gd:List A8):Prop:=
 ∀i x,A8.mk i x∈gd↔(x∈c.getD i []∧Good t l i x∧i≤l.length∧(P≤i∨(i+1=P∧x∈L.take j)))
theorem GI.start(t:k7)(l:List Nat)(c:List (List Nat))(L:List Nat):GI t l c (l.length+1) L 0 []:=fun i x=>by simp;intros;omega
theorem b7b(hj:j<L.length):x∈L.take (j+1)↔x∈L.take j∨x=L[j]:=by rw[J5,l9 hj,I5];simp
theorem c5m(a:L.Nodup)(hj:j<L.length):L[j]∉L.take j:=fun h=>by obtain⟨i,hi,he⟩:=a1I h;rw[a1V]at hi;rw[List.getElem_take]at he;exact a6c.1 a i j j4 hj j4 he
theorem GI.new{t:k7}{l:List Nat}{gd:List A8}(h:GI t l c (p+1) L j gd)(b:L.Nodup)(hj:j<L.length):A8.mk p L[j]∉gd:=fun hm=>by
 obtain⟨_,_,_,a⟩:=(h p L[j]).1 hm;rcases a with a|a
 . omega
 . exact c5m b hj a.2
theorem GI.yes{t:k7}{l:List Nat}{gd:List A8}(h:GI t l c (p+1) L j gd)(a:L=c.getD p [])(hp:p≤l.length)(hj:j<L.length)(b:Good t l p L[j]):GI t l c (p+1) L (j+1) (gd++[⟨p,L[j]⟩]):=fun i x=>by
 rw[I5,H5,h,b7b hj];constructor
 . grind
 . grind
theorem GI.no{t:k7}{l:List Nat}{gd:List A8}(h:GI t l c (p+1) L j gd)(hj:j<L.length)(a:¬Good t l p L[j]):GI t l c (p+1) L (j+1) gd:=fun i x=>by
 rw[h,b7b hj];constructor
 . grind
 . grind
theorem GI.next{t:k7}{l:List Nat}{L':List Nat}{gd:List A8}(h:GI t l c (p+1) L L.length gd)(a:L=c.getD p []):GI t l c p L' 0 gd:=fun i x=>by
 rw[h,K8];simp only[List.take_zero,List.not_mem_nil,and_false,or_false];constructor
 . grind
 . grind
theorem GI.ahead{t:k7}{l:List Nat}{gd:List A8}(h:GI t l c (p+1) L j gd)(d:WE t l c)(e:x∈c.getD p [])(hp:p≤l.length){a:Nat×Nat}(f:a∈G8 t x)(b:fits t l p a.1)(h1:1≤A0 t a.1):A8.mk (p+A0 t a.1) a.2∈gd↔Good t l (p+A0 t a.1) a.2:=by have hle:=a5I b;rw[h];exact⟨fun h=>h.2.1,fun g=>⟨d.done p x hp e a f b,g,j4,.inl j4⟩⟩
structure RDs(t:k7)(l:List Nat)(gd:List A8):Prop where
 snd:∀i x,A8.mk i x∈gd→Reach t l i x∧Good t l i x
 root:Good t l 0 0→A8.mk 0 0∈gd
 next:∀i x,A8.mk i x∈gd→∀a∈G8 t x,fits t l i a.1→Good t l (i+A0 t a.1) a.2→A8.mk (i+A0 t a.1) a.2∈gd
theorem GI.fin{t:k7}(g:s7 t){l:List Nat}{gd:List A8}(h:GI t l c 0 L 0 gd)(d:WE t l c):RDs t l gd:=by
 refine⟨fun i x hm=>?_,fun b=>?_,fun i x hm a j e b=>?_⟩
 . obtain⟨h1,f,_⟩:=(h i x).1 hm;exact⟨d.sound i x h1,f⟩
 . exact(h 0 0).2 ⟨d.root (b.live g),b,E0 _,.inl (E0 _)⟩
 . obtain⟨h1,f,k,_⟩:=(h i x).1 hm;have hle:=a5I e;exact(h _ _).2 ⟨d.done i x k h1 a j e,b,j4,.inl (E0 _)⟩
open Classical in
noncomputable def GXp(t:k7)(l:List Nat)(c:List (List Nat)):Nat→List A8
 |0=>[]
 |k+1=>GXp t l c k++((c.getD (l.length-k) []).filter fun x=>decide (Good t l (l.length-k) x)).map (A8.mk (l.length-k))
open Classical in
noncomputable def GXj(t:k7)(l:List Nat)(c:List (List Nat))(p:Nat)(L:List Nat)(j:Nat):List A8:=GXp t l c (l.length-p)++((L.take j).filter fun x=>decide (Good t l p x)).map (A8.mk p)
theorem c9k(t:k7)(l:List Nat)(c:List (List Nat))(p:Nat)(L:List Nat):GXj t l c p L 0=GXp t l c (l.length-p):=by simp[GXj]
theorem b6k{t:k7}{l:List Nat}(hj:j<L.length)(h:Good t l p L[j]):GXj t l c p L (j+1)=GXj t l c p L j++[⟨p,L[j]⟩]:=by unfold GXj;rw[J5,l9 hj,b2d,S0,a2o];simp[h]
theorem c6a{t:k7}{l:List Nat}(hj:j<L.length)(h:¬Good t l p L[j]):GXj t l c p L (j+1)=GXj t l c p L j:=by unfold GXj;rw[J5,l9 hj,b2d,S0];simp[h]
theorem c8Y{t:k7}{l:List Nat}(hp:p≤l.length):GXj t l c p (c.getD p []) (c.getD p []).length=GXp t l c (l.length+1-p):=by
 unfold GXj;rw[K8,show l.length+1-p=(l.length-p)+1 by omega];show _=GXp t l c (l.length-p)++_
 grind
theorem c0v(t:k7)(l:List Nat)(c:List (List Nat)):∀k,k≤l.length+1→GI t l c (l.length+1-k) [] 0 (GXp t l c k)
 |0,_=>GI.start t l c []
 |k+1,b=>fun i x=>by
  have a:=c0v t l c k j4 i x;simp only[List.take_nil,List.not_mem_nil,and_false,or_false]at a⊢;unfold GXp
  grind
theorem c8G{t:k7}(a:s7 t){l:List Nat}(b:WE t l c):RDs t l (GXp t l c (l.length+1)):=by have:=c0v t l c (l.length+1) (p7 _);rw[a6a]at this;exact this.fin a b
end
def CF(c:List (List Nat)):List PV:=(List.range c.length).map fun i=>.slc ((c.getD i []).map IN)
theorem c2o(c:List (List Nat)):(CF c).length=c.length:=by simp[CF]
theorem c4U{c:List (List Nat)}(i:Nat)(h:i<(CF c).length):(CF c)[i]=.slc ((c.getD i []).map IN):=by simp[CF]
theorem c3W(c:List (List Nat)):∀x,x∈CF c→D9 x=true:=fun x a=>by obtain⟨i,_,rfl⟩:=G7.1 a;rfl
theorem d0U(c:List (List Nat)):(CF c).map B6=CF c:=by unfold CF;rw[a2D];exact O1 fun i _=>rfl
theorem d1l(p:Nat)(c:List (List Nat)):(RS p c).map B6=CF c:=by unfold RS CF;rw[a2D];refine O1 fun i _=>?_;simp only[Function.comp_apply];cases c.getD i []<;>split<;>simp[B6,K5]<;>rfl
noncomputable abbrev RD(t:k7)(l:List Nat)(gd:List A8):PV:=.fptr [GR t,CL l,.M6 (gd.map SQ) (gd.map TR)]
def c8h(t:k7)(l:List Nat)(r:PV):Prop:=∃(gd:List A8) (most:Int),r=.tup [RD t l gd,I most]∧RDs t l gd∧ -1≤most∧most≤l.length
structure NV where
 (w9 w10 w11 w12 w13 w14 w15 w16 w17 w18 w19 w20:PV)
noncomputable abbrev VN(t:k7)(l:List Nat)(c:List (List Nat))(most pl:Int)(x:NV):List PV:=[TP t,CL l,.ptr 0 1 0,.lit (.pointer none),I 0,.ptr 3 1 0,.slc (CF c),I most,I pl,x.w9,x.w10,x.w11,x.w12,x.w13,x.w14,x.w15,x.w16,x.w17,x.w18,x.w19,x.w20]
noncomputable abbrev HN(t:k7)(l:List Nat)(gd:List A8)(R4 R5 R6 R10 R11 R12:Row):Heap:=
 [(1,.var (TC t)),(1,.mp false (gd.map SQ) (gd.map TR)),(1,.var [GR t,CL l,.mapv 1 1]),(1,.var [.ptr 2 1 0]),R4,R5,R6,dd,dd,dd,R10,R11,R12]
theorem b9L(t:k7)(l:List Nat)(gd:List A8)(R4 R5 R6 R10 R11 R12:Row)(i x:Nat):FI Tryz.prog (.fn (.func 86) [] []) [.ptr 2 1 0,.agg [IN i,IN x]] (HN t l gd R4 R5 R6 R10 R11 R12)
 (.fn (.func 118) [] [.ptr 10 (R10.1+1) 0,.ptr 11 (R11.1+1) 0]) [(10,(R10.1+1,.var [.ptr 2 1 0])),(11,(R11.1+1,.var [IN i,IN x]))]:=by
 refine a3q mixed (X:=X86) c86 (by rfl) (by simp[X86]) k8 fun Q a b=>?_;simp[X86,HN];refine a _ _ ?_;simp[X86,L3]
theorem c4C(t:k7)(f:s7 t)(l:List Nat)(aC:l.length≤1100000000):∃r,c8h t l r∧F0 47 [0,0] [TP t,CL l] r:=by
 have aD:=a1F f;have a9:=a2J f;obtain⟨r,⟨c,most,rfl,H,aE,aF⟩,hw⟩:=d1u t f l aC;have aG:(∀x,x∈RS (l.length+1) c→D9 x=true)=True:=eq_true (b6w _ _);have aH:=d1l (l.length+1) c;have U:=c2o c;have aj:=a5L (l.length+1) c;rw[H.len]at U aj;have aI:List.take (l.length+1) (CF c)=CF c:=a0t j4;have ak:(S5 t).length=(j8 t).length:=by simp[S5]
 have al:(gL (E3 t) t).length=(j8 t).length:=by simp[gL]
 refine⟨_,⟨GXp t l c (l.length+1),most,rfl,c8G f H,aE,aF⟩,?_⟩;refine E1 c47 13 (by simp[X47]) fun Q aJ ba=>?_;simp[X47];refine l8 (c5G t f) ?_;simp;refine l8 hw ?_;have aK:(∀x,x∈CF c→D9 x=true)=True:=eq_true (c3W c);have aL:=d0U c;have aM:=c4U (c:=c);simp[aG,aH,U,aj,aI,aK,aL];obtain⟨R4,aN⟩:∃R4:Row,R4=(1,.arr 1 1 true (CF c)):=⟨_,rfl⟩
 rw[←aN];refine F5 (fun(y:Nat×List A8×Row×Row×Row×Row×Row×NV) vs h=>y.1≤l.length+1∧GI t l c y.1 (c.getD (y.1-1) []) 0 y.2.1∧y.2.1=GXp t l c (l.length+1-y.1)∧vs=VN t l c most ((y.1:Int)-1) y.2.2.2.2.2.2.2∧h=HN t l y.2.1 R4 y.2.2.1 y.2.2.2.1 y.2.2.2.2.1 y.2.2.2.2.2.1 y.2.2.2.2.2.2.1) (fun y=>y.1)
  (l.length+1,[],dd,dd,dd,dd,dd,⟨_,_,_,_,_,_,_,_,_,_,_,_⟩) ⟨p7 _,GI.start t l c _,by dsimp only;rw[a6a];rfl,by dsimp only;rw[show((l.length+1:Nat):Int)-1=(l.length:Int)by omega],rfl⟩ ?_
 rintro⟨P,gd,R5,R6,R10,R11,R12,⟨v9,v10,v11,v12,v13,v14,v15,v16,v17,v18,v19,v20⟩⟩ vs h ⟨aO,J,V,rfl,rfl⟩ Q2 aP aQ bb;dsimp only at aO J V;cases P with
 |zero=>
  simp[VN,HN];refine aQ _ _ _ ?_;subst V;have g:List.map (K5∘TR) (GXp t l c (l.length+1))=(GXp t l c (l.length+1)).map TR:=O1 fun _ _=>rfl;simp[g];refine aJ _ _ ?_;simp[X47]
 |succ p=>
  have bc:(p:Int)<(l.length:Int)+1:=j4;have D:p≤l.length:=j4;have aR:p<l.length+1:=j4;have aS:IntKind.i64.wrap ((p:Int)-1)=(p:Int)-1:=T3;have aT:((p+1:Nat):Int)-1=(p:Int):=j4;dsimp only;rw[aT];rw[show p+1-1=p from rfl]at J;have am:=aM p j4;obtain⟨L,u⟩:=s8 (c.getD p []);rw[←u]at J am;have an:L.Nodup:=u▸H.nodup p;have ao:∀x∈L,Reach t l p x:=fun x e=>H.sound p x (u▸e);have bd:L.length≤3072:=U3 (a3A _ _ an fun y aU=>(ao y aU).1) aD;simp[VN,HN,U,aR,am];refine F5 (fun(y:Nat×List A8×Row×Row×Row×Row×Row×NV) vs h=>y.1≤L.length∧GI t l c (p+1) L y.1 y.2.1∧y.2.1=GXj t l c p L y.1∧vs=VN t l c most p {y.2.2.2.2.2.2.2 with w13:=.slc (L.map IN),w14:=IN L.length,w15:=IN y.1}∧h=HN t l y.2.1 R4 y.2.2.1 y.2.2.2.1 y.2.2.2.2.1 y.2.2.2.2.2.1 y.2.2.2.2.2.2.1) (fun y=>L.length-y.1)
   (0,gd,_,_,_,_,_,⟨_,_,_,_,.uu,.uu,.uu,_,_,_,_,_⟩) ⟨E0 _,J,by dsimp only;rw[c9k,V,show l.length+1-(p+1)=l.length-p by omega],rfl,rfl⟩ ?_
  rintro⟨j,gd,R5,R6,R10,R11,R12,⟨v9,v10,v11,v12,v13,v14,v15,v16,v17,v18,v19,v20⟩⟩ vs h ⟨aV,z2,z3,rfl,rfl⟩ Q3 W aW be;dsimp only at aV z2 z3;by_cases hj:j<L.length
  . have Y:=wk1 j j4;have ap:=ao _ (C4 hj);have aq:=z2.new an hj;have o:=z2.yes u D hj;have K:=z2.no hj;have ar:L[j]∈c.getD p []:=u▸C4 hj;obtain⟨x,i⟩:=s8 (L[j]);rw[←i]at ap aq o K ar;have e:=ap.1;obtain⟨A,E⟩:=s8 (G8 t x);have au:(gL (E3 t) t)[x]'j4=A:=(by rw[E];unfold G8;rw[B0,l9 j4];rfl);have bf:A.length≤64:=E▸a6p f x;have M:∀a∈A,a.1<t.rules.length∧a.2<(j8 t).length∧1≤A0 t a.1∧A0 t a.1≤4:=fun a b=>a4B f e (E▸b);have aX:∀a∈A,fits t l p a.1→(A8.mk (p+A0 t a.1) a.2∈gd↔Good t l (p+A0 t a.1) a.2):=fun a b Z=>z2.ahead H ar D (E▸b) Z (M a b).2.2.1;have av:=a3a.2 aq;have aw:(j8 t).getD x D5=(j8 t)[x]:=(by rw[B0,l9 e];rfl);have ax:(S5 t)[x]'j4=B8 t (j8 t)[x]:=(by simp only[S5,a0V]);obtain⟨g2,I⟩:=s8 (gd++[A8.mk p x]);rw[←I]at o;have f1:gd.map SQ++[.agg [IN p,IN x]]=g2.map SQ:=(by rw[I,S0];rfl);have f2:gd.map TR++[B true]=g2.map TR:=(by rw[I,S0];rfl);by_cases F:p=l.length∧B8 t ((j8 t).getD x D5)=true
    . have aY:(p=l.length)=True:=eq_true F.1;have v:Good t l p x:=(by rw[F.1];exact Good.stop F.2);have o:=o v;have s:=(b6k (t:=t) (c:=c) hj (i▸v)).symm;rw[←z3,←i,←I]at s;have ay:∀a∈A,¬fits t l p a.1:=fun a b Z=>by
       have:=a5I Z;have:=(M a b).2.2.1;omega
      have aZ:B8 t (j8 t)[x]=true:=(by rw[←aw];exact F.2);simp[VN,HN,hj,←i,aY,ak,e,ax,aZ,av,f1,f2];refine U5 (b9L t l g2 R4 (R5.1+1,.var [IN p,IN x]) R6 R10 R11 R12 p x) ?_;simp[HN];refine b3b mixed (X:=a4a) b3W rfl (by rfl) (by simp[a4a]) k8 ?_;intro aa Q4 az ab;simp[a4a,al,e,au];refine F5 (fun(y:Nat×Row×Row×PV×PV×PV) vs h=>y.1≤A.length∧(∀a∈A.take y.1,fits t l p a.1→¬Good t l (p+A0 t a.1) a.2)∧vs=[.fn (.yield aa) [] [],.ptr 10 (R10.1+1) 0,.ptr 11 (R11.1+1) 0,y.2.2.2.1,SG t A,IN A.length,IN y.1,y.2.2.2.2.1,y.2.2.2.2.2,gOf none]∧
       h=HN t l g2 R4 (R5.1+1,.var [IN p,IN x]) y.2.2.1 (R10.1+1,.var [.ptr 2 1 0]) (R11.1+1,.var [IN p,IN x]) y.2.1) (fun y=>A.length-y.1) (0,R12,R6,.uu,.uu,.uu) ⟨E0 _,fun a b=>by simp at b,rfl,rfl⟩ ?_
      rintro⟨k,R12,R6,v3,v7,v8⟩ vs h ⟨ac,w,rfl,rfl⟩ Q5 N ad aA;dsimp only at ac w;by_cases d:k<A.length
      . have O:=wk1 k j4;obtain⟨a0,a1,a2,a3⟩:=M _ (C4 d);have z:=b1L (cls t A[k].1) (l.drop p) (by have:A0 t A[k].1=(cls t A[k].1).length:=rfl;omega);have G:=a8y (cls t A[k].1) (l.drop p);obtain⟨n,ae⟩:=s8 (V2 (cls t A[k].1) (l.drop p));rw[←ae]at z G;simp only[CL,a2X]at z;have af:List.take (l.length-p) (List.drop p (l.map UN))=(l.map UN).drop p:=a0t k8;have R:(fits t l p A[k].1→¬Good t l (p+A0 t A[k].1) A[k].2)→∀a∈A.take (k+1),fits t l p a.1→¬Good t l (p+A0 t a.1) a.2:=fun h a b=>by
         rw[J5,l9 d]at b;rcases I5.1 b with b|b
         . exact w a b
         . simp only[a9N,H5]at b;subst b;exact h
        simp[HN,d,D,af];refine l8 z ?_;have C:¬n=(cls t A[k].1).length:=fun h=>ay _ (C4 d) (G.1 h);have g:¬fits t l p A[k].1:=ay _ (C4 d);simp[C,O];exact N (k+1,_,R6,_,_,_) _ _ u7 ⟨u7,R (fun h=>absurd h g),rfl,rfl⟩
      . obtain rfl:k=A.length:=j4;simp;refine ad _ _ _ ?_;simp;refine ab none _ _ (by rfl) ?_;simp[Y];exact W (j+1,g2,_,R6,_,_,_,⟨_,_,_,_,.uu,.uu,.uu,_,_,_,_,_⟩) _ _ u7 ⟨u7,o,s,rfl,rfl⟩
    . by_cases ag:p=l.length
      case' pos=>
       have a4:(S5 t)[x]'j4=false:=by
        rw[ax,←aw];cases hb:B8 t ((j8 t).getD x D5)with
        |false=>rfl
        |true=>exact absurd ⟨ag,hb⟩ F
       simp[VN,HN,hj,←i,eq_true ag,ak,e,a4]
      case' neg=>
       simp[VN,HN,hj,←i,eq_false ag]
      all_goals
       refine U5 (b9L t l gd R4 (R5.1+1,.var [IN p,IN x]) R6 R10 R11 R12 p x) ?_;simp[HN];refine b3b mixed (X:=a4a) b3W rfl (by rfl) (by simp[a4a]) k8 ?_;intro aa Q4 az ab;simp[a4a,al,e,au];refine F5 (fun(y:Nat×Row×Row×PV×PV×PV) vs h=>y.1≤A.length∧(∀a∈A.take y.1,fits t l p a.1→¬Good t l (p+A0 t a.1) a.2)∧vs=[.fn (.yield aa) [] [],.ptr 10 (R10.1+1) 0,.ptr 11 (R11.1+1) 0,y.2.2.2.1,SG t A,IN A.length,IN y.1,y.2.2.2.2.1,y.2.2.2.2.2,gOf none]∧
        h=HN t l gd R4 (R5.1+1,.var [IN p,IN x]) y.2.2.1 (R10.1+1,.var [.ptr 2 1 0]) (R11.1+1,.var [IN p,IN x]) y.2.1) (fun y=>A.length-y.1) (0,R12,R6,.uu,.uu,.uu) ⟨E0 _,fun a b=>by simp at b,rfl,rfl⟩ ?_
       rintro⟨k,R12,R6,v3,v7,v8⟩ vs h ⟨ac,w,rfl,rfl⟩ Q5 N ad aA;dsimp only at ac w;by_cases d:k<A.length
       . have O:=wk1 k j4;obtain⟨a0,a1,a2,a3⟩:=M _ (C4 d);have z:=b1L (cls t A[k].1) (l.drop p) (by have:A0 t A[k].1=(cls t A[k].1).length:=rfl;omega);have G:=a8y (cls t A[k].1) (l.drop p);obtain⟨n,ae⟩:=s8 (V2 (cls t A[k].1) (l.drop p));rw[←ae]at z G;simp only[CL,a2X]at z;have af:List.take (l.length-p) (List.drop p (l.map UN))=(l.map UN).drop p:=a0t k8;have R:(fits t l p A[k].1→¬Good t l (p+A0 t A[k].1) A[k].2)→∀a∈A.take (k+1),fits t l p a.1→¬Good t l (p+A0 t a.1) a.2:=fun h a b=>by
          rw[J5,l9 d]at b;rcases I5.1 b with b|b
          . exact w a b
          . simp only[a9N,H5]at b;subst b;exact h
         simp[HN,d,D,af];refine l8 z ?_;by_cases C:n=(cls t A[k].1).length
         . have g:fits t l p A[k].1:=G.1 C;have bg:=a5I g;have ah:A0 t A[k].1=n:=C.symm;have S:=aX _ (C4 d) g;rw[ah]at S;have aB:IntKind.i64.wrap ((p:Int)+(n:Int))=((p+n:Nat):Int):=T3;obtain⟨q,ai⟩:=s8 (p+n);rw[←ai]at aB S;simp[←C,aB];refine a5c rfl rfl ?_;cases hid:gd.idxOf? (A8.mk q A[k].2)with
           |some m=>
            have a5:m<gd.length:=by rw[List.idxOf?,a1W]at hid;exact hid.1
            have a6:A8.mk q A[k].2∈gd:=by refine Decidable.byContradiction fun hm=>?_;rw[a3a.2 hm]at hid;cases hid
            have v:Good t l p x:=Good.step f e (E▸C4 d) g (by rw[ah,←ai];exact S.1 a6);have o:=o v;have s:=(b6k (t:=t) (c:=c) hj (i▸v)).symm;rw[←z3,←i,←I]at s;simp[a5F,hid,a5,av,f1,f2];refine aA _ _ ?_;simp;refine az (some (.exit 4)) _ _ (by rfl) ?_;simp[Y];exact W (j+1,g2,_,_,_,_,_,⟨_,_,_,_,.uu,.uu,.uu,_,_,_,_,_⟩) _ _ u7 ⟨u7,o,s,rfl,rfl⟩
           |none=>
            have T:¬Good t l (p+A0 t A[k].1) A[k].2:=fun h=>by rw[ah,←ai]at h;exact a3a.1 hid (S.2 h)
            simp[a5F,hid,O];exact N (k+1,_,_,_,_,_) _ _ u7 ⟨u7,R (fun _=>T),rfl,rfl⟩
         . have g:¬fits t l p A[k].1:=fun h=>C (G.2 h);simp[C,O];exact N (k+1,_,R6,_,_,_) _ _ u7 ⟨u7,R (fun h=>absurd h g),rfl,rfl⟩
       . obtain rfl:k=A.length:=j4;have T:¬Good t l p x:=fun v=>by
          rcases v.cases f e D with h|⟨a,h1,a7,a8⟩
          . exact F h
          . rw[K8]at w;exact w a (E▸h1) a7 a8
         have K:=K T;have s:=(c6a (t:=t) (c:=c) hj (i▸T)).symm;rw[←z3]at s;simp;refine ad _ _ _ ?_;simp;refine ab none _ _ (by rfl) ?_;simp[Y];exact W (j+1,gd,_,R6,_,_,_,⟨_,_,_,_,.uu,.uu,.uu,_,_,_,_,_⟩) _ _ u7 ⟨u7,K,s,rfl,rfl⟩
  . obtain rfl:j=L.length:=j4;simp[VN];refine aW _ _ _ ?_;simp[aS];exact aP (p,gd,_,_,_,_,_,⟨_,_,_,_,_,_,_,_,_,_,_,_⟩) _ _ u7 ⟨u7,z2.next u,by dsimp only;rw[z3,u,c8Y D],rfl,rfl⟩
structure p9 where
 (p x:Nat)
 (r:By)
 deriving DecidableEq
abbrev p9.s(h:p9):A8:=⟨h.p,h.x⟩
inductive Sp(t:k7)(l:List Nat)(gd:List A8)(L:List p9):p9→Prop
 |base {h:p9}:h∈L→h.s∈gd→Sp t l gd L h
 |step {p x:Nat} {a:Nat×Nat}:Sp t l gd L ⟨p,x,[]⟩→a∈G8 t x→fits t l p a.1→A8.mk (p+A0 t a.1) a.2∈gd→Sp t l gd L ⟨p+A0 t a.1,a.2,prt t a.1⟩
theorem Sp.b6U{t:k7}{l:List Nat}{gd:List A8}{L:List p9}{h:p9}(hs:Sp t l gd L h):h.s∈gd:=by
 cases hs with
 |base _ g=>exact g
 |step _ _ _ g=>exact g
def Nxt(t:k7)(l:List Nat)(gd:List A8)(h:p9)(a:Nat×Nat)(K:List p9):Prop:=fits t l h.p a.1→A8.mk (h.p+A0 t a.1) a.2∈gd→p9.mk (h.p+A0 t a.1) a.2 (prt t a.1)∈K
structure SI(t:k7)(l:List Nat)(gd:List A8)(L:List p9)(j:Nat)(K O F:List p9)(ends:Bool)(cur:Option p9)(m:Nat):Prop where
 nodup:K.Nodup
 sound:∀h∈K,Sp t l gd L h
 base:∀i h,i<j→L[i]?=some h→h.s∈gd→h∈K
 opn:∀h∈O,h∈K∧h.r=[]
 onod:O.Nodup
 fnd:F=K.filter fun h=>!h.r.isEmpty
 done:∀h∈K,h.r=[]→h∉O→cur≠some h→∀a∈G8 t h.x,Nxt t l gd h a K
 curd:∀h,cur=some h→h∈K∧h.r=[]∧h∉O∧∀a∈(G8 t h.x).take m,Nxt t l gd h a K
 fin:ends=true↔∃h∈K,h.r=[]∧h∉O∧h.p=l.length∧B8 t ((j8 t).getD h.x D5)=true
theorem SI.start(t:k7)(l:List Nat)(gd:List A8)(L:List p9):SI t l gd L 0 [] [] [] false none 0:=
 ⟨k8,k8,fun i h hi=>j4,k8,k8,rfl,k8,k8,k8⟩
def a1m(K O:List p9)(h:p9):List p9:=if h∈K then O else if h.r=[]then O++[h]else O
def a2M(K F:List p9)(h:p9):List p9:=if h∈K then F else if h.r=[]then F else F++[h]
def W5(K:List p9)(h:p9):List p9:=if h∈K then K else K++[h]
theorem b4o(K:List p9)(h:p9):h∈W5 K h:=by
 unfold W5;split
 . assumption
 . simp
theorem c8X{K:List p9}{h x:p9}(a:x∈K):x∈W5 K h:=by
 unfold W5;split
 all_goals grind
theorem SI.add{t:k7}{l:List Nat}{gd:List A8}{L:List p9}{j m:Nat}{K O F:List p9}{ends:Bool}{cur:Option p9}(h:SI t l gd L j K O F ends cur m){x:p9}(o:Sp t l gd L x):SI t l gd L j (W5 K x) (a1m K O x) (a2M K F x) ends cur m:=by
 by_cases d:x∈K
 . unfold W5 a1m a2M
   grind
 . have hm:∀y,y∈K→y∈W5 K x:=fun y c=>c8X c;have p:∀y,y∈K→(y∈a1m K O x↔y∈O):=fun y c=>by
    unfold a1m;rw[if_neg d];split
    . grind
    . exact Iff.rfl
   have q:x.r=[]→x∈a1m K O x:=fun hr=>(by unfold a1m;rw[if_neg d,if_pos hr];simp);have r:∀y a,Nxt t l gd y a K→Nxt t l gd y a (W5 K x):=fun y a s h1 u=>hm _ (s h1 u);have k:∀y,y∈W5 K x→y∈K∨y=x:=fun y c=>by unfold W5 at c;rw[if_neg d]at c;simpa using c
   refine⟨?_,fun y c=>?_,fun i y hi c hs=>hm _ (h.base i y hi c hs),fun y c=>?_,?_,?_,fun y c hr n g a f=>?_,fun y g=>?_,?_⟩
   . unfold W5;rw[if_neg d,a6d];refine⟨h.nodup,k8,fun a f b hb=>?_⟩
     grind
   . rcases k y c with c|rfl
     . exact h.sound y c
     . exact o
   . unfold a1m at c;rw[if_neg d]at c;split at c
     . rename_i hr;rcases I5.1 c with c|c
       . exact⟨hm _ (h.opn y c).1,(h.opn y c).2⟩
       . rw[H5]at c;subst c;exact⟨b4o K y,hr⟩
     . exact⟨hm _ (h.opn y c).1,(h.opn y c).2⟩
   . unfold a1m;rw[if_neg d];split
     . rw[a6d];refine⟨h.onod,k8,fun a f b hb=>?_⟩;rw[H5]at hb;intro e;subst e;subst hb;exact d (h.opn a f).1
     . exact h.onod
   . unfold a2M W5;rw[if_neg d,if_neg d,b2d,←h.fnd]
     grind
   . rcases k y c with c|rfl
     . exact r _ _ (h.done y c hr (fun e=>n ((p y c).2 e)) g a f)
     . exact absurd (q hr) n
   . obtain⟨c1,c2,c3,c4⟩:=h.curd y g
     grind
   . rw[h.fin];constructor
     . grind
     . grind
theorem SI.input{t:k7}{l:List Nat}{gd:List A8}{L:List p9}{j:Nat}{K O F:List p9}{ends:Bool}(h:SI t l gd L j K O F ends none 0)(hj:j<L.length)(hs:L[j].s∈gd):SI t l gd L (j+1) (W5 K L[j]) (a1m K O L[j]) (a2M K F L[j]) ends none 0:=by
 have b:=h.add (.base (C4 hj) hs);refine{b with base:=fun i y hi a c=>?_};by_cases d:i=j
 . subst d;rw[l9 hj]at a;cases a;exact b4o _ _
 . exact b.base i y j4 a c
theorem SI.skip{t:k7}{l:List Nat}{gd:List A8}{L:List p9}{j:Nat}{K O F:List p9}{ends:Bool}(h:SI t l gd L j K O F ends none 0)(hj:j<L.length)(hs:L[j].s∉gd):SI t l gd L (j+1) K O F ends none 0:=by
 refine{h with base:=fun i y hi a b=>?_};by_cases c:i=j
 . grind
 . exact h.base i y j4 a b
theorem SI.pop{t:k7}{l:List Nat}{gd:List A8}{L:List p9}{j:Nat}{K O F:List p9}{ends:Bool}{x:p9}(h:SI t l gd L j K (O++[x]) F ends none 0):SI t l gd L j K O F (ends||(decide (x.p=l.length)&&B8 t ((j8 t).getD x.x D5))) (some x) 0:=by
 have g:=h.opn x k8;have i:x∉O:=fun c=>by have:=(a6d.1 h.onod).2.2 x c x k8;exact this rfl
 refine⟨h.nodup,h.sound,h.base,fun y b=>h.opn y (a4M _ b),(a6d.1 h.onod).1,h.fnd,fun y b hr k d a f=>?_,fun y d=>?_,?_⟩
 . refine h.done y b hr (fun e=>?_) k8 a f
   grind
 . grind
 . rw[a1j,E7,decide_eq_true_eq,h.fin];constructor
   . grind
   . grind
theorem SI.a1n{t:k7}{l:List Nat}{gd:List A8}{L:List p9}{j m:Nat}{K O F:List p9}{ends:Bool}{x:p9}{A:List (Nat×Nat)}(c:A=G8 t x.x)(hm:m<A.length)(h:SI t l gd L j K O F ends (some x) m)(e:fits t l x.p A[m].1)(f:A8.mk (x.p+A0 t A[m].1) A[m].2∈gd):
 SI t l gd L j (W5 K ⟨x.p+A0 t A[m].1,A[m].2,prt t A[m].1⟩) (a1m K O ⟨x.p+A0 t A[m].1,A[m].2,prt t A[m].1⟩) (a2M K F ⟨x.p+A0 t A[m].1,A[m].2,prt t A[m].1⟩) ends (some x) (m+1):=by
 obtain⟨c1,c2,c3,c4⟩:=h.curd x rfl;have g:Sp t l gd L ⟨x.p,x.x,[]⟩:=by have:=h.sound x c1;obtain⟨p,y,r⟩:=x;simp only at c2;subst c2;exact this
 have d:=h.add (.step g (c▸C4 hm) e f);refine{d with curd:=fun y i=>?_};cases i;obtain⟨d1,d2,d3,d4⟩:=d.curd x rfl;refine⟨d1,d2,d3,fun a b=>?_⟩;rw[←c,J5,l9 hm]at b;rcases I5.1 b with b|b
 . exact d4 a (by grind)
 . simp only[a9N,H5]at b;subst b;exact fun _ _=>b4o _ _
theorem SI.not{t:k7}{l:List Nat}{gd:List A8}{L:List p9}{j m:Nat}{K O F:List p9}{ends:Bool}{x:p9}{A:List (Nat×Nat)}(c:A=G8 t x.x)(hm:m<A.length)(h:SI t l gd L j K O F ends (some x) m)(d:fits t l x.p A[m].1→A8.mk (x.p+A0 t A[m].1) A[m].2∉gd):SI t l gd L j K O F ends (some x) (m+1):=by
 refine{h with curd:=fun y e=>?_};cases e;obtain⟨d1,d2,d3,d4⟩:=h.curd x rfl;refine⟨d1,d2,d3,fun a b=>?_⟩;rw[←c,J5,l9 hm]at b;rcases I5.1 b with b|b
 . exact d4 a (by grind)
 . simp only[a9N,H5]at b;subst b;exact fun h1 f=>absurd f (d h1)
theorem SI.next{t:k7}{l:List Nat}{gd:List A8}{L:List p9}{j:Nat}{K O F:List p9}{ends:Bool}{x:p9}(h:SI t l gd L j K O F ends (some x) (G8 t x.x).length):SI t l gd L j K O F ends none 0:=by
 obtain⟨d1,d2,d3,d4⟩:=h.curd x rfl;refine{h with done:=fun y b hr c _ a d=>?_,curd:=fun y b=>by cases b};by_cases f:y=x
 . grind
 . exact h.done y b hr c (fun e=>f (U4 e).symm) a d
structure SpR(t:k7)(l:List Nat)(gd:List A8)(L F:List p9)(ends:Bool):Prop where
 nodup:F.Nodup
 mem:∀h,h∈F↔Sp t l gd L h∧h.r≠ []
 fin:ends=true↔∃x,Sp t l gd L ⟨l.length,x,[]⟩∧B8 t ((j8 t).getD x D5)=true
theorem SI.end_{t:k7}{l:List Nat}{gd:List A8}{L:List p9}{K F:List p9}{ends:Bool}(h:SI t l gd L L.length K [] F ends none 0):SpR t l gd L F ends:=by
 have f:∀y,Sp t l gd L y→y∈K:=fun y g=>by
  induction g with
  |base h1 a=>
   obtain⟨i,hi,rfl⟩:=a1I h1;exact h.base i _ hi (l9 hi) a
  |step _ a j k m=>exact h.done _ m rfl k8 k8 _ a j k
 refine⟨?_,fun y=>?_,?_⟩
 . rw[h.fnd];exact h.nodup.filter _
 . rw[h.fnd,a7U];refine⟨fun e=>⟨h.sound y e.1,fun hr=>by have:=e.2;rw[hr]at this;simp at this⟩,fun e=>⟨f y e.1,?_⟩⟩
   grind
 . rw[h.fin];constructor
   . rintro⟨y,n,b,_,c,d⟩;obtain⟨p,x,r⟩:=y;simp only at b c d;subst b;subst c;exact⟨x,h.sound _ n,d⟩
   . grind
theorem a9b{α:Type} [DecidableEq α]:∀(l m:List α),l.Nodup→(∀x∈l,x∈m)→l.length≤m.length
 | [],m,_,_=>E0 _
 |a::l,m,h,hs=>by
  obtain⟨h1,b⟩:=a4K.1 h;have d:=hs a a3x;have:=a9b l (m.erase a) b fun x c=>(List.mem_erase_of_ne (fun e=>h1 (by grind))).2 (hs x (a4i _ c))
  grind
def b6n(t:k7)(n:Nat):List p9:=(List.range (n+1)).flatMap fun p=>(List.range (j8 t).length).flatMap fun x=>(List.range t.rules.length).map fun k=>⟨p,x,prt t k⟩
theorem a9s{α:Type}(n c:Nat)(f:Nat→List α)(h:∀i,(f i).length=c):((List.range n).flatMap f).length=n*c:=by
 induction n with
 |zero=>simp
 |succ n a=>rw[a2F,List.flatMap_append,Z9,a];simp[h,Nat.succ_mul]
theorem c3h(t:k7)(n:Nat):(b6n t n).length=(n+1)*((j8 t).length*t.rules.length):=
 a9s _ _ _ fun _=>a9s _ _ _ fun _=>by simp
theorem SI.bound{t:k7}(d:s7 t){l:List Nat}{gd:List A8}(b:RDs t l gd){L:List p9}{j m:Nat}{K O F:List p9}{ends:Bool}{cur:Option p9}(h:SI t l gd L j K O F ends cur m):K.length≤L.length+(l.length+1)*((j8 t).length*t.rules.length):=by
 rw[←c3h,←Z9];refine a9b _ _ h.nodup fun y e=>?_;cases h.sound y e with
 |base h1 _=>exact a4M _ h1
 |step _ f k g=>
  rename_i p x a hs;have c:=(b.snd _ _ g).1;have i:x<(j8 t).length:=by have:A8.mk p x∈gd:=hs.b6U;exact(b.snd _ _ this).1.1
  refine a7V _ ?_;unfold b6n;refine a3b.2 ⟨p+A0 t a.1,a2p.2 (by have:=c.2.1;omega),a3b.2 ⟨a.2,a2p.2 c.1,G7.2 ⟨a.1,a2p.2 (a4B d i f).1,rfl⟩⟩⟩
def X88:u9:=
 ⟨92,[0,1,2,4,5,6,7,8,9,10,12,13,14,15,18,19,20,21,30,37,71,75,76,77,83],9,[(3,none),(4,none)],sq [.reg [H4 2 0 0,oax 3,oh 4],.reg [ofb 1,ow 5 (.alloc 2 [.lit (.map none)]),og 1 1 0],.reg [ow 6 (.alloc 3 [.nils]),ow 7 (.alloc 4 [.nils])],.G4 6 (some 0) 18 3 (.G4 7 (some 0) 19 3 (sq [.reg [oq (.mkfn (.func 119) [] [.v 5,.v 6,.v 7]),ow 8 (.alloc 5 [.lit .nilFunc]),og 1 1 0],kk 9,sq [kal 14 1 15 0 16 0,.block 0 (.loop (sq [ki 17 16 15,B9 17 0,.block 1 (sq [.reg [N8 3 14 16,J7 3 0,oez 10 6 0 0,og 3 2 1],.reg [G5 1 2,C7 0,ok 2 1,ob 1 2,od 0 10,J7 2 4,oes 18 14 3 5],.cond (.v 18) (.reg [G5 1 8,oo 3 10,oq (.cally (.l 0) [.l 1])]) kc]),ke 16 1 16 0]))],.block 2 (.loop (sq [sq [.reg [G5 1 6,E6 0,ods 19 1 0],B9 19 2],.block 3 (sq [.reg [G5 1 6,G5 1 6,E6 1,obk 2 1,ol 3 0 3,J7 3 4,oez 11 7 0 0,og 3 6 5],.reg [G5 1 6,G5 1 6,E6 1,obk 2 1,ocy 3 0 3,L0 1 6 4],sq [.reg [od 0 11,ok 0 0,ob 1 1,G5 1 2,C7 3,ok 1 4,ob 1 5,E6 6,ocq 2 7,om 8,odi 1 2 9,obe 10 9,oaw 0 11 9,oe 1 12 9,obe 13 9,oaw 1 14 9,oe 1 15 9,ou 0 11 9,oaw 1 17 9,oe 1 18 9,oau 1 16 19 9,oe 1 20 9,V1 20 9 21],.cond (.v 20) (kad 9) kc],.reg [G5 1 2,od 0 11,J7 2 1,odd 21 86 0 2],.block 4 (.rfor (.v 21) [some 22,some 23] (sq [.reg [odf 12 22],.reg [odk 13 8 0 0,oq (.store 2 (.l 0) (.v 23))]]) (.block 5 (sq [.reg [G5 1 2,C7 0,ok 2 1,ob 1 2,oo 2 13,oes 24 14 3 4],.cond (.v 24) (.reg [G5 1 8,oo 2 13,oa 12,oq (.build [.int .i64 0,.int .i64 0,.str ⟨#[]⟩] [(0,2,.l 1),(2,1,.l 2)]),oq (.cally (.l 0) [.l 3])]) kc])))])])),.reg [G5 1 7,obj 120 0,oa 9,oc 3 1,oc 4 2],ko]))]⟩
theorem c88:D3 88 X88:=D7
abbrev HQ(h:p9):PV:=.agg [IN h.p,IN h.x,St h.r]
theorem d1I(a b:p9):a1g (HQ a) (HQ b)=some (decide (a=b)):=by
 cases a;cases b;have hb:∀r q:By,((ByteArray.mk ⟨r⟩==ByteArray.mk ⟨q⟩))=decide (r=q):=fun r q=>by rw[show(ByteArray.mk ⟨r⟩==ByteArray.mk ⟨q⟩)=((⟨r⟩:Array UInt8)==⟨q⟩)from rfl,Bool.eq_iff_iff];simp
 simp[a1g,V7,a1d,Bool.and_assoc,hb]
@[simp] theorem d3n(a b:Nat)(r:By)(L:List p9):a0q (.agg [.int .i64 a,.int .i64 b,.str ⟨⟨r⟩⟩]) (L.map HQ) 0=some (L.idxOf? ⟨a,b,r⟩):=by have:=a7B d1I ⟨a,b,r⟩ L 0;simpa using this
abbrev TH(h:p9):PV:=B true
@[simp] theorem d3H(l:List p9):List.map (B6∘HQ) l=l.map HQ:=O1 fun _ _=>rfl
def a3M(E:List p9)(n:Nat)(h:p9):List p9:=E.take n++h::E.drop (n+1)
noncomputable abbrev HS(t:k7)(l:List Nat)(gd:List A8)(K E:List p9)(n:Nat)(F:List p9)(R6 R7 R8 R10 R11 R12 R13:Row)(g14 g16 v18 v19:Nat):Heap:=
 [(1,.var [RD t l gd]),(1,.mp false (K.map HQ) (K.map TH)),(1,.var [.mapv 1 1]),(1,.var [.own 18 1 E.length 3 0 n]),(1,.var [.own 19 1 F.length 3 0 F.length]),(1,.var [.fn (.func 119) [] [.ptr 2 1 0,.ptr 3 1 0,.ptr 4 1 0]]),
  R6,R7,R8,dd,R10,R11,R12,R13,(g14,.dead),dd,(g16,.dead),dd,(1,.arr 3 v18 false (E.map HQ)),(1,.arr 3 v19 false (F.map HQ))]
theorem c5T(t:k7)(l:List Nat)(gd:List A8)(K E:List p9)(n:Nat)(F:List p9)(R6 R7 R8 R10 R11 R12 R13:Row)(g14 g16 v18 v19:Nat):
 FI Tryz.prog (.fn (.func 120) [] []) [.own 19 1 F.length 3 0 F.length] (HS t l gd K E n F R6 R7 R8 R10 R11 R12 R13 g14 g16 v18 v19) (.own 19 1 F.length 3 0 F.length) []:=by
 refine a3q mixed (X:=a7e) c120 (by rfl) (by simp[a7e]) k8 fun Q a b=>?_;simp[a7e,HS];refine a _ _ ?_;simp[L3,a7e]
theorem c4X(t:k7)(l:List Nat)(gd:List A8)(K E:List p9)(n:Nat)(F:List p9)(R6 R7 R8 R10 R11 R12 R13:Row)(g14 g16 v18 v19 p x:Nat)(r:By)(i:Nat)(hi:K.idxOf? (p9.mk p x r)=some i)(a:i<K.length):
 FI Tryz.prog (.fn (.func 119) [] [.ptr 2 1 0,.ptr 3 1 0,.ptr 4 1 0]) [.agg [IN p,IN x,St r]] (HS t l gd K E n F R6 R7 R8 R10 R11 R12 R13 g14 g16 v18 v19) (.tup []) [(13,(R13.1+1,.var [IN p,IN x,St r]))]:=by
 refine a3q mixed (X:=a1L) b4q (by rfl) (by simp[a1L]) k8 fun Q b c=>?_;simp[a1L,HS,hi,a];refine b _ _ ?_;simp[L3,a1L]
theorem c9V(t:k7)(l:List Nat)(gd:List A8)(K E:List p9)(n:Nat)(F:List p9)(R6 R7 R8 R10 R11 R12 R13:Row)(g14 g16 v18 v19 p x:Nat)(hi:K.idxOf? (p9.mk p x [])=none)(j:n≤E.length)(hb:(n+1)*32≤140737488355328):
 ∃r ws,(∃k,r=.tup []∧ws=[(1,(1,.mp false ((K++[p9.mk p x []]).map HQ) ((K++[p9.mk p x []]).map TH))),(3,(1,.var [.own 18 1 (a3M E n ⟨p,x,[]⟩).length 3 0 (n+1)])),(13,(R13.1+1,.var [IN p,IN x,St []])),(14,(g14+1,.dead)),(18,(1,.arr 3 k false ((a3M E n ⟨p,x,[]⟩).map HQ)))])∧
 FI Tryz.prog (.fn (.func 119) [] [.ptr 2 1 0,.ptr 3 1 0,.ptr 4 1 0]) [.agg [IN p,IN x,St []]] (HS t l gd K E n F R6 R7 R8 R10 R11 R12 R13 g14 g16 v18 v19) r ws:=by
 obtain⟨a,m⟩:=s8 (K++[p9.mk p x []]);rw[←m];have f:K.map HQ++[.agg [IN p,IN x,St []]]=a.map HQ:=by grind
 have g:K.map TH++[B true]=a.map TH:=by grind
 obtain⟨E2,b⟩:=s8 (a3M E n ⟨p,x,[]⟩);rw[←b];refine a3P mixed (X:=a1L) b4q (by rfl) (by simp[a1L]) k8 (by kernel_rfl) fun Q o h=>?_;by_cases d:n=E.length
 . have e:E.map HQ++[.agg [IN p,IN x,St []]]=E2.map HQ:=(by rw[b];unfold a3M;rw[d];simp);have c:E.length+1=E2.length:=(by rw[b];unfold a3M;rw[d];simp);subst d;have i:=hb;rw[c]at i;simp[a1L,HS,hi,f,g,i,e,c];refine h _ [(1,(1,.mp false (a.map HQ) (a.map TH))),(3,(1,.var [.own 18 1 E2.length 3 0 (E.length+1)])),(13,(R13.1+1,.var [IN p,IN x,St []])),(14,(g14+1,.dead)),(18,(1,.arr 3 v18 false (E2.map HQ)))] _ _ ⟨v18,rfl,rfl⟩ ?_;simp[L3,a1L,c]
 . have e:(E.map HQ).take n++ .agg [IN p,IN x,St []]::(E.map HQ).drop (n+1)=E2.map HQ:=(by rw[b];unfold a3M;simp[a4h,a2X]);have c:n+(E.length-(n+1)+1)=E2.length:=(by rw[b];unfold a3M;simp;omega);simp[a1L,HS,hi,f,g,j,hb,d,e,c];refine h _ [(1,(1,.mp false (a.map HQ) (a.map TH))),(3,(1,.var [.own 18 1 E2.length 3 0 (n+1)])),(13,(R13.1+1,.var [IN p,IN x,St []])),(14,(g14+1,.dead)),(18,(1,.arr 3 (v18+1) false (E2.map HQ)))] _ _ ⟨v18+1,rfl,rfl⟩ ?_;simp[L3,a1L]
theorem d1F(t:k7)(l:List Nat)(gd:List A8)(K E:List p9)(n:Nat)(F:List p9)(R6 R7 R8 R10 R11 R12 R13:Row)(g14 g16 v18 v19 p x:Nat)(r:By)(hr:r≠ [])(hi:K.idxOf? (p9.mk p x r)=none)(hb:(F.length+1)*32≤140737488355328):
 FI Tryz.prog (.fn (.func 119) [] [.ptr 2 1 0,.ptr 3 1 0,.ptr 4 1 0]) [.agg [IN p,IN x,St r]] (HS t l gd K E n F R6 R7 R8 R10 R11 R12 R13 g14 g16 v18 v19) (.tup [])
  [(1,(1,.mp false ((K++[p9.mk p x r]).map HQ) ((K++[p9.mk p x r]).map TH))),(4,(1,.var [.own 19 1 (F++[p9.mk p x r]).length 3 0 (F++[p9.mk p x r]).length])),(13,(R13.1+1,.var [IN p,IN x,St r])),(16,(g16+1,.dead)),(19,(1,.arr 3 v19 false ((F++[p9.mk p x r]).map HQ)))]:=by
 obtain⟨a,d⟩:=s8 (K++[p9.mk p x r]);obtain⟨F2,b⟩:=s8 (F++[p9.mk p x r]);rw[←d,←b];have e:K.map HQ++[.agg [IN p,IN x,St r]]=a.map HQ:=by grind
 have f:K.map TH++[B true]=a.map TH:=by grind
 have g:F.map HQ++[.agg [IN p,IN x,St r]]=F2.map HQ:=by grind
 have c:F.length+1=F2.length:=by rw[b];simp
 rw[c]at hb;refine a3q mixed (X:=a1L) b4q (by rfl) (by simp[a1L]) k8 fun Q i h=>?_;simp[a1L,HS,hi,e,f,hb,g,c,hr];refine h _ _ ?_;simp[L3,a1L]
theorem c0d(t:k7)(l:List Nat)(gd:List A8)(K E:List p9)(n:Nat)(F:List p9)(R6 R7 R8 R10 R11 R12 R13:Row)(g14 g16 v18 v19:Nat)(h:p9)(c:n≤E.length)(f:E.length≤K.length)(hb:(n+1)*32≤140737488355328)(g:(F.length+1)*32≤140737488355328)(q:∀x∈E.take n,x∈K):
 ∃E' d R13' j k e ws,E'.take d=a1m K (E.take n) h∧d≤E'.length∧E'.length≤(W5 K h).length∧d+2*K.length≤n+2*(W5 K h).length∧
  FI Tryz.prog (.fn (.func 119) [] [.ptr 2 1 0,.ptr 3 1 0,.ptr 4 1 0]) [.agg [IN h.p,IN h.x,St h.r]] (HS t l gd K E n F R6 R7 R8 R10 R11 R12 R13 g14 g16 v18 v19) (.tup []) ws∧
  p8 (HS t l gd K E n F R6 R7 R8 R10 R11 R12 R13 g14 g16 v18 v19) ws=HS t l gd (W5 K h) E' d (a2M K F h) R6 R7 R8 R10 R11 R12 R13' j k e v19:=by
 obtain⟨p,x,r⟩:=h;by_cases a:p9.mk p x r∈K
 . obtain⟨i,hi⟩:∃i,K.idxOf? (p9.mk p x r)=some i:=by
    cases m:K.idxOf? (p9.mk p x r)with
    |none=>exact absurd a (a3a.1 m)
    |some n=>exact⟨n,rfl⟩
   have o:i<K.length:=by rw[List.idxOf?,a1W]at hi;exact hi.1
   have b:=c4X t l gd K E n F R6 R7 R8 R10 R11 R12 R13 g14 g16 v18 v19 p x r i hi o;unfold W5 a1m a2M;rw[if_pos a,if_pos a,if_pos a];exact⟨E,n,_,g14,g16,v18,_,rfl,c,f,p7 _,b,rfl⟩
 . have hi:=a3a.2 a;unfold W5 a1m a2M;rw[if_neg a,if_neg a,if_neg a];by_cases hr:r=[]
   . subst hr;obtain⟨r,ws,⟨e,rfl,rfl⟩,b⟩:=c9V t l gd K E n F R6 R7 R8 R10 R11 R12 R13 g14 g16 v18 v19 p x hi c hb;refine⟨a3M E n ⟨p,x,[]⟩,n+1,_,g14+1,g16,e,_,?_,?_,?_,?_,b,rfl⟩
     . rw[if_pos rfl];unfold a3M;rw[List.take_append,a1V,Nat.min_eq_left c,List.take_take,Nat.min_eq_right j4,show n+1-n=1 by omega];rfl
     . unfold a3M;simp;omega
     . unfold a3M;simp;omega
     . simp;omega
   . have b:=d1F t l gd K E n F R6 R7 R8 R10 R11 R12 R13 g14 g16 v18 v19 p x r hr hi g;rw[if_neg hr,if_neg hr];exact⟨E,n,_,g14,g16+1,v18,_,rfl,c,F6,F6,b,rfl⟩
section
variable{t:k7}{l:List Nat}{gd:List A8}
abbrev H3:=List p9×List p9×List p9
def a5a(st:H3)(h:p9):H3:=(W5 st.1 h,a1m st.1 st.2.1 h,a2M st.1 st.2.2 h)
def inS(gd:List A8)(st:H3)(h:p9):H3:=if h.s∈gd then a5a st h else st
def arS(t:k7)(l:List Nat)(gd:List A8)(x:p9)(st:H3)(a:Nat×Nat):H3:=if fits t l x.p a.1∧A8.mk (x.p+A0 t a.1) a.2∈gd then a5a st ⟨x.p+A0 t a.1,a.2,prt t a.1⟩else st
noncomputable def stO(t:k7)(l:List Nat)(gd:List A8)(s:H3×Bool):H3×Bool:=match s.1.2.1.getLast? with
 |none=>s
 |some x=>((G8 t x.x).foldl (arS t l gd x) (s.1.1,s.1.2.1.dropLast,s.1.2.2),s.2||(decide (x.p=l.length)&&B8 t ((j8 t).getD x.x D5)))
noncomputable def rnO(t:k7)(l:List Nat)(gd:List A8):Nat→H3×Bool→H3×Bool
 |0,s=>s
 |n+1,s=>if s.1.2.1=[]then s else rnO t l gd n (stO t l gd s)
def a0A(t:k7)(l:List Nat)(L:List p9):Nat:=L.length+(l.length+1)*((j8 t).length*t.rules.length)
noncomputable def X8(t:k7)(l:List Nat)(gd:List A8)(L:List p9):H3×Bool:=rnO t l gd (2*a0A t l L) (L.foldl (inS gd) ([],[],[]),false)
abbrev SI'(t:k7)(l:List Nat)(gd:List A8)(L:List p9)(j:Nat)(s:H3×Bool)(cur:Option p9)(m:Nat):Prop:=SI t l gd L j s.1.1 s.1.2.1 s.1.2.2 s.2 cur m
theorem a5B{α β:Type}(f:β→α→β)(b:β){l:List α}{j:Nat}(hj:j<l.length):(l.take (j+1)).foldl f b=f ((l.take j).foldl f b) l[j]:=by rw[J5,l9 hj,b2a];rfl
theorem b0z(t:k7)(l:List Nat)(gd:List A8)(L:List p9):∀j,j≤L.length→SI' t l gd L j ((L.take j).foldl (inS gd) ([],[],[]),false) none 0
 |0,_=>SI.start t l gd L
 |j+1,h=>by
  have a:=b0z t l gd L j j4;rw[a5B _ _ (show j<L.length by omega)];unfold inS;split
  . rename_i hs;exact a.input j4 hs
  . rename_i hs;exact a.skip j4 hs
theorem b2w{t:k7}{l:List Nat}{gd:List A8}{L:List p9}{x:p9}{st:H3}{ends:Bool}(h:SI' t l gd L L.length (st,ends) (some x) 0):∀k,k≤(G8 t x.x).length→SI' t l gd L L.length (((G8 t x.x).take k).foldl (arS t l gd x) st,ends) (some x) k
 |0,_=>h
 |k+1,c=>by
  have a:=b2w h k j4;rw[a5B _ _ (show k<(G8 t x.x).length by omega)];unfold arS;split
  . rename_i hs;exact a.a1n rfl j4 hs.1 hs.2
  . rename_i hs;exact a.not rfl j4 fun h1 b=>hs ⟨h1,b⟩
theorem c0D{α:Type}{l:List α}{x:α}(h:l.getLast?=some x):l=l.dropLast++[x]:=by obtain⟨y,a⟩:=List.getLast?_eq_some_iff.1 h;rw[a];simp
theorem b8y{L:List p9}{s:H3×Bool}(h:SI' t l gd L L.length s none 0):SI' t l gd L L.length (stO t l gd s) none 0:=by
 unfold stO;cases b:s.1.2.1.getLast? with
 |none=>exact h
 |some x=>
  have h1:SI t l gd L L.length s.1.1 (s.1.2.1.dropLast++[x]) s.1.2.2 s.2 none 0:=by rw[←c0D b];exact h
  have a:=b2w (st:=(s.1.1,s.1.2.1.dropLast,s.1.2.2)) h1.pop _ (p7 _);rw[K8]at a;exact a.next
def msO(T:Nat)(K O:List p9):Nat:=2*(T-K.length)+O.length
theorem d0Z{T:Nat}(st:H3)(h:p9)(a:(a5a st h).1.length≤T):msO T (a5a st h).1 (a5a st h).2.1≤msO T st.1 st.2.1∧st.1.length≤(a5a st h).1.length:=by
 unfold a5a W5 a1m msO at*
 grind
theorem c3A(t:k7)(l:List Nat)(gd:List A8)(x:p9)(st:H3)(a:Nat×Nat):st.1.length≤(arS t l gd x st a).1.length:=by
 unfold arS;split
 . unfold a5a W5;simp only;split<;>simp
 . exact p7 _
theorem b9u{t:k7}{l:List Nat}{gd:List A8}{x:p9}{T:Nat}:∀(A:List (Nat×Nat)) (st:H3),(A.foldl (arS t l gd x) st).1.length≤T→msO T (A.foldl (arS t l gd x) st).1 (A.foldl (arS t l gd x) st).2.1≤msO T st.1 st.2.1∧st.1.length≤(A.foldl (arS t l gd x) st).1.length
 | [],st,_=>⟨p7 _,p7 _⟩
 |a::A,st,h=>by
  rw[a4e]at h⊢;obtain⟨h1,b⟩:=b9u A _ h;have c:=c3A t l gd x st a;refine⟨U3 h1 ?_,j4⟩;unfold arS at h b c⊢;split
  . rename_i hs;rw[if_pos hs]at b h;exact(d0Z st _ j4).1
  . exact p7 _
theorem b8c(b:s7 t)(c:RDs t l gd){L:List p9}{s:H3×Bool}(h:SI' t l gd L L.length s none 0)(d:s.1.2.1≠ []):msO (a0A t l L) (stO t l gd s).1.1 (stO t l gd s).1.2.1<msO (a0A t l L) s.1.1 s.1.2.1:=by
 have hb:=(b8y h).bound b c;obtain⟨x,a⟩:∃x,s.1.2.1.getLast?=some x:=by
  cases a:s.1.2.1.getLast? with
  |none=>exact absurd (List.getLast?_eq_none_iff.1 a) d
  |some x=>exact⟨x,rfl⟩
 have e:=congrArg List.length (c0D a);simp only[Z9,b2g]at e;unfold stO at hb⊢;rw[a]at hb⊢;have:=(b9u (t:=t) (l:=l) (gd:=gd) (x:=x) (T:=a0A t l L) (G8 t x.x) (s.1.1,s.1.2.1.dropLast,s.1.2.2) hb).1;refine Nat.lt_of_le_of_lt this ?_;unfold msO;simp only;omega
theorem c5d{s:H3×Bool}(h:s.1.2.1=[]):∀n,rnO t l gd n s=s
 |0=>rfl
 |n+1=>by unfold rnO;rw[if_pos h]
theorem b6B{t:k7}(b:s7 t){l:List Nat}{gd:List A8}(c:RDs t l gd){L:List p9}:∀(n:Nat) (s:H3×Bool),SI' t l gd L L.length s none 0→msO (a0A t l L) s.1.1 s.1.2.1≤n→SI' t l gd L L.length (rnO t l gd n s) none 0∧(rnO t l gd n s).1.2.1=[]
 |0,s,h,hm=>by
  refine⟨h,?_⟩;unfold msO at hm;exact a0U.1 (by show s.1.2.1.length=0;omega)
 |n+1,s,h,hm=>by
  unfold rnO;by_cases a:s.1.2.1=[]
  . rw[if_pos a];exact⟨h,a⟩
  . rw[if_neg a];exact b6B b c n _ (b8y h) (by have:=b8c b c h a;omega)
theorem c1N(b:s7 t)(c:RDs t l gd)(L:List p9):msO (a0A t l L) (L.foldl (inS gd) ([],[],[])).1 (L.foldl (inS gd) ([],[],[])).2.1≤2*a0A t l L:=by
 have key:∀(M:List p9) (st:H3),st.2.1.length≤st.1.length→(M.foldl (inS gd) st).2.1.length≤(M.foldl (inS gd) st).1.length:=by
  intro M
  induction M with
  |nil=>intro st h;exact h
  |cons h M d=>
   intro st hs;rw[a4e];refine d _ ?_;unfold inS;split
   . unfold a5a W5 a1m
     grind
   . exact hs
 have h1:=b0z t l gd L L.length (p7 _);rw[K8]at h1;have a:=h1.bound b c;have e:=key L ([],[],[]) k8;unfold msO;simp only at a;show 2*(a0A t l L-_)+_≤_;have:(L.foldl (inS gd) ([],[],[])).1.length≤a0A t l L:=a;omega
theorem a9e(a:s7 t)(b:RDs t l gd)(L:List p9):SpR t l gd L (X8 t l gd L).1.2.2 (X8 t l gd L).2:=by
 have h1:=b0z t l gd L L.length (p7 _);rw[K8]at h1;obtain⟨c,d⟩:=b6B a b (2*a0A t l L) _ h1 (c1N a b L);have f:SI t l gd L L.length (X8 t l gd L).1.1 [] (X8 t l gd L).1.2.2 (X8 t l gd L).2 none 0:=by have e:(X8 t l gd L).1.2.1=[]:=d;have:=c;unfold SI' at this;rw[show rnO t l gd (2*a0A t l L) (L.foldl (inS gd) ([],[],[]),false)=X8 t l gd L from rfl,e]at this;exact this
 exact f.end_
end
theorem d1q(t:k7)(l:List Nat)(gd:List A8)(K E:List p9)(n:Nat)(F:List p9)(R6 R7 R8 R10 R11 R12 R13:Row)(g14 g16 v18 v19 i x:Nat):FI Tryz.prog (.fn (.func 86) [] []) [RD t l gd,.agg [IN i,IN x]] (HS t l gd K E n F R6 R7 R8 R10 R11 R12 R13 g14 g16 v18 v19)
 (.fn (.func 118) [] [.ptr 10 (R10.1+1) 0,.ptr 11 (R11.1+1) 0]) [(10,(R10.1+1,.var [RD t l gd])),(11,(R11.1+1,.var [IN i,IN x]))]:=by
 refine a3q mixed (X:=X86) c86 (by rfl) (by simp[X86]) k8 fun Q a b=>?_;simp[X86,HS];refine a _ _ ?_;simp[X86,L3]
theorem b8w{α:Type} [DecidableEq α]{L:List α}{x:α}{n:Nat}(h:L.idxOf? x=some n):x∈L∧n<L.length:=by
 constructor
 . refine Decidable.byContradiction fun hm=>?_;rw[a3a.2 hm]at h;cases h
 . rw[List.idxOf?,a1W]at h;exact h.1
theorem b3x(t:k7)(r:s7 t)(l:List Nat)(bc:l.length≤1100000000)(gd:List A8)(I:RDs t l gd)(L:List p9)(ao:a0A t l L≤4000000000000):
 F0 88 [3,0] [RD t l gd,.slc (L.map HQ)] (.tup [.uslc ((X8 t l gd L).1.2.2.map HQ),B (X8 t l gd L).2]):=by
 have bd:=a1F r;have ap:(S5 t).length=(j8 t).length:=by simp[S5]
 have aG:(gL (E3 t) t).length=(j8 t).length:=by simp[gL]
 have V:∀{j m:Nat} {K O F:List p9} {ends:Bool} {cur:Option p9},SI t l gd L j K O F ends cur m→K.length≤4000000000000∧F.length≤K.length:=fun h=>by have h1:=h.bound r I;refine⟨U3 h1 ao,?_⟩;rw[h.fnd];exact List.length_filter_le _ _
 have be:L.length≤4000000000000:=by unfold a0A at ao;omega
 refine E1 c88 20 (by simp[X88]) fun Q aH aq=>?_;simp[X88];refine F5 (fun(y:Nat×List p9×List p9×Nat×List p9×Row×Row×Nat×Nat×Nat×PV×PV×PV) vs h=>y.1≤L.length∧(y.2.1,y.2.2.1.take y.2.2.2.1,y.2.2.2.2.1)=(L.take y.1).foldl (inS gd) ([],[],[])∧y.2.2.2.1≤y.2.2.1.length∧y.2.2.1.length≤y.2.1.length∧
  vs=[RD t l gd,.slc (L.map HQ),.ptr 0 1 0,.nils,B false,.ptr 2 1 0,.ptr 3 1 0,.ptr 4 1 0,.ptr 5 1 0,B false,y.2.2.2.2.2.2.2.2.2.2.1,.uu,.uu,.uu,.slc (L.map HQ),IN L.length,IN y.1,y.2.2.2.2.2.2.2.2.2.2.2.1,y.2.2.2.2.2.2.2.2.2.2.2.2,.uu,.uu,.uu,.uu,.uu,.uu]∧
  h=HS t l gd y.2.1 y.2.2.1 y.2.2.2.1 y.2.2.2.2.1 y.2.2.2.2.2.1 dd dd dd dd dd y.2.2.2.2.2.2.1 y.2.2.2.2.2.2.2.1 y.2.2.2.2.2.2.2.2.1 y.2.2.2.2.2.2.2.2.2.1 0) (fun y=>L.length-y.1)
  (0,[],[],0,[],dd,dd,0,0,0,.uu,.uu,.uu) ⟨E0 _,rfl,p7 _,p7 _,rfl,rfl⟩ ?_
 rintro⟨j,K,E,n,F,R6,R13,g14,g16,v18,w10,w17,w18⟩ vs h ⟨ar,u,J,M,rfl,rfl⟩ Q2 au aI bf;dsimp only at ar u J M;have P:=b0z t l gd L j ar;rw[←u]at P;obtain⟨av,aw⟩:=V P;dsimp only at av aw;by_cases hj:j<L.length
 . have ax:=wk1 j j4;have f:=a5B (inS gd) ([],[],[]) hj;rw[←u]at f;obtain⟨x,g⟩:=s8 (L[j]);rw[←g]at f;cases hid:gd.idxOf? x.s with
   |some m=>
    obtain⟨W,Y⟩:=b8w hid;have e:inS gd (K,E.take n,F) x=(W5 K x,a1m K (E.take n) x,a2M K F x):=(by unfold inS;rw[if_pos W];rfl);rw[e]at f;obtain⟨E',b,R13',aJ,aK,aL,ws,d,z2,z3,z4,z5,aM⟩:=c0d t l gd K E n F (R6.1+1,.var [IN x.p,IN x.x,St x.r]) dd dd dd dd dd R13 g14 g16 v18 0 x J M j4 j4 (fun y Z=>(P.opn y Z).1);simp[HS,hj,←g,hid,Y];refine a5y z5 aM rfl ?_;simp[HS,ax];exact au (j+1,W5 K x,E',b,a2M K F x,_,R13',aJ,aK,aL,_,_,_) _ _ u7 ⟨u7,by dsimp only;rw[d];exact f.symm,z2,z3,rfl,rfl⟩
   |none=>
    have e:inS gd (K,E.take n,F) x=(K,E.take n,F):=(by unfold inS;rw[if_neg (a3a.1 hid)]);rw[e]at f;simp[HS,hj,←g,hid,ax];exact au (j+1,K,E,n,F,_,R13,g14,g16,v18,_,_,_) _ _ u7 ⟨u7,f.symm,J,M,rfl,rfl⟩
 . obtain rfl:j=L.length:=j4;rw[K8]at u;simp[HS];refine aI _ _ _ ?_;simp;have aN:X8 t l gd L=rnO t l gd (2*a0A t l L) ((K,E.take n,F),false):=(by unfold X8;rw[←u]);have aO:msO (a0A t l L) K (E.take n)≤2*a0A t l L:=by
    have:=c1N r I L;rw[←u]at this;exact this
   refine F5 (fun(y:Nat×List p9×List p9×Nat×List p9×Bool×Row×Row×Row×Row×Row×Row×Nat×Nat×Nat×PV×PV×PV×PV) vs h=>X8 t l gd L=rnO t l gd y.1 ((y.2.1,y.2.2.1.take y.2.2.2.1,y.2.2.2.2.1),y.2.2.2.2.2.1)∧msO (a0A t l L) y.2.1 (y.2.2.1.take y.2.2.2.1)≤y.1∧SI t l gd L L.length y.2.1 (y.2.2.1.take y.2.2.2.1) y.2.2.2.2.1 y.2.2.2.2.2.1 none 0∧y.2.2.2.1≤y.2.2.1.length∧y.2.2.1.length≤y.2.1.length∧
    vs=[RD t l gd,.slc (L.map HQ),.ptr 0 1 0,.nils,B false,.ptr 2 1 0,.ptr 3 1 0,.ptr 4 1 0,.ptr 5 1 0,B y.2.2.2.2.2.1,w10,y.2.2.2.2.2.2.2.2.2.2.2.2.2.2.2.1,.uu,.uu,.slc (L.map HQ),IN L.length,IN L.length,.bool false,w18,y.2.2.2.2.2.2.2.2.2.2.2.2.2.2.2.2.1,y.2.2.2.2.2.2.2.2.2.2.2.2.2.2.2.2.2.1,y.2.2.2.2.2.2.2.2.2.2.2.2.2.2.2.2.2.2,.uu,.uu,.uu]∧
    h=HS t l gd y.2.1 y.2.2.1 y.2.2.2.1 y.2.2.2.2.1 R6 y.2.2.2.2.2.2.1 y.2.2.2.2.2.2.2.1 y.2.2.2.2.2.2.2.2.1 y.2.2.2.2.2.2.2.2.2.1 y.2.2.2.2.2.2.2.2.2.2.1 y.2.2.2.2.2.2.2.2.2.2.2.1 y.2.2.2.2.2.2.2.2.2.2.2.2.1 y.2.2.2.2.2.2.2.2.2.2.2.2.2.1 y.2.2.2.2.2.2.2.2.2.2.2.2.2.2.1 0) (fun y=>y.1)
    (2*a0A t l L,K,E,n,F,false,dd,dd,dd,dd,dd,_,_,_,_,.uu,.uu,.uu,.uu) ⟨aN,aO,P,J,M,rfl,rfl⟩ ?_
   rintro⟨m,K,E,n,F,ends,R7,R8,R10,R11,R12,R13,g14,g16,v18,w11,w19,w20,w21⟩ vs h ⟨d,z2,z3,z4,z5,rfl,rfl⟩ Q3 aP aQ bg;dsimp only at d z2 z3 z4 z5;obtain⟨av,aw⟩:=V z3;cases n with
   |zero=>
    rw[List.take_zero,c5d rfl]at d;simp[HS];refine aQ _ _ _ ?_;simp;refine U5 (c5T t l gd K E 0 F R6 R7 R8 R10 R11 R12 R13 g14 g16 v18 0) ?_;simp;refine aH _ _ ?_;simp[X88,d]
   |succ n=>
    generalize aq:n+1=N at d z2 z3 z4⊢;have aa:IntKind.i64.wrap ((N:Int)-1)=(n:Int):=(by rw[wrap_ok j4 j4];omega);have ab:0<N:=j4;have ac:n<N:=j4;have ad:n≤N:=j4;have R:n<E.length:=j4;obtain⟨x,g⟩:=s8 (E[n]);have aR:E.take N=E.take n++[x]:=(by rw[←aq,J5,l9 R,g];rfl);rw[aR]at d z2 z3;have aS:=z3.opn x k8;have aT:=(z3.sound x aS.1).b6U;have ay:=(I.snd _ _ aT).1;have w:=ay.1;have aU:x.p≤l.length:=ay.2.1;have f:(j8 t).getD x.x D5=(j8 t)[x.x]:=(by rw[B0,l9 w];rfl);have az:(S5 t)[x.x]'j4=B8 t (j8 t)[x.x]:=(by simp only[S5,a0V]);have aA:=z3.pop;obtain⟨A,o⟩:=s8 (G8 t x.x);have aV:(gL (E3 t) t)[x.x]'j4=A:=(by rw[o];unfold G8;rw[B0,l9 j4];rfl);have bh:A.length≤64:=o▸a6p r x.x;have aW:∀a∈A,a.1<t.rules.length∧a.2<(j8 t).length∧1≤A0 t a.1∧A0 t a.1≤4:=fun a aX=>a4B r w (o▸aX);obtain⟨v,S⟩:∃v,v=(ends||(decide (x.p=l.length)&&B8 t ((j8 t).getD x.x D5))):=⟨_,rfl⟩
    rw[←S]at aA;have ae:stO t l gd ((K,E.take n++[x],F),ends)=(A.foldl (arS t l gd x) (K,E.take n,F),v):=by unfold stO;simp only[List.getLast?_append,List.getLast?_singleton,Option.some_or];rw[List.dropLast_concat,←o,S]
    have bi:0<m:=(by unfold msO at z2;simp at z2;omega);obtain⟨T,aY⟩:∃T,m=T+1:=⟨m-1,j4⟩
    have af:=b8c r I (s:=((K,E.take n++[x],F),ends)) z3 k8;rw[ae]at af;have aB:rnO t l gd m ((K,E.take n++[x],F),ends)=rnO t l gd T (A.foldl (arS t l gd x) (K,E.take n,F),v):=by
     rw[aY]
     conv=>lhs;unfold rnO
     rw[if_neg k8,ae]
    rw[aB]at d;have aZ:v=true∧(x.p=l.length∧B8 t (j8 t)[x.x]=true)∨v=ends∧¬(x.p=l.length∧B8 t (j8 t)[x.x]=true):=by
     rw[S,f];by_cases h1:x.p=l.length
     . cases aC:B8 t (j8 t)[x.x]<;>simp[h1]
     . simp[h1]
    clear S ae aB;rcases aZ with⟨rfl,a0,ag⟩|⟨rfl,a1⟩
    case' inl=>
     simp[HS,aa,ab,ac,ad,R,←g,eq_true a0,ap,w,az,ag]
    case' inr=>
     by_cases ah:x.p=l.length
     case' pos=>
      have ag:B8 t (j8 t)[x.x]=false:=by
       cases aC:B8 t (j8 t)[x.x]with
       |false=>rfl
       |true=>exact absurd ⟨ah,aC⟩ a1
      simp[HS,aa,ab,ac,ad,R,←g,eq_true ah,ap,w,az,ag]
     case' neg=>
      simp[HS,aa,ab,ac,ad,R,←g,eq_false ah]
    all_goals
     refine U5 (d1q t l gd K E n F R6 (R7.1+1,.var [IN x.p,IN x.x,St x.r]) R8 R10 R11 R12 R13 g14 g16 v18 0 x.p x.x) ?_;simp[HS];refine b3b mixed (X:=a4a) b3W rfl (by rfl) (by simp[a4a]) k8 ?_;intro a2 Q4 bj a3;simp[a4a,aG,w,aV];refine F5 (fun(y:Nat×List p9×List p9×Nat×List p9×Row×Row×Row×Nat×Nat×Nat×PV×PV×PV) vs h=>y.1≤A.length∧(y.2.1,y.2.2.1.take y.2.2.2.1,y.2.2.2.2.1)=(A.take y.1).foldl (arS t l gd x) (K,E.take n,F)∧y.2.2.2.1≤y.2.2.1.length∧y.2.2.1.length≤y.2.1.length∧
      vs=[.fn (.yield a2) [] [],.ptr 10 (R10.1+1) 0,.ptr 11 (R11.1+1) 0,y.2.2.2.2.2.2.2.2.2.2.2.1,SG t A,IN A.length,IN y.1,y.2.2.2.2.2.2.2.2.2.2.2.2.1,y.2.2.2.2.2.2.2.2.2.2.2.2.2,gOf none]∧
      h=HS t l gd y.2.1 y.2.2.1 y.2.2.2.1 y.2.2.2.2.1 R6 (R7.1+1,.var [IN x.p,IN x.x,St x.r]) y.2.2.2.2.2.1 (R10.1+1,.var [RD t l gd]) (R11.1+1,.var [IN x.p,IN x.x]) y.2.2.2.2.2.2.1 y.2.2.2.2.2.2.2.1 y.2.2.2.2.2.2.2.2.1 y.2.2.2.2.2.2.2.2.2.1 y.2.2.2.2.2.2.2.2.2.2.1 0) (fun y=>A.length-y.1)
      (0,K,E,n,F,R8,R12,R13,g14,g16,v18,.uu,.uu,.uu) ⟨E0 _,rfl,u7,z5,rfl,rfl⟩ ?_
     rintro⟨k,K',E',b,F',R8,R12,R13,g14,g16,v18,v3,v7,v8⟩ vs h ⟨aD,z,C,D,rfl,rfl⟩ Q5 ai a4 bk;dsimp only at aD z C D;have G:=b2w (st:=(K,E.take n,F)) aA k (by rw[←o];exact aD);rw[←o,←z]at G;obtain⟨a5,a6⟩:=V G;dsimp only at a5 a6;by_cases aj:k<A.length
     . have ak:=wk1 k j4;obtain⟨bl,bm,bn,bo⟩:=aW _ (C4 aj);have p:=a5B (arS t l gd x) (K,E.take n,F) aj;rw[←z]at p;have al:=b1L (cls t A[k].1) (l.drop x.p) (by have:A0 t A[k].1=(cls t A[k].1).length:=rfl;omega);have am:=a8y (cls t A[k].1) (l.drop x.p);obtain⟨c,a7⟩:=s8 (V2 (cls t A[k].1) (l.drop x.p));rw[←a7]at al am;simp only[CL,a2X]at al;have a8:List.take (l.length-x.p) (List.drop x.p (l.map UN))=(l.map UN).drop x.p:=a0t k8;simp[HS,aj,aU,a8];refine l8 al ?_;by_cases H:c=(cls t A[k].1).length
       . have U:fits t l x.p A[k].1:=am.1 H;have bp:=a5I U;have aE:A0 t A[k].1=c:=H.symm;have aF:IntKind.i64.wrap ((x.p:Int)+(c:Int))=((x.p+c:Nat):Int):=T3;obtain⟨q,an⟩:=s8 (x.p+c);rw[←an]at aF;simp[←H,aF];refine a5c rfl rfl ?_;cases hid:gd.idxOf? (A8.mk q A[k].2)with
         |some i=>
          obtain⟨W,Y⟩:=b8w hid;have e:arS t l gd x (K',E'.take b,F') A[k]=(W5 K' ⟨q,A[k].2,prt t A[k].1⟩,a1m K' (E'.take b) ⟨q,A[k].2,prt t A[k].1⟩,a2M K' F' ⟨q,A[k].2,prt t A[k].1⟩):=by unfold arS;rw[aE,←an,if_pos ⟨U,W⟩];rfl
          rw[e]at p;obtain⟨E2,a9,R132,ba,bb,v182,ws,w1,w2,w3,w4,w5,w6⟩:=c0d t l gd K' E' b F' R6 (R7.1+1,.var [IN x.p,IN x.x,St x.r]) (R8.1+1,.var [IN q,IN A[k].2]) (R10.1+1,.var [RD t l gd]) (R11.1+1,.var [IN x.p,IN x.x]) (R12.1+1,.var [St (prt t A[k].1),CL (cls t A[k].1),IN A[k].2]) R13 g14 g16 v18 0 ⟨q,A[k].2,prt t A[k].1⟩ C D j4 j4 (fun y Z=>(G.opn y Z).1);simp[a5F,hid,Y];refine a5y w5 w6 rfl ?_;simp[HS,ak];exact ai (k+1,W5 K' ⟨q,A[k].2,prt t A[k].1⟩,E2,a9,a2M K' F' ⟨q,A[k].2,prt t A[k].1⟩,_,_,R132,ba,bb,v182,_,_,_) _ _ u7 ⟨u7,by dsimp only;rw[w1];exact p.symm,w2,w3,rfl,rfl⟩
         |none=>
          have e:arS t l gd x (K',E'.take b,F') A[k]=(K',E'.take b,F'):=by unfold arS;rw[aE,←an,if_neg fun h=>a3a.1 hid h.2]
          rw[e]at p;simp[a5F,hid,ak];exact ai (k+1,K',E',b,F',_,_,R13,g14,g16,v18,_,_,_) _ _ u7 ⟨u7,p.symm,C,D,rfl,rfl⟩
       . have U:¬fits t l x.p A[k].1:=fun h=>H (am.2 h);have e:arS t l gd x (K',E'.take b,F') A[k]=(K',E'.take b,F'):=by
          unfold arS;rw[if_neg fun h=>U h.1]
         rw[e]at p;simp[H,ak];exact ai (k+1,K',E',b,F',R8,_,R13,g14,g16,v18,_,_,_) _ _ u7 ⟨u7,p.symm,C,D,rfl,rfl⟩
     . obtain rfl:k=A.length:=j4;rw[K8]at z;rw[←z]at d af;rw[o]at G;simp;refine a4 _ _ _ ?_;simp;refine a3 none _ _ (by rfl) ?_;simp;exact aP (T,K',E',b,F',_,_,R8,_,_,R12,R13,g14,g16,v18,_,_,_,_) _ _ u7 ⟨d,by dsimp only at af⊢;omega,G.next,C,D,rfl,rfl⟩
section
variable{t:k7}{l:List Nat}{gd:List A8}{u:By}{h:p9}{H:List p9}{b:Nat}
inductive Hd(t:k7)(l:List Nat)(gd:List A8):By→p9→Prop
 |root:A8.mk 0 0∈gd→Hd t l gd [] ⟨0,0,[]⟩
 |step {u:By} {p x:Nat} {a:Nat×Nat}:Hd t l gd u ⟨p,x,[]⟩→a∈G8 t x→fits t l p a.1→A8.mk (p+A0 t a.1) a.2∈gd→Hd t l gd u ⟨p+A0 t a.1,a.2,prt t a.1⟩
 |byte {u:By} {p x:Nat} {b:UInt8} {r:By}:Hd t l gd u ⟨p,x,b::r⟩→Hd t l gd (u++[b]) ⟨p,x,r⟩
theorem Hd.path(j:s7 t)(n:RDs t l gd)(o:Hd t l gd u h):h.s∈gd∧∃q,E5 t start q=some ((j8 t).getD h.x D5)∧C5 t q=l.take h.p∧J8 t q=u++h.r:=by
 induction o with
 |root h=>
  refine⟨h,[],?_,by simp[C5],by simp[J8]⟩;show some start=_;rw[B0,a2t j];rfl
 | @step u p x a _ s v w c=>
  obtain⟨g,q,d,f,i⟩:=c;have k:=(n.snd _ _ g).1;obtain⟨s',m,A,y,B⟩:=a6s k.1 s;have z:=a0g j (a2k k.1) m;refine⟨w,q++[a.1],?_,?_,?_⟩
  . rw[a5N,d];show(T.step t _ a.1).bind _=_;rw[m,y,a2z z];rfl
  . rw[b0n,f];have hd:=b0b v;have e:C5 t [a.1]=cls t a.1:=(by simp[C5,cls]);rw[e,List.take_add,hd];rw[show A0 t a.1=(cls t a.1).length from rfl,List.take_left]
  . rw[b7g,i];simp[J8,prt]
 | @byte u p x b r _ c=>
  obtain⟨g,q,d,f,i⟩:=c;exact⟨g,q,d,f,by rw[i];simp⟩
theorem b2i{t:k7}(a:s7 t):∀(q:List Nat) (s s':State),E5 t s q=some s'→(J8 t q).length≤4*(C5 t q).length
 | [],_,_,_=>by simp[J8]
 |k::q,s,s',h=>by
  obtain⟨s1,b,d⟩:=X1.1 (show(T.step t s k).bind (fun s'=>E5 t s' q)=some s' from h);have e:=b2i a q s1 s' d;have h1:=a7x a b;have c:=a2B b;have f:B7 t k≤4:=by unfold B7;rw[B0,l9 c];exact(a3d (a.sound _ (C4 c))).p4
  rw[b0L,a3L,Z9];have:((t.rules.getD k default).print).length=B7 t k:=rfl;omega
theorem Hd.len(a:s7 t)(b:RDs t l gd)(c:Hd t l gd u h):u.length+h.r.length≤4*l.length:=by obtain⟨_,q,d,e,f⟩:=c.path a b;have h1:=b2i a q _ _ d;rw[f,e,Z9,a1V]at h1;omega
def S8(t:k7)(l:List Nat)(x:By):Prop:=∃q a,E5 t start q=some a∧B8 t a=true∧C5 t q=l∧J8 t q=x
theorem Hd.bytes{t:k7}{l:List Nat}{gd:List A8}{p x:Nat}:∀{r u:By},Hd t l gd u ⟨p,x,r⟩→Hd t l gd (u++r) ⟨p,x,[]⟩
 | [],u,h=>by rw[a1v];exact h
 |b::r,u,h=>by
  have:=Hd.bytes (Hd.byte h)
  grind
theorem S8.hd{t:k7}(d:s7 t){l:List Nat}{gd:List A8}(b:RDs t l gd):∀(q:List Nat) (u:By) (p x:Nat) (a:State),Hd t l gd u ⟨p,x,[]⟩→E5 t ((j8 t).getD x D5) q=some a→B8 t a=true→C5 t q=l.drop p→∃y,Hd t l gd (u++J8 t q) ⟨l.length,y,[]⟩∧B8 t ((j8 t).getD y D5)=true
 | [],u,p,x,a,h,h1,c,f=>by
  have e:=(b.snd _ _ (h.path d b).1).1;obtain rfl:=U4 h1;have:(l.drop p).length=0:=by rw[←f];rfl
  rw[a4O]at this;have hp:p=l.length:=by have:=e.2.1;simp only at this;omega
  refine⟨x,?_,c⟩;rw[←hp];simpa[J8]using h
 |k::q,u,p,x,a,h,h1,c,f=>by
  have i:=(h.path d b).1;have e:=(b.snd _ _ i).1;obtain⟨s1,j,g⟩:=X1.1 (show(T.step t _ k).bind (fun s'=>E5 t s' q)=some a from h1);have hd:l.drop p=cls t k++C5 t q:=by rw[←f];rfl
  obtain⟨f1,f2⟩:=b4W hd;have m:=a0g d (a2k e.1) j;have n:Live t s1:=⟨q,a,g,c⟩
  have hm:=b0J e.1 j n;have o:Good t l (p+A0 t k) (S7 t s1):=⟨q,a,by rw[a2z m];exact g,c,f2.symm⟩
  have r:=b.next p x i _ hm f1 o;obtain⟨y,s,v⟩:=S8.hd d b q (u++prt t k) (p+A0 t k) (S7 t s1) a (Hd.bytes (Hd.step h hm f1 r)) (by rw[a2z m];exact g) c f2.symm;refine⟨y,?_,v⟩;rw[a3L,←a2o];exact s
theorem b1d(d:s7 t)(f:RDs t l gd)(x:By):S8 t l x↔∃y,Hd t l gd x ⟨l.length,y,[]⟩∧B8 t ((j8 t).getD y D5)=true:=by
 constructor
 . rintro⟨q,g,a,b,c,k⟩;have e:(j8 t).getD 0 D5=start:=(by rw[B0,a2t d];rfl);have h:Good t l 0 0:=⟨q,g,by rw[e];exact a,b,by simpa using c⟩
   have:=S8.hd d f q [] 0 0 g (.root (f.root h)) (by rw[e];exact a) b (by simpa using c)
   grind
 . rintro⟨y,i,j⟩;obtain⟨_,q,a,b,c⟩:=i.path d f;exact⟨q,_,a,j,by simpa using b,by simpa using c⟩
def O6(H:List p9)(b:Nat):List p9:=H.filterMap fun h=>match h.r with
 | []=>none
 |c::r=>if c.toNat=b then some ⟨h.p,h.x,r⟩else none
def isF(H:List p9)(b:Nat):Bool:=H.any fun h=>match h.r with
 | []=>false
 |c::_=>decide (c.toNat=b)
def S6(H:List p9)(nx:Nat):List Nat:=(List.range' nx (256-nx)).filter (isF H)
def FrO(t:k7)(l:List Nat)(gd:List A8)(u:By)(H:List p9):Prop:=∀h,h∈H↔Hd t l gd u h∧h.r≠ []
theorem a6m:isF H b=true↔∃h∈H,∃c r,h.r=c::r∧c.toNat=b:=by
 unfold isF
 grind
theorem b8O:h∈O6 H b↔∃c:UInt8,c.toNat=b∧p9.mk h.p h.x (c::h.r)∈H:=by
 unfold O6;rw[a9J];constructor
 . rintro⟨y,d,e⟩;obtain⟨p,x,r⟩:=y
   grind
 . rintro⟨c,h1,a⟩;exact⟨_,a,by simp[h1]⟩
theorem Sp.behind(j:FrO t l gd u H){c:UInt8}(k:c.toNat=b):Sp t l gd (O6 H b) h↔Hd t l gd (u++[c]) h:=by
 constructor
 . intro hs
   induction hs with
   | @base h h1 a=>
    obtain⟨c',e,f⟩:=b8O.1 h1;have:c'=c:=by apply a6e.1;rw[e,k]
    subst this;exact .byte ((j _).1 f).1
   |step _ a f g d=>exact .step d a f g
 . intro hd;generalize i:u++[c]=v at hd
   induction hd with
   |root=>simp at i
   |step _ a f g d=>exact .step (d i) a f g
   | @byte m p x b' r h1 d=>
    obtain⟨rfl,e⟩:=List.append_inj' i rfl;simp only[List.cons.injEq,and_true]at e;subst e;have hm:=(j ⟨p,x,c::r⟩).2 ⟨h1,k8⟩;refine .base (b8O.2 ⟨c,k,hm⟩) ?_;have:∀{u:By} {h:p9},Hd t l gd u h→h.s∈gd:=fun h=>by
     induction h with
     |root h=>exact h
     |step _ _ _ h _=>exact h
     |byte _ d=>exact d
    have a:A8.mk p x∈gd:=this (h:=⟨p,x,c::r⟩) h1;exact a
theorem Sp.root{t:k7}{l:List Nat}{gd:List A8}{h:p9}:Sp t l gd [⟨0,0,[]⟩] h↔Hd t l gd [] h:=by
 constructor
 . intro hs
   induction hs with
   |base h1 a=>
    simp only[H5]at h1;subst h1;exact .root a
   |step _ a b c d=>exact .step d a b c
 . intro hd;generalize e:([]:By)=v at hd
   induction hd with
   |root h=>exact .base k8 h
   |step _ a b c d=>exact .step (d e) a b c
   |byte=>simp at e
theorem FrO.next(f:s7 t)(g:RDs t l gd)(a:FrO t l gd u H){c:UInt8}(d:c.toNat=b):FrO t l gd (u++[c]) (X8 t l gd (O6 H b)).1.2.2∧((X8 t l gd (O6 H b)).2=true↔S8 t l (u++[c])):=by
 have hs:=a9e f g (O6 H b);refine⟨fun h=>?_,?_⟩
 . rw[hs.mem,Sp.behind a d]
 . rw[hs.fin,b1d f g];constructor
   . rintro⟨x,h1,e⟩;exact⟨x,(Sp.behind a d).1 h1,e⟩
   . rintro⟨x,h1,e⟩;exact⟨x,(Sp.behind a d).2 h1,e⟩
theorem FrO.first(b:s7 t)(c:RDs t l gd):FrO t l gd [] (X8 t l gd [⟨0,0,[]⟩]).1.2.2∧((X8 t l gd [⟨0,0,[]⟩]).2=true↔S8 t l []):=by
 have hs:=a9e b c [⟨0,0,[]⟩];refine⟨fun h=>?_,?_⟩
 . rw[hs.mem,Sp.root]
 . rw[hs.fin,b1d b c];constructor
   . rintro⟨x,h1,a⟩;exact⟨x,Sp.root.1 h1,a⟩
   . rintro⟨x,h1,a⟩;exact⟨x,Sp.root.2 h1,a⟩
end
end Go.Proofs.YtmhbdebagfhimaaGreatDoor.T
