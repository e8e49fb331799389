/-
  The plain machine, that it is sound, and walks: part 5 (joined and shortened by a program of the prover's).
-/
import Derived.Test.YtbhfgadikmfjdaaGreatP4
import Derived.Test.YtbhfgadikmfjdaaGreatProg
import Derived.KernelRfl
set_option linter.unusedSimpArgs false
set_option linter.unusedVariables false
set_option linter.unusedSectionVars false
namespace Go.Proofs.YtbhfgadikmfjdaaGreat.T
open Go.Proofs.YtbhfgadikmfjdaaGreat.Am
set_option maxHeartbeats 16000000
section
variable{p i:Nat}{c:List (List Nat)}
def RS(p:Nat)(c:List (List Nat)):List PV:=(List.range c.length).map fun i=>if i<p then DS (c.getD i [])else FW (c.getD i [])
theorem a5v(p:Nat)(c:List (List Nat)):(RS p c).length=c.length:=by simp[RS]
theorem b2k(hi:i<c.length):(RS p c)[i]?=some (if i<p then DS (c.getD i [])else FW (c.getD i [])):=by simp[RS,hi]
theorem b5e(p:Nat)(c:List (List Nat)):∀x,x∈RS p c→D4 x=true:=fun x hx=>by
 obtain⟨i,_,rfl⟩:=E9.1 hx;by_cases h:i<p
 . rw[if_pos h];unfold DS;split<;>rfl
 . rw[if_neg h];unfold FW;split<;>rfl
theorem b6N(l:List Nat)(hp:p≤i):(RS p c).set i (FW l)=RS p (c.set i l):=by
 apply a0t (by simp[RS]);intro j h1 h2;have hj:j<c.length:=by simpa[RS]using h1
 have e:=U0 c i j l [];rw[a4a];simp only[RS,a1e,a4G]
 grind
theorem c5R:(RS p c).set p (DS (c.getD p []))=RS (p+1) c:=by
 apply a0t (by simp[RS]);intro j h1 h2;have hj:j<c.length:=by simpa[RS]using h1
 rw[a4a];simp only[RS,a1e,a4G]
 grind
theorem c2e(n:Nat):RS 0 (List.replicate n [])=List.replicate n .nils:=by
 refine a7M.2 ⟨by simp[RS],fun b hb=>?_⟩;obtain⟨i,hi,rfl⟩:=E9.1 hb
 grind
theorem c2X(p n:Nat):RS p (List.replicate n [])=List.replicate n .nils:=by
 refine a7M.2 ⟨by simp[RS],fun b hb=>?_⟩;obtain⟨i,hi,rfl⟩:=E9.1 hb
 grind
abbrev HW(p:Nat)(c:List (List Nat))(kn:List u7)(ver:Nat)(R4 R5:Row)(g6 g7 g8:Nat):l5:=
 [(1,.arr 1 ver false (RS p c)),(1,.var [.own 0 1 c.length 1 0 c.length]),(1,.mp false (kn.map SQ) (kn.map TR)),(1,.var [.mapv 2 1]),R4,R5,(g6,.dead),(g7,.dead),(g8,.dead)]
theorem c1e{t:j9}{l:List Nat}{sp x:Nat}{kn:List u7}(ver:Nat)(R4 R5:Row)(g6 g7 g8:Nat)(h:WI t l p c kn)(hl:l.length≤1100000000)(hN:(j4 t).length≤3072)(hr:Reach t l i x)(hp:p≤i)(hsp:sp≤i):
 ∃c' kn' ver' R5' g6' g7' g8' ws,WI t l p c' kn'∧(∀j,∃l,c'.getD j []=c.getD j []++l)∧(∀j,j<i→c'.getD j []=c.getD j [])∧x∈c'.getD i []∧
  FI Tryz.prog (.fn (.func 109) [] [.ptr 3 1 0,.ptr 1 1 0]) [.agg [IN i,IN x]] (HW sp c kn ver R4 R5 g6 g7 g8) (.tup []) ws∧m6 (HW sp c kn ver R4 R5 g6 g7 g8) ws=HW sp c' kn' ver' R4 R5' g6' g7' g8':=by
 have hil:i<c.length:=by have:=h.len;have:=hr.2.1;omega
 by_cases hk:u7.mk i x∈kn
 . obtain⟨n,hn⟩:∃n,kn.idxOf? (u7.mk i x)=some n:=by
    cases hx:kn.idxOf? (u7.mk i x)with
    |none=>exact absurd hk (a2j.1 hx)
    |some n=>exact⟨n,rfl⟩
   have hnl:n<kn.length:=by rw[List.idxOf?,a1V]at hn;exact hn.1
   have hf:=c8q (RS sp c) kn i x R4 R5 (g6,.dead) (g7,.dead) (g8,.dead) ver n hn hnl;rw[a5v]at hf;exact⟨c,kn,ver,_,g6,g7,g8,_,h,fun j=>⟨[],k7⟩,fun _ _=>rfl,(h.kno i x).1 hk,hf,rfl⟩
 . have hlen:(c.getD i []).length≤(j4 t).length:=a3P _ _ (h.nodup i) fun y hy=>(h.sound i y hy).1;obtain⟨r,ws,⟨ver2,R5',g6',g7',g8',rfl,rfl⟩,hf⟩:=b5K (RS sp c) kn i x (c.getD i []) R4 R5 ver g6 g7 g8 (a2j.2 hk) (by rw[a5v];exact hil) (by rw[a5v,h.len];omega) (by rw[b2k hil,if_neg i9]) i9;rw[a5v,b6N _ hsp]at hf;refine⟨c.set i (c.getD i []++[x]),kn++[⟨i,x⟩],ver2,R5',g6',g7',g8',_,h.add hk hr hp,fun j=>?_,fun j hj=>?_,?_,hf,?_⟩
   . rw[U0];split
     . rename_i hh;exact⟨[x],by rw[hh.1]⟩
     . exact⟨[],k7⟩
   . rw[U0,if_neg i9]
   . grind
   . simp[m6]
structure WVu where
 (w8 w9 w10 w11 w15 w16 w17 w18 w19 w20 w21 w22 w23 w24:PV)
noncomputable abbrev GR(t:j9):PV:=.fptr [.slc ((gL (E0 t) t).map (SG t)),.slc ((O4 t).map B),.slc ((L4 t).map B)]
noncomputable abbrev VW(t:j9)(l:List Nat)(mo p:Nat)(x:WVu):List PV:=[GR t,CL l,.nils,I 0,.ptr 1 1 0,.ptr 3 1 0,.fn (.func 109) [] [.ptr 3 1 0,.ptr 1 1 0],IN mo,x.w8,x.w9,x.w10,x.w11,B false,IN (l.length+1),IN p,x.w15,x.w16,x.w17,x.w18,x.w19,x.w20,x.w21,x.w22,x.w23,x.w24]
def c6f(t:j9)(l:List Nat)(r:PV):Prop:=∃(c:List (List Nat)) (most:Int),r=.tup [.uslc (RS (l.length+1) c),I most]∧WE t l c∧ -1≤most∧most≤l.length
theorem c3y(t:j9)(ht:s5 t)(l:List Nat)(hl:l.length≤1100000000):∃r,c6f t l r∧F0 79 [1,0] [GR t,CL l] r:=by
 have hNN:=a1g ht;have hpos:=a1X ht;have haL:=a9S t;have hp0:0<(j4 t).length:=hpos;have q1:0≤(l.length:Int)+1:=i9;have q2:((l.length:Int)+1)*24≤140737488355328:=i9;have q3:(l.length:Int)+1≤9223372036854775807:=i9;have q4:((l.length:Int)+1).toNat=l.length+1:=i9;have hw0:IntKind.i64.wrap ((l.length:Int)+1)=(l.length:Int)+1:=O5;refine a2x mixed (X:=X79) c79 9 (by simp[X79]) (by kernel_rfl) fun Q hR hN=>?_;by_cases hlive:Live t start
 case neg=>
  have hA:(L4 t)[0]'i9=false:=by
   have h1:=c6J ht hlive
   grind
  have hE:WE t l (List.replicate (l.length+1) []):=WE.dead hlive;have hr2:=c2X (l.length+1) (l.length+1);simp[X79,hw0,q1,q2,q3,q4,haL,hp0,hA];refine hR _ _ _ ⟨_,-1,rfl,hE,i9,i9⟩ ?_;simp[X79,hr2]
 case pos=>
  have hA:(L4 t)[0]'i9=true:=by
   have h1:=c2h ht hlive
   grind
  simp[X79,hw0,q1,q2,q3,q4,haL,hp0,hA];have hf0:=b5K (List.replicate (l.length+1) .nils) [] 0 0 [] dd dd 0 0 0 0 rfl k7 I3 k7 k7;obtain⟨r,ws,⟨ver0,R50,g60,g70,g80,rfl,rfl⟩,hf0⟩:=hf0;have e0:(List.replicate (l.length+1) PV.nils).set 0 (FW ([]++[0]))=RS 0 ((List.replicate (l.length+1) []).set 0 [0]):=by rw[←b6N _ (m0 0),c2e];rfl
  rw[e0,List.length_replicate]at hf0;have hW0:=WI.start ht l;obtain⟨c0,hc0⟩:∃c,c=(List.replicate (l.length+1) []).set 0 [0]:=⟨_,rfl⟩
  rw[←hc0]at hf0 hW0;refine a4A (h1:=HW 0 c0 [⟨0,0⟩] ver0 dd R50 g60 g70 g80) hf0 (by simp[m6,HW,hW0.len]) rfl ?_;simp[HW,hW0.len];refine E3 (fun(y:Nat×List (List Nat)×List u7×Nat×Nat×Row×Row×Nat×Nat×Nat×WVu) vs h=>y.1≤l.length+1∧WI t l y.1 y.2.1 y.2.2.1∧y.2.2.2.1≤l.length∧vs=VW t l y.2.2.2.1 y.1 y.2.2.2.2.2.2.2.2.2.2∧h=HW y.1 y.2.1 y.2.2.1 y.2.2.2.2.1 y.2.2.2.2.2.1 y.2.2.2.2.2.2.1 y.2.2.2.2.2.2.2.1 y.2.2.2.2.2.2.2.2.1 y.2.2.2.2.2.2.2.2.2.1) (fun y=>l.length+1-y.1)
   (0,c0,[⟨0,0⟩],0,ver0,dd,R50,g60,g70,g80,⟨.uu,.uu,.uu,.uu,.uu,.uu,.uu,.uu,.uu,.uu,.uu,.uu,.uu,.uu⟩) ⟨C9 _,hW0,C9 _,rfl,by simp[HW,hW0.len]⟩ ?_
  rintro⟨p,c,kn,mo,ver,R4,R5,g6,g7,g8,⟨v8,v9,v10,v11,v15,v16,v17,v18,v19,v20,v21,v22,v23,v24⟩⟩ vs h ⟨y1,y2,y3,rfl,rfl⟩ Q2 hK2 hX2 hR2;dsimp only at y1 y2 y3;by_cases hp:p<l.length+1
  . have hpi:(p:Int)<(l.length:Int)+1:=i9;have hwp:=wk1 p i9;have hpc:p<c.length:=(by have:=y2.len;omega);have hRl:(RS p c).length=l.length+1:=(by rw[a5v,y2.len]);have hRg:=b2k (p:=p) hpc;rw[if_neg (Nat.lt_irrefl p)]at hRg;have hseal:=c5R (p:=p) (c:=c);obtain⟨L,hL⟩:=p8 (c.getD p []);rw[←hL]at hRg hseal;have hnd:L.Nodup:=hL▸y2.nodup p;have hLR:∀x∈L,Reach t l p x:=fun x hx=>y2.sound p x (hL▸hx);have hLN:L.length≤3072:=S7 (a3P _ _ hnd fun y hy=>(hLR y hy).1) hNN;by_cases hLe:L=[]
    . have hRp:(RS p c)[p]'i9=.nils:=by
       rw[l9 i9,hLe]at hRg;exact W6 hRg
      have hRs:RS p c=RS (p+1) c:=by
       rw[←hseal,hLe];apply a4F;intro j;rw[a6D];by_cases hj:p=j
       . grind
       . rw[if_neg hj]
      simp[HW,VW,hp,y2.len,hpi,hRl,hRp];refine E3 (fun(y:WVu) vs h=>vs=VW t l mo p {y with w8:=IN p,w15:=B true,w16:=.nils,w17:=IN 0,w18:=IN 0}∧h=HW p c kn ver R4 R5 g6 g7 g8) (fun _=>0) ⟨.uu,_,_,_,.uu,.uu,.uu,.uu,_,_,_,_,_,_⟩ ⟨rfl,by dsimp only[HW];rw[y2.len]⟩ ?_;rintro⟨v8,v9,v10,v11,v15,v16,v17,v18,v19,v20,v21,v22,v23,v24⟩ vs h ⟨rfl,rfl⟩ Q3 hK3 hX3 hR3;simp[VW,HW];refine hX3 _ _ _ ?_;simp[hwp];exact hK2 (p+1,c,kn,mo,ver,_,_,_,_,_,⟨_,_,_,_,_,_,_,_,_,_,_,_,_,_⟩) _ _ i9 ⟨m7,y2.next (fun x hx=>by rw[←hL,hLe]at hx;simp at hx),y3,rfl,by dsimp only[HW];rw[hRs]⟩
    . have hFW:FW L=.uslc (L.map IN):=if_neg hLe;have hDS:DS L=.slc (L.map IN):=if_neg hLe;rw[hFW]at hRg;rw[hDS]at hseal;have hL0:0<L.length:=a2k.2 hLe;obtain⟨a0,hhd⟩:∃a0,L.head?=some a0:=by
       cases L with
       |nil=>exact absurd rfl hLe
       |cons a L=>exact⟨a,rfl⟩
      have hRp:(RS p c)[p]'i9=.uslc (L.map IN):=(by grind);have hR2:∀X:PV,((RS p c).set p X).length=l.length+1:=fun X=>(by rw[a2T,hRl]);have hRq:∀c':List (List Nat),c'.length=l.length+1→c'.getD p []=L→(RS (p+1) c')[p]?=some (.slc (L.map IN)):=fun c' h1 h2=>by rw[b2k i9,if_pos (Nat.lt_succ_self p),h2,hDS]
      have hRq0:(RS (p+1) c)[p]'(by rw[a5v,y2.len];exact hp)=.slc (L.map IN):=(by grind);have hRl2:(RS (p+1) c).length=l.length+1:=(by grind);simp[HW,VW,hp,y2.len,hpi,hRl,hRp,hseal,hL0,hhd,hRq0,hRl2];refine E3 (fun(y:Nat×List (List Nat)×List u7×Nat×Nat×Row×Row×Nat×Nat×Nat×WVu) vs h=>y.1≤L.length∧WI t l p y.2.1 y.2.2.1∧y.2.2.2.1≤l.length∧y.2.1.getD p []=L∧(∀i z,i<y.1→L[i]?=some z→CW t l p z (E8 t z).length y.2.1)∧vs=VW t l y.2.2.2.1 p {y.2.2.2.2.2.2.2.2.2.2 with w8:=IN p,w15:=B true,w16:=.slc (L.map IN),w17:=IN L.length,w18:=IN y.1}∧h=HW (p+1) y.2.1 y.2.2.1 y.2.2.2.2.1 y.2.2.2.2.2.1 y.2.2.2.2.2.2.1 y.2.2.2.2.2.2.2.1 y.2.2.2.2.2.2.2.2.1 y.2.2.2.2.2.2.2.2.2.1) (fun y=>L.length-y.1)
       (0,c,kn,mo,_,_,_,_,_,_,⟨.uu,_,_,_,.uu,.uu,.uu,.uu,_,_,_,_,_,_⟩) ⟨C9 _,y2,y3,hL.symm,fun i z hi=>absurd hi (a6E i),rfl,by dsimp only[HW];rw[y2.len]⟩ ?_
      rintro⟨j,c,kn,mo,ver,R4,R5,g6,g7,g8,⟨v8,v9,v10,v11,v15,v16,v17,v18,v19,v20,v21,v22,v23,v24⟩⟩ vs h ⟨z1,z2,z3,z4,z5,rfl,rfl⟩ Q3 hK3 hX3 hR3;dsimp only at z1 z2 z3 z4 z5;by_cases hj:j<L.length
      . have hwj:=wk1 j i9;have hRx:=hLR _ (B7 hj);obtain⟨x,hxe⟩:=p8 (L[j]);rw[←hxe]at hRx;have hx:=hRx.1;have hgl:(gL (E0 t) t).length=(j4 t).length:=(by simp[gL]);obtain⟨A,hA⟩:=p8 (E8 t x);have hxA:(gL (E0 t) t)[x]'i9=A:=(by grind);have hAl:A.length≤64:=hA▸a5n ht x;have hAok:∀a∈A,a.1<t.rules.length∧a.2<(j4 t).length∧1≤s7 t a.1∧s7 t a.1≤4:=fun a ha=>a3m ht hx (hA▸ha);simp[HW,VW,hj,←hxe,hgl,hx,hxA];refine E3 (fun(y:Nat×List (List Nat)×List u7×Nat×Nat×Row×Row×Nat×Nat×Nat×WVu) vs h=>y.1≤A.length∧WI t l p y.2.1 y.2.2.1∧y.2.2.2.1≤l.length∧y.2.1.getD p []=L∧(∀i,∃l,y.2.1.getD i []=c.getD i []++l)∧CW t l p x y.1 y.2.1∧vs=VW t l y.2.2.2.1 p {y.2.2.2.2.2.2.2.2.2.2 with w8:=IN p,w9:=IN x,w15:=B true,w16:=.slc (L.map IN),w17:=IN L.length,w18:=IN j,w19:=B true,w20:=SG t A,w21:=IN A.length,w22:=IN y.1}∧h=HW (p+1) y.2.1 y.2.2.1 y.2.2.2.2.1 y.2.2.2.2.2.1 y.2.2.2.2.2.2.1 y.2.2.2.2.2.2.2.1 y.2.2.2.2.2.2.2.2.1 y.2.2.2.2.2.2.2.2.2.1) (fun y=>A.length-y.1)
         (0,c,kn,mo,_,_,_,_,_,_,⟨.uu,.uu,_,_,.uu,.uu,.uu,.uu,.uu,.uu,.uu,.uu,_,_⟩) ⟨C9 _,z2,z3,z4,fun i=>⟨[],k7⟩,fun a ha=>by simp at ha,rfl,rfl⟩ ?_
        rintro⟨k,c2,kn2,mo2,ver,R4,R5,g6,g7,g8,⟨v8,v9,v10,v11,v15,v16,v17,v18,v19,v20,v21,v22,v23,v24⟩⟩ vs h ⟨u1,u2,u3,u4,u5,u6,rfl,rfl⟩ Q4 hK4 hX4 hR4;dsimp only at u1 u2 u3 u4 u5 u6;by_cases hk:k<A.length
        . have hwk:=wk1 k i9;obtain⟨ha1,ha2,ha3,ha4⟩:=hAok _ (B7 hk);have hcm:=b1q (cls t A[k].1) (l.drop p) (by have:s7 t A[k].1=(cls t A[k].1).length:=rfl;omega);have hcl:=b3f (cls t A[k].1) (l.drop p);have hce:=a8F (cls t A[k].1) (l.drop p);obtain⟨n,hn⟩:=p8 (U6 (cls t A[k].1) (l.drop p));rw[←hn]at hcm hcl hce;simp only[CL,a1H]at hcm;rw[a2X]at hcl;have hpl:p≤l.length:=i9;have htd:List.take (l.length-p) (List.drop p (l.map UN))=(l.map UN).drop p:=U4 k7;have hwn:IntKind.i64.wrap ((p:Int)+(n:Int))=((p+n:Nat):Int):=O5;have hmx:∃m:Nat,m≤l.length∧(if(mo2:Int)<(p:Int)+(n:Int)then(p:Int)+(n:Int)else(mo2:Int))=(m:Int):=by
           split
           . exact⟨p+n,i9,i9⟩
           . exact⟨mo2,u3,rfl⟩
          obtain⟨m2,hm2,hmx⟩:=hmx;simp[HW,VW,hk,hpl,htd];refine l7 hcm ?_;by_cases hfit:n=(cls t A[k].1).length
          . have hft:fits t l p A[k].1:=hce.1 hfit;have hfl:=a4C hft;have hcn:s7 t A[k].1=n:=hfit.symm;obtain⟨c3,kn3,ver3,R53,g63,g73,g83,ws,w1,w2,w3,w4,w5,w6⟩:=c1e (sp:=p+1) ver (R4.1+1,.var [St (prt t A[k].1),CL (cls t A[k].1),IN A[k].2]) R5 g6 g7 g8 u2 hl hNN (hRx.step ht (hA▸B7 hk) hft) i9 i9;rw[hcn]at w4 w5;simp[hwn,hmx,←hfit];refine a4A w5 w6 rfl ?_;simp[HW,hwk];exact hK4 (k+1,c3,kn3,m2,ver3,_,R53,g63,g73,g83,⟨.uu,.uu,_,_,.uu,.uu,.uu,.uu,.uu,.uu,.uu,.uu,_,_⟩) _ _ i9 ⟨m7,w1,hm2,by dsimp only;rw[w3 p i9];exact u4,fun i=>by
             obtain⟨l1,h1⟩:=u5 i;obtain⟨l2,h2⟩:=w2 i;exact⟨l1++l2,by dsimp only;rw[h2,h1,a3u]⟩,(u6.mono (b0d w2)).succ hA.symm hk (fun _=>by rw[hcn];exact w4),rfl,rfl⟩
          . have hft:¬fits t l p A[k].1:=fun h=>hfit (hce.2 h);simp[hwn,hmx,hfit,hwk];exact hK4 (k+1,c2,kn2,m2,ver,_,R5,g6,g7,g8,⟨.uu,.uu,_,_,.uu,.uu,.uu,.uu,.uu,.uu,.uu,.uu,_,_⟩) _ _ i9 ⟨m7,u2,hm2,u4,u5,u6.succ hA.symm hk (fun h=>absurd h hft),rfl,rfl⟩
        . obtain rfl:k=A.length:=i9;simp[VW];refine hX4 _ _ _ ?_;simp[hwj];refine hK3 (j+1,c2,kn2,mo2,ver,_,_,_,_,_,⟨.uu,_,_,_,.uu,.uu,.uu,.uu,_,_,_,_,_,_⟩) _ _ i9 ⟨m7,u2,u3,u4,fun i z hi hz=>?_,rfl,rfl⟩;dsimp only at hi hz⊢;by_cases hij:i=j
          . grind
          . exact(z5 i z i9 hz).mono (b0d u5)
      . obtain rfl:j=L.length:=i9;simp[VW];refine hX3 _ _ _ ?_;simp[hwp];exact hK2 (p+1,c,kn,mo,ver,_,_,_,_,_,⟨_,_,_,_,_,_,_,_,_,_,_,_,_,_⟩) _ _ i9 ⟨m7,z2.next (fun x hx=>by
         rw[z4]at hx;obtain⟨i,hi,rfl⟩:=a1F hx;exact z5 i _ hi (l9 hi)),z3,rfl,rfl⟩
  . obtain rfl:p=l.length+1:=i9;have hnr:(∀x,x∈RS (l.length+1) c→D4 x=true)=True:=eq_true (b5e _ _);simp[HW,VW];refine hX2 _ _ _ ?_;simp;refine hR _ _ _ ⟨c,mo,rfl,y2.fin,i9,i9⟩ ?_;simp[X79,a5v,hnr]
end
section
variable{L:List Nat}{c:List (List Nat)}{j p x:Nat}
def Good(t:j9)(l:List Nat)(i x:Nat):Prop:=∃q st',D8 t ((j4 t).getD x B9) q=some st'∧B6 t st'=true∧A9 t q=l.drop i
theorem Good.stop{t:j9}{l:List Nat}(h:B6 t ((j4 t).getD x B9)=true):Good t l l.length x:=⟨[],_,rfl,h,by simp[A9]⟩
theorem Good.step{t:j9}(ht:s5 t){l:List Nat}{i x:Nat}(hx:x<(j4 t).length){a:Nat×Nat}(ha:a∈E8 t x)(hf:fits t l i a.1)(h:Good t l (i+s7 t a.1) a.2):Good t l i x:=by
 obtain⟨s',h1,_,h3,_⟩:=a5C hx ha;obtain⟨q,st',q1,q2,q3⟩:=h;rw[h3,a1R (W7 ht (a1A hx) h1)]at q1;refine⟨a.1::q,st',?_,q2,?_⟩
 . show(T.step t _ a.1).bind _=_;rw[h1];exact q1
 . rw[a8O hf,←q3];rfl
theorem Good.cases{t:j9}(ht:s5 t){l:List Nat}{i:Nat}(hx:x<(j4 t).length)(hi:i≤l.length)(h:Good t l i x):(i=l.length∧B6 t ((j4 t).getD x B9)=true)∨∃a∈E8 t x,fits t l i a.1∧Good t l (i+s7 t a.1) a.2:=by
 obtain⟨q,st',q1,q2,q3⟩:=h
 match q,q1,q3 with
 | [],q1,q3=>
  obtain rfl:=W6 q1;have:(l.drop i).length=0:=by rw[←q3];rfl
  rw[a2X]at this;exact .inl ⟨i9,q2⟩
 |k::q,q1,q3=>
  obtain⟨s1,e1,e2⟩:=V1.1 (show(T.step t _ k).bind (fun s'=>D8 t s' q)=some st' from q1);have hd:l.drop i=cls t k++A9 t q:=by rw[←q3];rfl
  obtain⟨f1,f2⟩:=a9Z hd;have hs1:=W7 ht (a1A hx) e1;exact .inr ⟨_,a9j hx e1 ⟨q,st',e2,q2⟩,f1,q,st',by rw[a1R hs1];exact e2,q2,f2.symm⟩
theorem Good.live{t:j9}(ht:s5 t){l:List Nat}{i:Nat}(h:Good t l i 0):Live t start:=by
 obtain⟨q,st',q1,q2,_⟩:=h;have e:(j4 t).getD 0 B9=start:=by rw[u9,a1T ht];rfl
 rw[e]at q1;exact⟨q,st',q1,q2⟩
def GI(t:j9)(l:List Nat)(c:List (List Nat))(P:Nat)(L:List Nat)(j:Nat)(gd:List u7):Prop:=
 ∀i x,u7.mk i x∈gd↔(x∈c.getD i []∧Good t l i x∧i≤l.length∧(P≤i∨(i+1=P∧x∈L.take j)))
theorem GI.start(t:j9)(l:List Nat)(c:List (List Nat))(L:List Nat):GI t l c (l.length+1) L 0 []:=fun i x=>by simp;intros;omega
theorem c0n(hj:j<L.length):x∈L.take (j+1)↔x∈L.take j∨x=L[j]:=by rw[J2,l9 hj,G7];simp
theorem c7c(hn:L.Nodup)(hj:j<L.length):L[j]∉L.take j:=fun h=>by obtain⟨i,hi,he⟩:=a1F h;rw[a1G]at hi;rw[List.getElem_take]at he;exact a5N.1 hn i j i9 hj i9 he
theorem GI.new{t:j9}{l:List Nat}{gd:List u7}(h:GI t l c (p+1) L j gd)(hn:L.Nodup)(hj:j<L.length):u7.mk p L[j]∉gd:=fun hm=>by
 obtain⟨_,_,_,h4⟩:=(h p L[j]).1 hm;rcases h4 with h4|h4
 . omega
 . exact c7c hn hj h4.2
theorem GI.yes{t:j9}{l:List Nat}{gd:List u7}(h:GI t l c (p+1) L j gd)(hL:L=c.getD p [])(hp:p≤l.length)(hj:j<L.length)(hg:Good t l p L[j]):GI t l c (p+1) L (j+1) (gd++[⟨p,L[j]⟩]):=fun i x=>by
 rw[G7,F7,h,c0n hj];constructor
 . grind
 . grind
theorem GI.no{t:j9}{l:List Nat}{gd:List u7}(h:GI t l c (p+1) L j gd)(hj:j<L.length)(hg:¬Good t l p L[j]):GI t l c (p+1) L (j+1) gd:=fun i x=>by
 rw[h,c0n hj];constructor
 . grind
 . grind
theorem GI.next{t:j9}{l:List Nat}{L':List Nat}{gd:List u7}(h:GI t l c (p+1) L L.length gd)(hL:L=c.getD p []):GI t l c p L' 0 gd:=fun i x=>by
 rw[h,J7];simp only[List.take_zero,List.not_mem_nil,and_false,or_false];constructor
 . grind
 . grind
theorem GI.ahead{t:j9}{l:List Nat}{gd:List u7}(h:GI t l c (p+1) L j gd)(hE:WE t l c)(hx:x∈c.getD p [])(hp:p≤l.length){a:Nat×Nat}(ha:a∈E8 t x)(hf:fits t l p a.1)(h1:1≤s7 t a.1):u7.mk (p+s7 t a.1) a.2∈gd↔Good t l (p+s7 t a.1) a.2:=by have hle:=a4C hf;rw[h];exact⟨fun h=>h.2.1,fun hg=>⟨hE.done p x hp hx a ha hf,hg,i9,.inl i9⟩⟩
structure RDs(t:j9)(l:List Nat)(gd:List u7):Prop where
 snd:∀i x,u7.mk i x∈gd→Reach t l i x∧Good t l i x
 root:Good t l 0 0→u7.mk 0 0∈gd
 next:∀i x,u7.mk i x∈gd→∀a∈E8 t x,fits t l i a.1→Good t l (i+s7 t a.1) a.2→u7.mk (i+s7 t a.1) a.2∈gd
theorem GI.fin{t:j9}(ht:s5 t){l:List Nat}{gd:List u7}(h:GI t l c 0 L 0 gd)(hE:WE t l c):RDs t l gd:=by
 refine⟨fun i x hm=>?_,fun hg=>?_,fun i x hm a ha hf hg=>?_⟩
 . obtain⟨h1,h2,_⟩:=(h i x).1 hm;exact⟨hE.sound i x h1,h2⟩
 . exact(h 0 0).2 ⟨hE.root (hg.live ht),hg,C9 _,.inl (C9 _)⟩
 . obtain⟨h1,h2,h3,_⟩:=(h i x).1 hm;have hle:=a4C hf;exact(h _ _).2 ⟨hE.done i x h3 h1 a ha hf,hg,i9,.inl (C9 _)⟩
open Classical in
noncomputable def GXp(t:j9)(l:List Nat)(c:List (List Nat)):Nat→List u7
 |0=>[]
 |k+1=>GXp t l c k++((c.getD (l.length-k) []).filter fun x=>decide (Good t l (l.length-k) x)).map (u7.mk (l.length-k))
open Classical in
noncomputable def GXj(t:j9)(l:List Nat)(c:List (List Nat))(p:Nat)(L:List Nat)(j:Nat):List u7:=GXp t l c (l.length-p)++((L.take j).filter fun x=>decide (Good t l p x)).map (u7.mk p)
theorem c2T(t:j9)(l:List Nat)(c:List (List Nat))(p:Nat)(L:List Nat):GXj t l c p L 0=GXp t l c (l.length-p):=by simp[GXj]
theorem b8U{t:j9}{l:List Nat}(hj:j<L.length)(h:Good t l p L[j]):GXj t l c p L (j+1)=GXj t l c p L j++[⟨p,L[j]⟩]:=by unfold GXj;rw[J2,l9 hj,b1P,S8,a3u];simp[h]
theorem c1Q{t:j9}{l:List Nat}(hj:j<L.length)(h:¬Good t l p L[j]):GXj t l c p L (j+1)=GXj t l c p L j:=by unfold GXj;rw[J2,l9 hj,b1P,S8];simp[h]
theorem c8n{t:j9}{l:List Nat}(hp:p≤l.length):GXj t l c p (c.getD p []) (c.getD p []).length=GXp t l c (l.length+1-p):=by
 unfold GXj;rw[J7,show l.length+1-p=(l.length-p)+1 by omega];show _=GXp t l c (l.length-p)++_
 grind
theorem b7v(t:j9)(l:List Nat)(c:List (List Nat)):∀k,k≤l.length+1→GI t l c (l.length+1-k) [] 0 (GXp t l c k)
 |0,_=>GI.start t l c []
 |k+1,hk=>fun i x=>by
  have ih:=b7v t l c k i9 i x;simp only[List.take_nil,List.not_mem_nil,and_false,or_false]at ih⊢;unfold GXp
  grind
theorem c3h{t:j9}(ht:s5 t){l:List Nat}(hE:WE t l c):RDs t l (GXp t l c (l.length+1)):=by have:=b7v t l c (l.length+1) (m0 _);rw[a6B]at this;exact this.fin ht hE
end
def CF(c:List (List Nat)):List PV:=(List.range c.length).map fun i=>.slc ((c.getD i []).map IN)
theorem c6w(c:List (List Nat)):(CF c).length=c.length:=by simp[CF]
theorem c8f{c:List (List Nat)}(i:Nat)(h:i<(CF c).length):(CF c)[i]=.slc ((c.getD i []).map IN):=by simp[CF]
theorem c3V(c:List (List Nat)):∀x,x∈CF c→D4 x=true:=fun x hx=>by obtain⟨i,_,rfl⟩:=E9.1 hx;rfl
theorem c1w(c:List (List Nat)):(CF c).map B3=CF c:=by unfold CF;rw[a1f];exact L9 fun i _=>rfl
theorem c5h(p:Nat)(c:List (List Nat)):(RS p c).map B3=CF c:=by unfold RS CF;rw[a1f];refine L9 fun i _=>?_;simp only[Function.comp_apply];cases c.getD i []<;>split<;>simp[B3,M1]<;>rfl
noncomputable abbrev RD(t:j9)(l:List Nat)(gd:List u7):PV:=.fptr [GR t,CL l,.J9 (gd.map SQ) (gd.map TR)]
def c7N(t:j9)(l:List Nat)(r:PV):Prop:=∃(gd:List u7) (most:Int),r=.tup [RD t l gd,I most]∧RDs t l gd∧ -1≤most∧most≤l.length
structure NV where
 (w9 w10 w11 w12 w13 w14 w15 w16 w17 w18 w19 w20:PV)
noncomputable abbrev VN(t:j9)(l:List Nat)(c:List (List Nat))(most pl:Int)(x:NV):List PV:=[TP t,CL l,.ptr 0 1 0,.lit (.pointer none),I 0,.ptr 3 1 0,.slc (CF c),I most,I pl,x.w9,x.w10,x.w11,x.w12,x.w13,x.w14,x.w15,x.w16,x.w17,x.w18,x.w19,x.w20]
noncomputable abbrev HN(t:j9)(l:List Nat)(gd:List u7)(R4 R5 R6 R10 R11 R12:Row):l5:=
 [(1,.var (TC t)),(1,.mp false (gd.map SQ) (gd.map TR)),(1,.var [GR t,CL l,.mapv 1 1]),(1,.var [.ptr 2 1 0]),R4,R5,R6,dd,dd,dd,R10,R11,R12]
theorem b7R(t:j9)(l:List Nat)(gd:List u7)(R4 R5 R6 R10 R11 R12:Row)(i x:Nat):FI Tryz.prog (.fn (.func 80) [] []) [.ptr 2 1 0,.agg [IN i,IN x]] (HN t l gd R4 R5 R6 R10 R11 R12)
 (.fn (.func 111) [] [.ptr 10 (R10.1+1) 0,.ptr 11 (R11.1+1) 0]) [(10,(R10.1+1,.var [.ptr 2 1 0])),(11,(R11.1+1,.var [IN i,IN x]))]:=by
 refine a3k mixed (X:=X80) c80 (by rfl) (by simp[X80]) k7 fun Q hR hN=>?_;simp[X80,HN];refine hR _ _ ?_;simp[X80,P6]
theorem b7G(t:j9)(ht:s5 t)(l:List Nat)(hl:l.length≤1100000000):∃r,c7N t l r∧F0 41 [0,0] [TP t,CL l] r:=by
 have hNN:=a1g ht;have hpos:=a1X ht;obtain⟨r,⟨c,most,rfl,hE,hm1,hm2⟩,hw⟩:=c3y t ht l hl;have hnr:(∀x,x∈RS (l.length+1) c→D4 x=true)=True:=eq_true (b5e _ _);have hfz:=c5h (l.length+1) c;have hcl:=c6w c;have hcl2:=a5v (l.length+1) c;rw[hE.len]at hcl hcl2;have htk:List.take (l.length+1) (CF c)=CF c:=U4 i9;have hla:(O4 t).length=(j4 t).length:=by simp[O4]
 have hgl:(gL (E0 t) t).length=(j4 t).length:=by simp[gL]
 refine⟨_,⟨GXp t l c (l.length+1),most,rfl,c3h ht hE,hm1,hm2⟩,?_⟩;refine E7 c41 13 (by simp[X41]) fun Q hR hN=>?_;simp[X41];refine l7 (c1D t ht) ?_;simp;refine l7 hw ?_;have hnc:(∀x,x∈CF c→D4 x=true)=True:=eq_true (c3V c);have hfc:=c1w c;have hcg:=c8f (c:=c);simp[hnr,hfz,hcl,hcl2,htk,hnc,hfc];obtain⟨R4,hR4⟩:∃R4:Row,R4=(1,.arr 1 1 true (CF c)):=⟨_,rfl⟩
 rw[←hR4];refine E3 (fun(y:Nat×List u7×Row×Row×Row×Row×Row×NV) vs h=>y.1≤l.length+1∧GI t l c y.1 (c.getD (y.1-1) []) 0 y.2.1∧y.2.1=GXp t l c (l.length+1-y.1)∧vs=VN t l c most ((y.1:Int)-1) y.2.2.2.2.2.2.2∧h=HN t l y.2.1 R4 y.2.2.1 y.2.2.2.1 y.2.2.2.2.1 y.2.2.2.2.2.1 y.2.2.2.2.2.2.1) (fun y=>y.1)
  (l.length+1,[],dd,dd,dd,dd,dd,⟨_,_,_,_,_,_,_,_,_,_,_,_⟩) ⟨m0 _,GI.start t l c _,by dsimp only;rw[a6B];rfl,by dsimp only;rw[show((l.length+1:Nat):Int)-1=(l.length:Int)by omega],rfl⟩ ?_
 rintro⟨P,gd,R5,R6,R10,R11,R12,⟨v9,v10,v11,v12,v13,v14,v15,v16,v17,v18,v19,v20⟩⟩ vs h ⟨y1,y2,y3,rfl,rfl⟩ Q2 hK2 hX2 hR2;dsimp only at y1 y2 y3;cases P with
 |zero=>
  simp[VN,HN];refine hX2 _ _ _ ?_;subst y3;have hft:List.map (M1∘TR) (GXp t l c (l.length+1))=(GXp t l c (l.length+1)).map TR:=L9 fun _ _=>rfl;simp[hft];refine hR _ _ ?_;simp[X41]
 |succ p=>
  have hpi:(p:Int)<(l.length:Int)+1:=i9;have hpl:p≤l.length:=i9;have hp1:p<l.length+1:=i9;have hwp:IntKind.i64.wrap ((p:Int)-1)=(p:Int)-1:=O5;have e1:((p+1:Nat):Int)-1=(p:Int):=i9;dsimp only;rw[e1];rw[show p+1-1=p from rfl]at y2;have hcp:=hcg p i9;obtain⟨L,hL⟩:=p8 (c.getD p []);rw[←hL]at y2 hcp;have hnd:L.Nodup:=hL▸hE.nodup p;have hLR:∀x∈L,Reach t l p x:=fun x hx=>hE.sound p x (hL▸hx);have hLN:L.length≤3072:=S7 (a3P _ _ hnd fun y hy=>(hLR y hy).1) hNN;simp[VN,HN,hcl,hp1,hcp];refine E3 (fun(y:Nat×List u7×Row×Row×Row×Row×Row×NV) vs h=>y.1≤L.length∧GI t l c (p+1) L y.1 y.2.1∧y.2.1=GXj t l c p L y.1∧vs=VN t l c most p {y.2.2.2.2.2.2.2 with w13:=.slc (L.map IN),w14:=IN L.length,w15:=IN y.1}∧h=HN t l y.2.1 R4 y.2.2.1 y.2.2.2.1 y.2.2.2.2.1 y.2.2.2.2.2.1 y.2.2.2.2.2.2.1) (fun y=>L.length-y.1)
   (0,gd,_,_,_,_,_,⟨_,_,_,_,.uu,.uu,.uu,_,_,_,_,_⟩) ⟨C9 _,y2,by dsimp only;rw[c2T,y3,show l.length+1-(p+1)=l.length-p by omega],rfl,rfl⟩ ?_
  rintro⟨j,gd,R5,R6,R10,R11,R12,⟨v9,v10,v11,v12,v13,v14,v15,v16,v17,v18,v19,v20⟩⟩ vs h ⟨z1,z2,z3,rfl,rfl⟩ Q3 hK3 hX3 hR3;dsimp only at z1 z2 z3;by_cases hj:j<L.length
  . have hwj:=wk1 j i9;have hRx:=hLR _ (B7 hj);have hnew:=z2.new hnd hj;have hyes:=z2.yes hL hpl hj;have hno:=z2.no hj;have hxc:L[j]∈c.getD p []:=hL▸B7 hj;obtain⟨x,hxe⟩:=p8 (L[j]);rw[←hxe]at hRx hnew hyes hno hxc;have hx:=hRx.1;obtain⟨A,hA⟩:=p8 (E8 t x);have hxA:(gL (E0 t) t)[x]'i9=A:=(by rw[hA];unfold E8;rw[u9,l9 i9];rfl);have hAl:A.length≤64:=hA▸a5n ht x;have hAok:∀a∈A,a.1<t.rules.length∧a.2<(j4 t).length∧1≤s7 t a.1∧s7 t a.1≤4:=fun a ha=>a3m ht hx (hA▸ha);have hahead:∀a∈A,fits t l p a.1→(u7.mk (p+s7 t a.1) a.2∈gd↔Good t l (p+s7 t a.1) a.2):=fun a ha hf=>z2.ahead hE hxc hpl (hA▸ha) hf (hAok a ha).2.2.1;have hidx:=a2j.2 hnew;have hst:(j4 t).getD x B9=(j4 t)[x]:=(by rw[u9,l9 hx];rfl);have hacA:(O4 t)[x]'i9=B6 t (j4 t)[x]:=(by simp only[O4,a1e]);obtain⟨g2,hg2⟩:=p8 (gd++[u7.mk p x]);rw[←hg2]at hyes;have f1:gd.map SQ++[.agg [IN p,IN x]]=g2.map SQ:=(by rw[hg2,S8];rfl);have f2:gd.map TR++[B true]=g2.map TR:=(by rw[hg2,S8];rfl);by_cases hacp:p=l.length∧B6 t ((j4 t).getD x B9)=true
    . have hpt:(p=l.length)=True:=eq_true hacp.1;have hg:Good t l p x:=(by rw[hacp.1];exact Good.stop hacp.2);have hyes:=hyes hg;have hz3:=(b8U (t:=t) (c:=c) hj (hxe▸hg)).symm;rw[←z3,←hxe,←hg2]at hz3;have hnf:∀a∈A,¬fits t l p a.1:=fun a ha hf=>by
       have:=a4C hf;have:=(hAok a ha).2.2.1;omega
      have hacx:B6 t (j4 t)[x]=true:=(by rw[←hst];exact hacp.2);simp[VN,HN,hj,←hxe,hpt,hla,hx,hacA,hacx,hidx,f1,f2];refine a2O (b7R t l g2 R4 (R5.1+1,.var [IN p,IN x]) R6 R10 R11 R12 p x) ?_;simp[HN];refine b2P mixed (X:=a3M) b3B rfl (by rfl) (by simp[a3M]) k7 ?_;intro ly Q4 hR4' hN4;simp[a3M,hgl,hx,hxA];refine E3 (fun(y:Nat×Row×Row×PV×PV×PV) vs h=>y.1≤A.length∧(∀a∈A.take y.1,fits t l p a.1→¬Good t l (p+s7 t a.1) a.2)∧vs=[.fn (.yield ly) [] [],.ptr 10 (R10.1+1) 0,.ptr 11 (R11.1+1) 0,y.2.2.2.1,SG t A,IN A.length,IN y.1,y.2.2.2.2.1,y.2.2.2.2.2,gOf none]∧
       h=HN t l g2 R4 (R5.1+1,.var [IN p,IN x]) y.2.2.1 (R10.1+1,.var [.ptr 2 1 0]) (R11.1+1,.var [IN p,IN x]) y.2.1) (fun y=>A.length-y.1) (0,R12,R6,.uu,.uu,.uu) ⟨C9 _,fun a ha=>by simp at ha,rfl,rfl⟩ ?_
      rintro⟨k,R12,R6,v3,v7,v8⟩ vs h ⟨u1,u2,rfl,rfl⟩ Q5 hK5 hX5 hR5;dsimp only at u1 u2;by_cases hk:k<A.length
      . have hwk:=wk1 k i9;obtain⟨ha1,ha2,ha3,ha4⟩:=hAok _ (B7 hk);have hcm:=b1q (cls t A[k].1) (l.drop p) (by have:s7 t A[k].1=(cls t A[k].1).length:=rfl;omega);have hce:=a8F (cls t A[k].1) (l.drop p);obtain⟨n,hn⟩:=p8 (U6 (cls t A[k].1) (l.drop p));rw[←hn]at hcm hce;simp only[CL,a1H]at hcm;have htd:List.take (l.length-p) (List.drop p (l.map UN))=(l.map UN).drop p:=U4 k7;have hsucc:(fits t l p A[k].1→¬Good t l (p+s7 t A[k].1) A[k].2)→∀a∈A.take (k+1),fits t l p a.1→¬Good t l (p+s7 t a.1) a.2:=fun h a ha=>by
         rw[J2,l9 hk]at ha;rcases G7.1 ha with ha|ha
         . exact u2 a ha
         . simp only[a5P,F7]at ha;subst ha;exact h
        simp[HN,hk,hpl,htd];refine l7 hcm ?_;have hfit:¬n=(cls t A[k].1).length:=fun h=>hnf _ (B7 hk) (hce.1 h);have hft:¬fits t l p A[k].1:=hnf _ (B7 hk);simp[hfit,hwk];exact hK5 (k+1,_,R6,_,_,_) _ _ m7 ⟨m7,hsucc (fun h=>absurd h hft),rfl,rfl⟩
      . obtain rfl:k=A.length:=i9;simp;refine hX5 _ _ _ ?_;simp;refine hN4 none _ _ (by rfl) ?_;simp[hwj];exact hK3 (j+1,g2,_,R6,_,_,_,⟨_,_,_,_,.uu,.uu,.uu,_,_,_,_,_⟩) _ _ m7 ⟨m7,hyes,hz3,rfl,rfl⟩
    . by_cases hpe:p=l.length
      case' pos=>
       have hac0:(O4 t)[x]'i9=false:=by
        rw[hacA,←hst];cases hb:B6 t ((j4 t).getD x B9)with
        |false=>rfl
        |true=>exact absurd ⟨hpe,hb⟩ hacp
       simp[VN,HN,hj,←hxe,eq_true hpe,hla,hx,hac0]
      case' neg=>
       simp[VN,HN,hj,←hxe,eq_false hpe]
      all_goals
       refine a2O (b7R t l gd R4 (R5.1+1,.var [IN p,IN x]) R6 R10 R11 R12 p x) ?_;simp[HN];refine b2P mixed (X:=a3M) b3B rfl (by rfl) (by simp[a3M]) k7 ?_;intro ly Q4 hR4' hN4;simp[a3M,hgl,hx,hxA];refine E3 (fun(y:Nat×Row×Row×PV×PV×PV) vs h=>y.1≤A.length∧(∀a∈A.take y.1,fits t l p a.1→¬Good t l (p+s7 t a.1) a.2)∧vs=[.fn (.yield ly) [] [],.ptr 10 (R10.1+1) 0,.ptr 11 (R11.1+1) 0,y.2.2.2.1,SG t A,IN A.length,IN y.1,y.2.2.2.2.1,y.2.2.2.2.2,gOf none]∧
        h=HN t l gd R4 (R5.1+1,.var [IN p,IN x]) y.2.2.1 (R10.1+1,.var [.ptr 2 1 0]) (R11.1+1,.var [IN p,IN x]) y.2.1) (fun y=>A.length-y.1) (0,R12,R6,.uu,.uu,.uu) ⟨C9 _,fun a ha=>by simp at ha,rfl,rfl⟩ ?_
       rintro⟨k,R12,R6,v3,v7,v8⟩ vs h ⟨u1,u2,rfl,rfl⟩ Q5 hK5 hX5 hR5;dsimp only at u1 u2;by_cases hk:k<A.length
       . have hwk:=wk1 k i9;obtain⟨ha1,ha2,ha3,ha4⟩:=hAok _ (B7 hk);have hcm:=b1q (cls t A[k].1) (l.drop p) (by have:s7 t A[k].1=(cls t A[k].1).length:=rfl;omega);have hce:=a8F (cls t A[k].1) (l.drop p);obtain⟨n,hn⟩:=p8 (U6 (cls t A[k].1) (l.drop p));rw[←hn]at hcm hce;simp only[CL,a1H]at hcm;have htd:List.take (l.length-p) (List.drop p (l.map UN))=(l.map UN).drop p:=U4 k7;have hsucc:(fits t l p A[k].1→¬Good t l (p+s7 t A[k].1) A[k].2)→∀a∈A.take (k+1),fits t l p a.1→¬Good t l (p+s7 t a.1) a.2:=fun h a ha=>by
          rw[J2,l9 hk]at ha;rcases G7.1 ha with ha|ha
          . exact u2 a ha
          . simp only[a5P,F7]at ha;subst ha;exact h
         simp[HN,hk,hpl,htd];refine l7 hcm ?_;by_cases hfit:n=(cls t A[k].1).length
         . have hft:fits t l p A[k].1:=hce.1 hfit;have hfl:=a4C hft;have hcn:s7 t A[k].1=n:=hfit.symm;have hah:=hahead _ (B7 hk) hft;rw[hcn]at hah;have hwn:IntKind.i64.wrap ((p:Int)+(n:Int))=((p+n:Nat):Int):=O5;obtain⟨q,hq⟩:=p8 (p+n);rw[←hq]at hwn hah;simp[←hfit,hwn];refine a4X rfl rfl ?_;cases hid:gd.idxOf? (u7.mk q A[k].2)with
           |some m=>
            have hml:m<gd.length:=by rw[List.idxOf?,a1V]at hid;exact hid.1
            have hmem:u7.mk q A[k].2∈gd:=by refine Decidable.byContradiction fun hm=>?_;rw[a2j.2 hm]at hid;cases hid
            have hg:Good t l p x:=Good.step ht hx (hA▸B7 hk) hft (by rw[hcn,←hq];exact hah.1 hmem);have hyes:=hyes hg;have hz3:=(b8U (t:=t) (c:=c) hj (hxe▸hg)).symm;rw[←z3,←hxe,←hg2]at hz3;simp[a5E,hid,hml,hidx,f1,f2];refine hR5 _ _ ?_;simp;refine hR4' (some (.exit 4)) _ _ (by rfl) ?_;simp[hwj];exact hK3 (j+1,g2,_,_,_,_,_,⟨_,_,_,_,.uu,.uu,.uu,_,_,_,_,_⟩) _ _ m7 ⟨m7,hyes,hz3,rfl,rfl⟩
           |none=>
            have hng:¬Good t l (p+s7 t A[k].1) A[k].2:=fun h=>by rw[hcn,←hq]at h;exact a2j.1 hid (hah.2 h)
            simp[a5E,hid,hwk];exact hK5 (k+1,_,_,_,_,_) _ _ m7 ⟨m7,hsucc (fun _=>hng),rfl,rfl⟩
         . have hft:¬fits t l p A[k].1:=fun h=>hfit (hce.2 h);simp[hfit,hwk];exact hK5 (k+1,_,R6,_,_,_) _ _ m7 ⟨m7,hsucc (fun h=>absurd h hft),rfl,rfl⟩
       . obtain rfl:k=A.length:=i9;have hng:¬Good t l p x:=fun hg=>by
          rcases hg.cases ht hx hpl with h|⟨a,h1,h2,h3⟩
          . exact hacp h
          . rw[J7]at u2;exact u2 a (hA▸h1) h2 h3
         have hno:=hno hng;have hz3:=(c1Q (t:=t) (c:=c) hj (hxe▸hng)).symm;rw[←z3]at hz3;simp;refine hX5 _ _ _ ?_;simp;refine hN4 none _ _ (by rfl) ?_;simp[hwj];exact hK3 (j+1,gd,_,R6,_,_,_,⟨_,_,_,_,.uu,.uu,.uu,_,_,_,_,_⟩) _ _ m7 ⟨m7,hno,hz3,rfl,rfl⟩
  . obtain rfl:j=L.length:=i9;simp[VN];refine hX3 _ _ _ ?_;simp[hwp];exact hK2 (p,gd,_,_,_,_,_,⟨_,_,_,_,_,_,_,_,_,_,_,_⟩) _ _ m7 ⟨m7,z2.next hL,by dsimp only;rw[z3,hL,c8n hpl],rfl,rfl⟩
structure m9 where
 (p x:Nat)
 (r:By)
 deriving DecidableEq
abbrev m9.s(h:m9):u7:=⟨h.p,h.x⟩
inductive Sp(t:j9)(l:List Nat)(gd:List u7)(L:List m9):m9→Prop
 |base {h:m9}:h∈L→h.s∈gd→Sp t l gd L h
 |step {p x:Nat} {a:Nat×Nat}:Sp t l gd L ⟨p,x,[]⟩→a∈E8 t x→fits t l p a.1→u7.mk (p+s7 t a.1) a.2∈gd→Sp t l gd L ⟨p+s7 t a.1,a.2,prt t a.1⟩
theorem Sp.b6S{t:j9}{l:List Nat}{gd:List u7}{L:List m9}{h:m9}(hs:Sp t l gd L h):h.s∈gd:=by
 cases hs with
 |base _ g=>exact g
 |step _ _ _ g=>exact g
def Nxt(t:j9)(l:List Nat)(gd:List u7)(h:m9)(a:Nat×Nat)(K:List m9):Prop:=fits t l h.p a.1→u7.mk (h.p+s7 t a.1) a.2∈gd→m9.mk (h.p+s7 t a.1) a.2 (prt t a.1)∈K
structure SI(t:j9)(l:List Nat)(gd:List u7)(L:List m9)(j:Nat)(K O F:List m9)(ends:Bool)(cur:Option m9)(m:Nat):Prop where
 nodup:K.Nodup
 sound:∀h∈K,Sp t l gd L h
 base:∀i h,i<j→L[i]?=some h→h.s∈gd→h∈K
 opn:∀h∈O,h∈K∧h.r=[]
 onod:O.Nodup
 fnd:F=K.filter fun h=>!h.r.isEmpty
 done:∀h∈K,h.r=[]→h∉O→cur≠some h→∀a∈E8 t h.x,Nxt t l gd h a K
 curd:∀h,cur=some h→h∈K∧h.r=[]∧h∉O∧∀a∈(E8 t h.x).take m,Nxt t l gd h a K
 fin:ends=true↔∃h∈K,h.r=[]∧h∉O∧h.p=l.length∧B6 t ((j4 t).getD h.x B9)=true
theorem SI.start(t:j9)(l:List Nat)(gd:List u7)(L:List m9):SI t l gd L 0 [] [] [] false none 0:=
 ⟨k7,k7,fun i h hi=>i9,k7,k7,rfl,k7,k7,k7⟩
def a1j(K O:List m9)(h:m9):List m9:=if h∈K then O else if h.r=[]then O++[h]else O
def a2P(K F:List m9)(h:m9):List m9:=if h∈K then F else if h.r=[]then F else F++[h]
def W5(K:List m9)(h:m9):List m9:=if h∈K then K else K++[h]
theorem b2e(K:List m9)(h:m9):h∈W5 K h:=by
 unfold W5;split
 . assumption
 . simp
theorem c3c{K:List m9}{h x:m9}(hx:x∈K):x∈W5 K h:=by
 unfold W5;split
 all_goals grind
theorem SI.add{t:j9}{l:List Nat}{gd:List u7}{L:List m9}{j m:Nat}{K O F:List m9}{ends:Bool}{cur:Option m9}(h:SI t l gd L j K O F ends cur m){x:m9}(hx:Sp t l gd L x):SI t l gd L j (W5 K x) (a1j K O x) (a2P K F x) ends cur m:=by
 by_cases hk:x∈K
 . unfold W5 a1j a2P
   grind
 . have hm:∀y,y∈K→y∈W5 K x:=fun y hy=>c3c hy;have hO:∀y,y∈K→(y∈a1j K O x↔y∈O):=fun y hy=>by
    unfold a1j;rw[if_neg hk];split
    . grind
    . exact Iff.rfl
   have hx2:x.r=[]→x∈a1j K O x:=fun hr=>(by unfold a1j;rw[if_neg hk,if_pos hr];simp);have hN:∀y a,Nxt t l gd y a K→Nxt t l gd y a (W5 K x):=fun y a hn h1 h2=>hm _ (hn h1 h2);have hmem:∀y,y∈W5 K x→y∈K∨y=x:=fun y hy=>by unfold W5 at hy;rw[if_neg hk]at hy;simpa using hy
   refine⟨?_,fun y hy=>?_,fun i y hi hy hs=>hm _ (h.base i y hi hy hs),fun y hy=>?_,?_,?_,fun y hy hr ho hc a ha=>?_,fun y hc=>?_,?_⟩
   . unfold W5;rw[if_neg hk,a3Z];refine⟨h.nodup,k7,fun a ha b hb=>?_⟩
     grind
   . rcases hmem y hy with hy|rfl
     . exact h.sound y hy
     . exact hx
   . unfold a1j at hy;rw[if_neg hk]at hy;split at hy
     . rename_i hr;rcases G7.1 hy with hy|hy
       . exact⟨hm _ (h.opn y hy).1,(h.opn y hy).2⟩
       . rw[F7]at hy;subst hy;exact⟨b2e K y,hr⟩
     . exact⟨hm _ (h.opn y hy).1,(h.opn y hy).2⟩
   . unfold a1j;rw[if_neg hk];split
     . rw[a3Z];refine⟨h.onod,k7,fun a ha b hb=>?_⟩;rw[F7]at hb;intro e;subst e;subst hb;exact hk (h.opn a ha).1
     . exact h.onod
   . unfold a2P W5;rw[if_neg hk,if_neg hk,b1P,←h.fnd]
     grind
   . rcases hmem y hy with hy|rfl
     . exact hN _ _ (h.done y hy hr (fun e=>ho ((hO y hy).2 e)) hc a ha)
     . exact absurd (hx2 hr) ho
   . obtain⟨c1,c2,c3,c4⟩:=h.curd y hc
     grind
   . rw[h.fin];constructor
     . grind
     . grind
theorem SI.input{t:j9}{l:List Nat}{gd:List u7}{L:List m9}{j:Nat}{K O F:List m9}{ends:Bool}(h:SI t l gd L j K O F ends none 0)(hj:j<L.length)(hs:L[j].s∈gd):SI t l gd L (j+1) (W5 K L[j]) (a1j K O L[j]) (a2P K F L[j]) ends none 0:=by
 have h2:=h.add (.base (B7 hj) hs);refine{h2 with base:=fun i y hi hy hg=>?_};by_cases hij:i=j
 . subst hij;rw[l9 hj]at hy;cases hy;exact b2e _ _
 . exact h2.base i y i9 hy hg
theorem SI.skip{t:j9}{l:List Nat}{gd:List u7}{L:List m9}{j:Nat}{K O F:List m9}{ends:Bool}(h:SI t l gd L j K O F ends none 0)(hj:j<L.length)(hs:L[j].s∉gd):SI t l gd L (j+1) K O F ends none 0:=by
 refine{h with base:=fun i y hi hy hg=>?_};by_cases hij:i=j
 . grind
 . exact h.base i y i9 hy hg
theorem SI.pop{t:j9}{l:List Nat}{gd:List u7}{L:List m9}{j:Nat}{K O F:List m9}{ends:Bool}{x:m9}(h:SI t l gd L j K (O++[x]) F ends none 0):SI t l gd L j K O F (ends||(decide (x.p=l.length)&&B6 t ((j4 t).getD x.x B9))) (some x) 0:=by
 have hxk:=h.opn x k7;have hxo:x∉O:=fun hx=>by have:=(a3Z.1 h.onod).2.2 x hx x k7;exact this rfl
 refine⟨h.nodup,h.sound,h.base,fun y hy=>h.opn y (a2D _ hy),(a3Z.1 h.onod).1,h.fnd,fun y hy hr ho hc a ha=>?_,fun y hc=>?_,?_⟩
 . refine h.done y hy hr (fun e=>?_) k7 a ha
   grind
 . grind
 . rw[a0P,E6,decide_eq_true_eq,h.fin];constructor
   . grind
   . grind
theorem SI.a1i{t:j9}{l:List Nat}{gd:List u7}{L:List m9}{j m:Nat}{K O F:List m9}{ends:Bool}{x:m9}{A:List (Nat×Nat)}(hA:A=E8 t x.x)(hm:m<A.length)(h:SI t l gd L j K O F ends (some x) m)(hf:fits t l x.p A[m].1)(hg:u7.mk (x.p+s7 t A[m].1) A[m].2∈gd):
 SI t l gd L j (W5 K ⟨x.p+s7 t A[m].1,A[m].2,prt t A[m].1⟩) (a1j K O ⟨x.p+s7 t A[m].1,A[m].2,prt t A[m].1⟩) (a2P K F ⟨x.p+s7 t A[m].1,A[m].2,prt t A[m].1⟩) ends (some x) (m+1):=by
 obtain⟨c1,c2,c3,c4⟩:=h.curd x rfl;have hsp:Sp t l gd L ⟨x.p,x.x,[]⟩:=by have:=h.sound x c1;obtain⟨p,y,r⟩:=x;simp only at c2;subst c2;exact this
 have h2:=h.add (.step hsp (hA▸B7 hm) hf hg);refine{h2 with curd:=fun y hy=>?_};cases hy;obtain⟨d1,d2,d3,d4⟩:=h2.curd x rfl;refine⟨d1,d2,d3,fun a ha=>?_⟩;rw[←hA,J2,l9 hm]at ha;rcases G7.1 ha with ha|ha
 . exact d4 a (by grind)
 . simp only[a5P,F7]at ha;subst ha;exact fun _ _=>b2e _ _
theorem SI.not{t:j9}{l:List Nat}{gd:List u7}{L:List m9}{j m:Nat}{K O F:List m9}{ends:Bool}{x:m9}{A:List (Nat×Nat)}(hA:A=E8 t x.x)(hm:m<A.length)(h:SI t l gd L j K O F ends (some x) m)(hn:fits t l x.p A[m].1→u7.mk (x.p+s7 t A[m].1) A[m].2∉gd):SI t l gd L j K O F ends (some x) (m+1):=by
 refine{h with curd:=fun y hy=>?_};cases hy;obtain⟨d1,d2,d3,d4⟩:=h.curd x rfl;refine⟨d1,d2,d3,fun a ha=>?_⟩;rw[←hA,J2,l9 hm]at ha;rcases G7.1 ha with ha|ha
 . exact d4 a (by grind)
 . simp only[a5P,F7]at ha;subst ha;exact fun h1 h2=>absurd h2 (hn h1)
theorem SI.next{t:j9}{l:List Nat}{gd:List u7}{L:List m9}{j:Nat}{K O F:List m9}{ends:Bool}{x:m9}(h:SI t l gd L j K O F ends (some x) (E8 t x.x).length):SI t l gd L j K O F ends none 0:=by
 obtain⟨d1,d2,d3,d4⟩:=h.curd x rfl;refine{h with done:=fun y hy hr ho _ a ha=>?_,curd:=fun y hy=>by cases hy};by_cases hyx:y=x
 . grind
 . exact h.done y hy hr ho (fun e=>hyx (W6 e).symm) a ha
structure SpR(t:j9)(l:List Nat)(gd:List u7)(L F:List m9)(ends:Bool):Prop where
 nodup:F.Nodup
 mem:∀h,h∈F↔Sp t l gd L h∧h.r≠ []
 fin:ends=true↔∃x,Sp t l gd L ⟨l.length,x,[]⟩∧B6 t ((j4 t).getD x B9)=true
theorem SI.end_{t:j9}{l:List Nat}{gd:List u7}{L:List m9}{K F:List m9}{ends:Bool}(h:SI t l gd L L.length K [] F ends none 0):SpR t l gd L F ends:=by
 have hall:∀y,Sp t l gd L y→y∈K:=fun y hy=>by
  induction hy with
  |base h1 h2=>
   obtain⟨i,hi,rfl⟩:=a1F h1;exact h.base i _ hi (l9 hi) h2
  |step _ h2 h3 h4 ih=>exact h.done _ ih rfl k7 k7 _ h2 h3 h4
 refine⟨?_,fun y=>?_,?_⟩
 . rw[h.fnd];exact h.nodup.filter _
 . rw[h.fnd,a7J];refine⟨fun e=>⟨h.sound y e.1,fun hr=>by have:=e.2;rw[hr]at this;simp at this⟩,fun e=>⟨hall y e.1,?_⟩⟩
   grind
 . rw[h.fin];constructor
   . rintro⟨y,y1,y2,_,y3,y4⟩;obtain⟨p,x,r⟩:=y;simp only at y2 y3 y4;subst y2;subst y3;exact⟨x,h.sound _ y1,y4⟩
   . grind
theorem a7p{α:Type} [DecidableEq α]:∀(l m:List α),l.Nodup→(∀x∈l,x∈m)→l.length≤m.length
 | [],m,_,_=>C9 _
 |a::l,m,h,hs=>by
  obtain⟨h1,h2⟩:=a4H.1 h;have ha:=hs a a2W;have:=a7p l (m.erase a) h2 fun x hx=>(List.mem_erase_of_ne (fun e=>h1 (by grind))).2 (hs x (a5g _ hx))
  grind
def c0m(t:j9)(n:Nat):List m9:=(List.range (n+1)).flatMap fun p=>(List.range (j4 t).length).flatMap fun x=>(List.range t.rules.length).map fun k=>⟨p,x,prt t k⟩
theorem a8W{α:Type}(n c:Nat)(f:Nat→List α)(h:∀i,(f i).length=c):((List.range n).flatMap f).length=n*c:=by
 induction n with
 |zero=>simp
 |succ n ih=>rw[a2F,List.flatMap_append,a0u,ih];simp[h,Nat.succ_mul]
theorem c8b(t:j9)(n:Nat):(c0m t n).length=(n+1)*((j4 t).length*t.rules.length):=
 a8W _ _ _ fun _=>a8W _ _ _ fun _=>by simp
theorem SI.bound{t:j9}(ht:s5 t){l:List Nat}{gd:List u7}(hgd:RDs t l gd){L:List m9}{j m:Nat}{K O F:List m9}{ends:Bool}{cur:Option m9}(h:SI t l gd L j K O F ends cur m):K.length≤L.length+(l.length+1)*((j4 t).length*t.rules.length):=by
 rw[←c8b,←a0u];refine a7p _ _ h.nodup fun y hy=>?_;cases h.sound y hy with
 |base h1 _=>exact a2D _ h1
 |step _ h2 h3 h4=>
  rename_i p x a hs;have hR:=(hgd.snd _ _ h4).1;have hx:x<(j4 t).length:=by have:u7.mk p x∈gd:=hs.b6S;exact(hgd.snd _ _ this).1.1
  refine a7K _ ?_;unfold c0m;refine a2V.2 ⟨p+s7 t a.1,a1v.2 (by have:=hR.2.1;omega),a2V.2 ⟨a.2,a1v.2 hR.1,E9.2 ⟨a.1,a1v.2 (a3m ht hx h2).1,rfl⟩⟩⟩
def X82:A0:=
 ⟨92,[0,1,2,4,5,6,7,8,9,10,12,13,14,15,18,19,20,21,30,37,71,75,76,77,83],9,[(3,none),(4,none)],sq [.reg [I0 2 0 0,obc 3,os 4],.reg [oek 1,ow 5 (.alloc 2 [.lit (.map none)]),ol 1 1 0],.reg [ow 6 (.alloc 3 [.nils]),ow 7 (.alloc 4 [.nils])],.G4 6 (some 0) 18 3 (.G4 7 (some 0) 19 3 (sq [.reg [oq (.mkfn (.func 112) [] [.v 5,.v 6,.v 7]),ow 8 (.alloc 5 [.lit .nilFunc]),ol 1 1 0],kj 9,sq [kah 14 1 15 0 16 0,.block 0 (.loop (sq [kh 17 16 15,C4 17 0,.block 1 (sq [.reg [N4 3 14 16,J0 3 0,oez 10 6 0 0,ol 3 2 1],.reg [F6 1 2,D5 0,ou 2 1,ob 1 2,oe 0 10,J0 2 4,oes 18 14 3 5],.cond (.v 18) (.reg [F6 1 8,ok 3 10,oq (.cally (.l 0) [.l 1])]) kd]),kc 16 1 16 0]))],.block 2 (.loop (sq [sq [.reg [F6 1 6,ox 0,odc 19 1 0],C4 19 2],.block 3 (sq [.reg [F6 1 6,F6 1 6,ox 1,obe 2 1,ot 3 0 3,J0 3 4,oez 11 7 0 0,ol 3 6 5],.reg [F6 1 6,F6 1 6,ox 1,obe 2 1,ocg 3 0 3,K7 1 6 4],sq [.reg [oe 0 11,ou 0 0,ob 1 1,F6 1 2,D5 3,ou 1 4,ob 1 5,ox 6,oby 2 7,oo 8,odi 1 2 9,obd 10 9,oaz 0 11 9,od 1 12 9,obd 13 9,oaz 1 14 9,od 1 15 9,oj 0 11 9,oaz 1 17 9,od 1 18 9,oas 1 16 19 9,od 1 20 9,U9 20 9 21],.cond (.v 20) (kae 9) kd],.reg [F6 1 2,oe 0 11,J0 2 1,odf 21 80 0 2],.block 4 (.rfor (.v 21) [some 22,some 23] (sq [.reg [odh 12 22],.reg [odp 13 8 0 0,oq (.store 2 (.l 0) (.v 23))]]) (.block 5 (sq [.reg [F6 1 2,D5 0,ou 2 1,ob 1 2,ok 2 13,oes 24 14 3 4],.cond (.v 24) (.reg [F6 1 8,ok 2 13,oa 12,oq (.build [.int .i64 0,.int .i64 0,.str ⟨#[]⟩] [(0,2,.l 1),(2,1,.l 2)]),oq (.cally (.l 0) [.l 3])]) kd])))])])),.reg [F6 1 7,oce 113 0,oa 9,oc 3 1,oc 4 2],ko]))]⟩
theorem c82:D0 82 X82:=D3
abbrev HQ(h:m9):PV:=.agg [IN h.p,IN h.x,St h.r]
theorem c1G(a b:m9):a0w (HQ a) (HQ b)=some (decide (a=b)):=by
 cases a;cases b;have hb:∀r q:By,((ByteArray.mk ⟨r⟩==ByteArray.mk ⟨q⟩))=decide (r=q):=fun r q=>by rw[show(ByteArray.mk ⟨r⟩==ByteArray.mk ⟨q⟩)=((⟨r⟩:Array UInt8)==⟨q⟩)from rfl,Bool.eq_iff_iff];simp
 simp[a0w,U8,a0N,Bool.and_assoc,hb]
@[simp] theorem d2q(a b:Nat)(r:By)(L:List m9):W9 (.agg [.int .i64 a,.int .i64 b,.str ⟨⟨r⟩⟩]) (L.map HQ) 0=some (L.idxOf? ⟨a,b,r⟩):=by have:=a7g c1G ⟨a,b,r⟩ L 0;simpa using this
abbrev TH(h:m9):PV:=B true
@[simp] theorem d0S(l:List m9):List.map (B3∘HQ) l=l.map HQ:=L9 fun _ _=>rfl
def a3D(E:List m9)(n:Nat)(h:m9):List m9:=E.take n++h::E.drop (n+1)
noncomputable abbrev HS(t:j9)(l:List Nat)(gd:List u7)(K E:List m9)(n:Nat)(F:List m9)(R6 R7 R8 R10 R11 R12 R13:Row)(g14 g16 v18 v19:Nat):l5:=
 [(1,.var [RD t l gd]),(1,.mp false (K.map HQ) (K.map TH)),(1,.var [.mapv 1 1]),(1,.var [.own 18 1 E.length 3 0 n]),(1,.var [.own 19 1 F.length 3 0 F.length]),(1,.var [.fn (.func 112) [] [.ptr 2 1 0,.ptr 3 1 0,.ptr 4 1 0]]),
  R6,R7,R8,dd,R10,R11,R12,R13,(g14,.dead),dd,(g16,.dead),dd,(1,.arr 3 v18 false (E.map HQ)),(1,.arr 3 v19 false (F.map HQ))]
theorem c3E(t:j9)(l:List Nat)(gd:List u7)(K E:List m9)(n:Nat)(F:List m9)(R6 R7 R8 R10 R11 R12 R13:Row)(g14 g16 v18 v19:Nat):
 FI Tryz.prog (.fn (.func 113) [] []) [.own 19 1 F.length 3 0 F.length] (HS t l gd K E n F R6 R7 R8 R10 R11 R12 R13 g14 g16 v18 v19) (.own 19 1 F.length 3 0 F.length) []:=by
 refine a3k mixed (X:=a6V) c113 (by rfl) (by simp[a6V]) k7 fun Q hR hN=>?_;simp[a6V,HS];refine hR _ _ ?_;simp[P6,a6V]
theorem c1H(t:j9)(l:List Nat)(gd:List u7)(K E:List m9)(n:Nat)(F:List m9)(R6 R7 R8 R10 R11 R12 R13:Row)(g14 g16 v18 v19 p x:Nat)(r:By)(i:Nat)(hi:K.idxOf? (m9.mk p x r)=some i)(hl:i<K.length):
 FI Tryz.prog (.fn (.func 112) [] [.ptr 2 1 0,.ptr 3 1 0,.ptr 4 1 0]) [.agg [IN p,IN x,St r]] (HS t l gd K E n F R6 R7 R8 R10 R11 R12 R13 g14 g16 v18 v19) (.tup []) [(13,(R13.1+1,.var [IN p,IN x,St r]))]:=by
 refine a3k mixed (X:=a1Q) b1R (by rfl) (by simp[a1Q]) k7 fun Q hR hN=>?_;simp[a1Q,HS,hi,hl];refine hR _ _ ?_;simp[P6,a1Q]
theorem c8r(t:j9)(l:List Nat)(gd:List u7)(K E:List m9)(n:Nat)(F:List m9)(R6 R7 R8 R10 R11 R12 R13:Row)(g14 g16 v18 v19 p x:Nat)(hi:K.idxOf? (m9.mk p x [])=none)(hn:n≤E.length)(hb:(n+1)*32≤140737488355328):
 ∃r ws,(∃v18',r=.tup []∧ws=[(1,(1,.mp false ((K++[m9.mk p x []]).map HQ) ((K++[m9.mk p x []]).map TH))),(3,(1,.var [.own 18 1 (a3D E n ⟨p,x,[]⟩).length 3 0 (n+1)])),(13,(R13.1+1,.var [IN p,IN x,St []])),(14,(g14+1,.dead)),(18,(1,.arr 3 v18' false ((a3D E n ⟨p,x,[]⟩).map HQ)))])∧
 FI Tryz.prog (.fn (.func 112) [] [.ptr 2 1 0,.ptr 3 1 0,.ptr 4 1 0]) [.agg [IN p,IN x,St []]] (HS t l gd K E n F R6 R7 R8 R10 R11 R12 R13 g14 g16 v18 v19) r ws:=by
 obtain⟨k2,hk2⟩:=p8 (K++[m9.mk p x []]);rw[←hk2];have e1:K.map HQ++[.agg [IN p,IN x,St []]]=k2.map HQ:=by grind
 have e2:K.map TH++[B true]=k2.map TH:=by grind
 obtain⟨E2,hE2⟩:=p8 (a3D E n ⟨p,x,[]⟩);rw[←hE2];refine a3L mixed (X:=a1Q) b1R (by rfl) (by simp[a1Q]) k7 (by kernel_rfl) fun Q hR hN=>?_;by_cases hne:n=E.length
 . have e3:E.map HQ++[.agg [IN p,IN x,St []]]=E2.map HQ:=(by rw[hE2];unfold a3D;rw[hne];simp);have e4:E.length+1=E2.length:=(by rw[hE2];unfold a3D;rw[hne];simp);subst hne;have hb':=hb;rw[e4]at hb';simp[a1Q,HS,hi,e1,e2,hb',e3,e4];refine hN _ [(1,(1,.mp false (k2.map HQ) (k2.map TH))),(3,(1,.var [.own 18 1 E2.length 3 0 (E.length+1)])),(13,(R13.1+1,.var [IN p,IN x,St []])),(14,(g14+1,.dead)),(18,(1,.arr 3 v18 false (E2.map HQ)))] _ _ ⟨v18,rfl,rfl⟩ ?_;simp[P6,a1Q,e4]
 . have e3:(E.map HQ).take n++ .agg [IN p,IN x,St []]::(E.map HQ).drop (n+1)=E2.map HQ:=(by rw[hE2];unfold a3D;simp[a3v,a1H]);have e4:n+(E.length-(n+1)+1)=E2.length:=(by rw[hE2];unfold a3D;simp;omega);simp[a1Q,HS,hi,e1,e2,hn,hb,hne,e3,e4];refine hN _ [(1,(1,.mp false (k2.map HQ) (k2.map TH))),(3,(1,.var [.own 18 1 E2.length 3 0 (n+1)])),(13,(R13.1+1,.var [IN p,IN x,St []])),(14,(g14+1,.dead)),(18,(1,.arr 3 (v18+1) false (E2.map HQ)))] _ _ ⟨v18+1,rfl,rfl⟩ ?_;simp[P6,a1Q]
theorem c6B(t:j9)(l:List Nat)(gd:List u7)(K E:List m9)(n:Nat)(F:List m9)(R6 R7 R8 R10 R11 R12 R13:Row)(g14 g16 v18 v19 p x:Nat)(r:By)(hr:r≠ [])(hi:K.idxOf? (m9.mk p x r)=none)(hb:(F.length+1)*32≤140737488355328):
 FI Tryz.prog (.fn (.func 112) [] [.ptr 2 1 0,.ptr 3 1 0,.ptr 4 1 0]) [.agg [IN p,IN x,St r]] (HS t l gd K E n F R6 R7 R8 R10 R11 R12 R13 g14 g16 v18 v19) (.tup [])
  [(1,(1,.mp false ((K++[m9.mk p x r]).map HQ) ((K++[m9.mk p x r]).map TH))),(4,(1,.var [.own 19 1 (F++[m9.mk p x r]).length 3 0 (F++[m9.mk p x r]).length])),(13,(R13.1+1,.var [IN p,IN x,St r])),(16,(g16+1,.dead)),(19,(1,.arr 3 v19 false ((F++[m9.mk p x r]).map HQ)))]:=by
 obtain⟨k2,hk2⟩:=p8 (K++[m9.mk p x r]);obtain⟨F2,hF2⟩:=p8 (F++[m9.mk p x r]);rw[←hk2,←hF2];have e1:K.map HQ++[.agg [IN p,IN x,St r]]=k2.map HQ:=by grind
 have e2:K.map TH++[B true]=k2.map TH:=by grind
 have e3:F.map HQ++[.agg [IN p,IN x,St r]]=F2.map HQ:=by grind
 have e4:F.length+1=F2.length:=by rw[hF2];simp
 rw[e4]at hb;refine a3k mixed (X:=a1Q) b1R (by rfl) (by simp[a1Q]) k7 fun Q hR hN=>?_;simp[a1Q,HS,hi,e1,e2,hb,e3,e4,hr];refine hN _ _ ?_;simp[P6,a1Q]
theorem b6r(t:j9)(l:List Nat)(gd:List u7)(K E:List m9)(n:Nat)(F:List m9)(R6 R7 R8 R10 R11 R12 R13:Row)(g14 g16 v18 v19:Nat)(h:m9)(hn:n≤E.length)(hEK:E.length≤K.length)(hb:(n+1)*32≤140737488355328)(hb2:(F.length+1)*32≤140737488355328)(ho:∀x∈E.take n,x∈K):
 ∃E' n' R13' g14' g16' v18' ws,E'.take n'=a1j K (E.take n) h∧n'≤E'.length∧E'.length≤(W5 K h).length∧n'+2*K.length≤n+2*(W5 K h).length∧
  FI Tryz.prog (.fn (.func 112) [] [.ptr 2 1 0,.ptr 3 1 0,.ptr 4 1 0]) [.agg [IN h.p,IN h.x,St h.r]] (HS t l gd K E n F R6 R7 R8 R10 R11 R12 R13 g14 g16 v18 v19) (.tup []) ws∧
  m6 (HS t l gd K E n F R6 R7 R8 R10 R11 R12 R13 g14 g16 v18 v19) ws=HS t l gd (W5 K h) E' n' (a2P K F h) R6 R7 R8 R10 R11 R12 R13' g14' g16' v18' v19:=by
 obtain⟨p,x,r⟩:=h;by_cases hk:m9.mk p x r∈K
 . obtain⟨i,hi⟩:∃i,K.idxOf? (m9.mk p x r)=some i:=by
    cases hx:K.idxOf? (m9.mk p x r)with
    |none=>exact absurd hk (a2j.1 hx)
    |some n=>exact⟨n,rfl⟩
   have hil:i<K.length:=by rw[List.idxOf?,a1V]at hi;exact hi.1
   have hf:=c1H t l gd K E n F R6 R7 R8 R10 R11 R12 R13 g14 g16 v18 v19 p x r i hi hil;unfold W5 a1j a2P;rw[if_pos hk,if_pos hk,if_pos hk];exact⟨E,n,_,g14,g16,v18,_,rfl,hn,hEK,m0 _,hf,rfl⟩
 . have hi:=a2j.2 hk;unfold W5 a1j a2P;rw[if_neg hk,if_neg hk,if_neg hk];by_cases hr:r=[]
   . subst hr;obtain⟨r,ws,⟨v18',rfl,rfl⟩,hf⟩:=c8r t l gd K E n F R6 R7 R8 R10 R11 R12 R13 g14 g16 v18 v19 p x hi hn hb;refine⟨a3D E n ⟨p,x,[]⟩,n+1,_,g14+1,g16,v18',_,?_,?_,?_,?_,hf,rfl⟩
     . rw[if_pos rfl];unfold a3D;rw[List.take_append,a1G,Nat.min_eq_left hn,List.take_take,Nat.min_eq_right i9,show n+1-n=1 by omega];rfl
     . unfold a3D;simp;omega
     . unfold a3D;simp;omega
     . simp;omega
   . have hf:=c6B t l gd K E n F R6 R7 R8 R10 R11 R12 R13 g14 g16 v18 v19 p x r hr hi hb2;rw[if_neg hr,if_neg hr];exact⟨E,n,_,g14,g16+1,v18,_,rfl,hn,I3,I3,hf,rfl⟩
section
variable{t:j9}{l:List Nat}{gd:List u7}
abbrev H3:=List m9×List m9×List m9
def a4U(st:H3)(h:m9):H3:=(W5 st.1 h,a1j st.1 st.2.1 h,a2P st.1 st.2.2 h)
def inS(gd:List u7)(st:H3)(h:m9):H3:=if h.s∈gd then a4U st h else st
def arS(t:j9)(l:List Nat)(gd:List u7)(x:m9)(st:H3)(a:Nat×Nat):H3:=if fits t l x.p a.1∧u7.mk (x.p+s7 t a.1) a.2∈gd then a4U st ⟨x.p+s7 t a.1,a.2,prt t a.1⟩else st
noncomputable def stO(t:j9)(l:List Nat)(gd:List u7)(s:H3×Bool):H3×Bool:=match s.1.2.1.getLast? with
 |none=>s
 |some x=>((E8 t x.x).foldl (arS t l gd x) (s.1.1,s.1.2.1.dropLast,s.1.2.2),s.2||(decide (x.p=l.length)&&B6 t ((j4 t).getD x.x B9)))
noncomputable def rnO(t:j9)(l:List Nat)(gd:List u7):Nat→H3×Bool→H3×Bool
 |0,s=>s
 |n+1,s=>if s.1.2.1=[]then s else rnO t l gd n (stO t l gd s)
def a0A(t:j9)(l:List Nat)(L:List m9):Nat:=L.length+(l.length+1)*((j4 t).length*t.rules.length)
noncomputable def Y2(t:j9)(l:List Nat)(gd:List u7)(L:List m9):H3×Bool:=rnO t l gd (2*a0A t l L) (L.foldl (inS gd) ([],[],[]),false)
abbrev SI'(t:j9)(l:List Nat)(gd:List u7)(L:List m9)(j:Nat)(s:H3×Bool)(cur:Option m9)(m:Nat):Prop:=SI t l gd L j s.1.1 s.1.2.1 s.1.2.2 s.2 cur m
theorem a5F{α β:Type}(f:β→α→β)(b:β){l:List α}{j:Nat}(hj:j<l.length):(l.take (j+1)).foldl f b=f ((l.take j).foldl f b) l[j]:=by rw[J2,l9 hj,List.foldl_append];rfl
theorem b1A(t:j9)(l:List Nat)(gd:List u7)(L:List m9):∀j,j≤L.length→SI' t l gd L j ((L.take j).foldl (inS gd) ([],[],[]),false) none 0
 |0,_=>SI.start t l gd L
 |j+1,h=>by
  have ih:=b1A t l gd L j i9;rw[a5F _ _ (show j<L.length by omega)];unfold inS;split
  . rename_i hs;exact ih.input i9 hs
  . rename_i hs;exact ih.skip i9 hs
theorem b2D{t:j9}{l:List Nat}{gd:List u7}{L:List m9}{x:m9}{st:H3}{ends:Bool}(h:SI' t l gd L L.length (st,ends) (some x) 0):∀k,k≤(E8 t x.x).length→SI' t l gd L L.length (((E8 t x.x).take k).foldl (arS t l gd x) st,ends) (some x) k
 |0,_=>h
 |k+1,hk=>by
  have ih:=b2D h k i9;rw[a5F _ _ (show k<(E8 t x.x).length by omega)];unfold arS;split
  . rename_i hs;exact ih.a1i rfl i9 hs.1 hs.2
  . rename_i hs;exact ih.not rfl i9 fun h1 h2=>hs ⟨h1,h2⟩
theorem b5l{α:Type}{l:List α}{x:α}(h:l.getLast?=some x):l=l.dropLast++[x]:=by obtain⟨y,hy⟩:=List.getLast?_eq_some_iff.1 h;rw[hy];simp
theorem b8V{L:List m9}{s:H3×Bool}(h:SI' t l gd L L.length s none 0):SI' t l gd L L.length (stO t l gd s) none 0:=by
 unfold stO;cases hx:s.1.2.1.getLast? with
 |none=>exact h
 |some x=>
  have h1:SI t l gd L L.length s.1.1 (s.1.2.1.dropLast++[x]) s.1.2.2 s.2 none 0:=by rw[←b5l hx];exact h
  have h2:=b2D (st:=(s.1.1,s.1.2.1.dropLast,s.1.2.2)) h1.pop _ (m0 _);rw[J7]at h2;exact h2.next
def msO(T:Nat)(K O:List m9):Nat:=2*(T-K.length)+O.length
theorem c9v{T:Nat}(st:H3)(h:m9)(hT:(a4U st h).1.length≤T):msO T (a4U st h).1 (a4U st h).2.1≤msO T st.1 st.2.1∧st.1.length≤(a4U st h).1.length:=by
 unfold a4U W5 a1j msO at*
 grind
theorem c3U(t:j9)(l:List Nat)(gd:List u7)(x:m9)(st:H3)(a:Nat×Nat):st.1.length≤(arS t l gd x st a).1.length:=by
 unfold arS;split
 . unfold a4U W5;simp only;split<;>simp
 . exact m0 _
theorem b9A{t:j9}{l:List Nat}{gd:List u7}{x:m9}{T:Nat}:∀(A:List (Nat×Nat)) (st:H3),(A.foldl (arS t l gd x) st).1.length≤T→msO T (A.foldl (arS t l gd x) st).1 (A.foldl (arS t l gd x) st).2.1≤msO T st.1 st.2.1∧st.1.length≤(A.foldl (arS t l gd x) st).1.length
 | [],st,_=>⟨m0 _,m0 _⟩
 |a::A,st,h=>by
  rw[a2B]at h⊢;obtain⟨h1,h2⟩:=b9A A _ h;have h3:=c3U t l gd x st a;refine⟨S7 h1 ?_,i9⟩;unfold arS at h h2 h3⊢;split
  . rename_i hs;rw[if_pos hs]at h2 h;exact(c9v st _ i9).1
  . exact m0 _
theorem b8Y(ht:s5 t)(hgd:RDs t l gd){L:List m9}{s:H3×Bool}(h:SI' t l gd L L.length s none 0)(ho:s.1.2.1≠ []):msO (a0A t l L) (stO t l gd s).1.1 (stO t l gd s).1.2.1<msO (a0A t l L) s.1.1 s.1.2.1:=by
 have hb:=(b8V h).bound ht hgd;obtain⟨x,hx⟩:∃x,s.1.2.1.getLast?=some x:=by
  cases hx:s.1.2.1.getLast? with
  |none=>exact absurd (List.getLast?_eq_none_iff.1 hx) ho
  |some x=>exact⟨x,rfl⟩
 have hl:=congrArg List.length (b5l hx);simp only[a0u,a9E]at hl;unfold stO at hb⊢;rw[hx]at hb⊢;have:=(b9A (t:=t) (l:=l) (gd:=gd) (x:=x) (T:=a0A t l L) (E8 t x.x) (s.1.1,s.1.2.1.dropLast,s.1.2.2) hb).1;refine Nat.lt_of_le_of_lt this ?_;unfold msO;simp only;omega
theorem c6x{s:H3×Bool}(h:s.1.2.1=[]):∀n,rnO t l gd n s=s
 |0=>rfl
 |n+1=>by unfold rnO;rw[if_pos h]
theorem b5T{t:j9}(ht:s5 t){l:List Nat}{gd:List u7}(hgd:RDs t l gd){L:List m9}:∀(n:Nat) (s:H3×Bool),SI' t l gd L L.length s none 0→msO (a0A t l L) s.1.1 s.1.2.1≤n→SI' t l gd L L.length (rnO t l gd n s) none 0∧(rnO t l gd n s).1.2.1=[]
 |0,s,h,hm=>by
  refine⟨h,?_⟩;unfold msO at hm;exact a0Q.1 (by show s.1.2.1.length=0;omega)
 |n+1,s,h,hm=>by
  unfold rnO;by_cases ho:s.1.2.1=[]
  . rw[if_pos ho];exact⟨h,ho⟩
  . rw[if_neg ho];exact b5T ht hgd n _ (b8V h) (by have:=b8Y ht hgd h ho;omega)
theorem b9e(ht:s5 t)(hgd:RDs t l gd)(L:List m9):msO (a0A t l L) (L.foldl (inS gd) ([],[],[])).1 (L.foldl (inS gd) ([],[],[])).2.1≤2*a0A t l L:=by
 have key:∀(M:List m9) (st:H3),st.2.1.length≤st.1.length→(M.foldl (inS gd) st).2.1.length≤(M.foldl (inS gd) st).1.length:=by
  intro M
  induction M with
  |nil=>intro st h;exact h
  |cons h M ih=>
   intro st hs;rw[a2B];refine ih _ ?_;unfold inS;split
   . unfold a4U W5 a1j
     grind
   . exact hs
 have h1:=b1A t l gd L L.length (m0 _);rw[J7]at h1;have h2:=h1.bound ht hgd;have h3:=key L ([],[],[]) k7;unfold msO;simp only at h2;show 2*(a0A t l L-_)+_≤_;have:(L.foldl (inS gd) ([],[],[])).1.length≤a0A t l L:=h2;omega
theorem a8u(ht:s5 t)(hgd:RDs t l gd)(L:List m9):SpR t l gd L (Y2 t l gd L).1.2.2 (Y2 t l gd L).2:=by
 have h1:=b1A t l gd L L.length (m0 _);rw[J7]at h1;obtain⟨h2,h3⟩:=b5T ht hgd (2*a0A t l L) _ h1 (b9e ht hgd L);have h4:SI t l gd L L.length (Y2 t l gd L).1.1 [] (Y2 t l gd L).1.2.2 (Y2 t l gd L).2 none 0:=by have e:(Y2 t l gd L).1.2.1=[]:=h3;have:=h2;unfold SI' at this;rw[show rnO t l gd (2*a0A t l L) (L.foldl (inS gd) ([],[],[]),false)=Y2 t l gd L from rfl,e]at this;exact this
 exact h4.end_
end
theorem c3g(t:j9)(l:List Nat)(gd:List u7)(K E:List m9)(n:Nat)(F:List m9)(R6 R7 R8 R10 R11 R12 R13:Row)(g14 g16 v18 v19 i x:Nat):FI Tryz.prog (.fn (.func 80) [] []) [RD t l gd,.agg [IN i,IN x]] (HS t l gd K E n F R6 R7 R8 R10 R11 R12 R13 g14 g16 v18 v19)
 (.fn (.func 111) [] [.ptr 10 (R10.1+1) 0,.ptr 11 (R11.1+1) 0]) [(10,(R10.1+1,.var [RD t l gd])),(11,(R11.1+1,.var [IN i,IN x]))]:=by
 refine a3k mixed (X:=X80) c80 (by rfl) (by simp[X80]) k7 fun Q hR hN=>?_;simp[X80,HS];refine hR _ _ ?_;simp[X80,P6]
theorem b5d{α:Type} [DecidableEq α]{L:List α}{x:α}{n:Nat}(h:L.idxOf? x=some n):x∈L∧n<L.length:=by
 constructor
 . refine Decidable.byContradiction fun hm=>?_;rw[a2j.2 hm]at h;cases h
 . rw[List.idxOf?,a1V]at h;exact h.1
theorem b4d(t:j9)(ht:s5 t)(l:List Nat)(hl:l.length≤1100000000)(gd:List u7)(hgd:RDs t l gd)(L:List m9)(hT:a0A t l L≤4000000000000):
 F0 82 [3,0] [RD t l gd,.slc (L.map HQ)] (.tup [.uslc ((Y2 t l gd L).1.2.2.map HQ),B (Y2 t l gd L).2]):=by
 have hNN:=a1g ht;have hla:(O4 t).length=(j4 t).length:=by simp[O4]
 have hgl:(gL (E0 t) t).length=(j4 t).length:=by simp[gL]
 have hbs:∀{j m:Nat} {K O F:List m9} {ends:Bool} {cur:Option m9},SI t l gd L j K O F ends cur m→K.length≤4000000000000∧F.length≤K.length:=fun h=>by have h1:=h.bound ht hgd;refine⟨S7 h1 hT,?_⟩;rw[h.fnd];exact List.length_filter_le _ _
 have hLc:L.length≤4000000000000:=by unfold a0A at hT;omega
 refine E7 c82 20 (by simp[X82]) fun Q hR hN=>?_;simp[X82];refine E3 (fun(y:Nat×List m9×List m9×Nat×List m9×Row×Row×Nat×Nat×Nat×PV×PV×PV) vs h=>y.1≤L.length∧(y.2.1,y.2.2.1.take y.2.2.2.1,y.2.2.2.2.1)=(L.take y.1).foldl (inS gd) ([],[],[])∧y.2.2.2.1≤y.2.2.1.length∧y.2.2.1.length≤y.2.1.length∧
  vs=[RD t l gd,.slc (L.map HQ),.ptr 0 1 0,.nils,B false,.ptr 2 1 0,.ptr 3 1 0,.ptr 4 1 0,.ptr 5 1 0,B false,y.2.2.2.2.2.2.2.2.2.2.1,.uu,.uu,.uu,.slc (L.map HQ),IN L.length,IN y.1,y.2.2.2.2.2.2.2.2.2.2.2.1,y.2.2.2.2.2.2.2.2.2.2.2.2,.uu,.uu,.uu,.uu,.uu,.uu]∧
  h=HS t l gd y.2.1 y.2.2.1 y.2.2.2.1 y.2.2.2.2.1 y.2.2.2.2.2.1 dd dd dd dd dd y.2.2.2.2.2.2.1 y.2.2.2.2.2.2.2.1 y.2.2.2.2.2.2.2.2.1 y.2.2.2.2.2.2.2.2.2.1 0) (fun y=>L.length-y.1)
  (0,[],[],0,[],dd,dd,0,0,0,.uu,.uu,.uu) ⟨C9 _,rfl,m0 _,m0 _,rfl,rfl⟩ ?_
 rintro⟨j,K,E,n,F,R6,R13,g14,g16,v18,w10,w17,w18⟩ vs h ⟨y1,y2,y3,y4,rfl,rfl⟩ Q2 hK2 hX2 hR2;dsimp only at y1 y2 y3 y4;have hSI:=b1A t l gd L j y1;rw[←y2]at hSI;obtain⟨hK1,hF1⟩:=hbs hSI;dsimp only at hK1 hF1;by_cases hj:j<L.length
 . have hwj:=wk1 j i9;have hst:=a5F (inS gd) ([],[],[]) hj;rw[←y2]at hst;obtain⟨x,hx⟩:=p8 (L[j]);rw[←hx]at hst;cases hid:gd.idxOf? x.s with
   |some m=>
    obtain⟨hm1,hm2⟩:=b5d hid;have e:inS gd (K,E.take n,F) x=(W5 K x,a1j K (E.take n) x,a2P K F x):=(by unfold inS;rw[if_pos hm1];rfl);rw[e]at hst;obtain⟨E',n',R13',g14',g16',v18',ws,z1,z2,z3,z4,z5,z6⟩:=b6r t l gd K E n F (R6.1+1,.var [IN x.p,IN x.x,St x.r]) dd dd dd dd dd R13 g14 g16 v18 0 x y3 y4 i9 i9 (fun y hy=>(hSI.opn y hy).1);simp[HS,hj,←hx,hid,hm2];refine a4A z5 z6 rfl ?_;simp[HS,hwj];exact hK2 (j+1,W5 K x,E',n',a2P K F x,_,R13',g14',g16',v18',_,_,_) _ _ m7 ⟨m7,by dsimp only;rw[z1];exact hst.symm,z2,z3,rfl,rfl⟩
   |none=>
    have e:inS gd (K,E.take n,F) x=(K,E.take n,F):=(by unfold inS;rw[if_neg (a2j.1 hid)]);rw[e]at hst;simp[HS,hj,←hx,hid,hwj];exact hK2 (j+1,K,E,n,F,_,R13,g14,g16,v18,_,_,_) _ _ m7 ⟨m7,hst.symm,y3,y4,rfl,rfl⟩
 . obtain rfl:j=L.length:=i9;rw[J7]at y2;simp[HS];refine hX2 _ _ _ ?_;simp;have hfin:Y2 t l gd L=rnO t l gd (2*a0A t l L) ((K,E.take n,F),false):=(by unfold Y2;rw[←y2]);have hms:msO (a0A t l L) K (E.take n)≤2*a0A t l L:=by
    have:=b9e ht hgd L;rw[←y2]at this;exact this
   refine E3 (fun(y:Nat×List m9×List m9×Nat×List m9×Bool×Row×Row×Row×Row×Row×Row×Nat×Nat×Nat×PV×PV×PV×PV) vs h=>Y2 t l gd L=rnO t l gd y.1 ((y.2.1,y.2.2.1.take y.2.2.2.1,y.2.2.2.2.1),y.2.2.2.2.2.1)∧msO (a0A t l L) y.2.1 (y.2.2.1.take y.2.2.2.1)≤y.1∧SI t l gd L L.length y.2.1 (y.2.2.1.take y.2.2.2.1) y.2.2.2.2.1 y.2.2.2.2.2.1 none 0∧y.2.2.2.1≤y.2.2.1.length∧y.2.2.1.length≤y.2.1.length∧
    vs=[RD t l gd,.slc (L.map HQ),.ptr 0 1 0,.nils,B false,.ptr 2 1 0,.ptr 3 1 0,.ptr 4 1 0,.ptr 5 1 0,B y.2.2.2.2.2.1,w10,y.2.2.2.2.2.2.2.2.2.2.2.2.2.2.2.1,.uu,.uu,.slc (L.map HQ),IN L.length,IN L.length,.bool false,w18,y.2.2.2.2.2.2.2.2.2.2.2.2.2.2.2.2.1,y.2.2.2.2.2.2.2.2.2.2.2.2.2.2.2.2.2.1,y.2.2.2.2.2.2.2.2.2.2.2.2.2.2.2.2.2.2,.uu,.uu,.uu]∧
    h=HS t l gd y.2.1 y.2.2.1 y.2.2.2.1 y.2.2.2.2.1 R6 y.2.2.2.2.2.2.1 y.2.2.2.2.2.2.2.1 y.2.2.2.2.2.2.2.2.1 y.2.2.2.2.2.2.2.2.2.1 y.2.2.2.2.2.2.2.2.2.2.1 y.2.2.2.2.2.2.2.2.2.2.2.1 y.2.2.2.2.2.2.2.2.2.2.2.2.1 y.2.2.2.2.2.2.2.2.2.2.2.2.2.1 y.2.2.2.2.2.2.2.2.2.2.2.2.2.2.1 0) (fun y=>y.1)
    (2*a0A t l L,K,E,n,F,false,dd,dd,dd,dd,dd,_,_,_,_,.uu,.uu,.uu,.uu) ⟨hfin,hms,hSI,y3,y4,rfl,rfl⟩ ?_
   rintro⟨m,K,E,n,F,ends,R7,R8,R10,R11,R12,R13,g14,g16,v18,w11,w19,w20,w21⟩ vs h ⟨z1,z2,z3,z4,z5,rfl,rfl⟩ Q3 hK3 hX3 hR3;dsimp only at z1 z2 z3 z4 z5;obtain⟨hK1,hF1⟩:=hbs z3;cases n with
   |zero=>
    rw[List.take_zero,c6x rfl]at z1;simp[HS];refine hX3 _ _ _ ?_;simp;refine a2O (c3E t l gd K E 0 F R6 R7 R8 R10 R11 R12 R13 g14 g16 v18 0) ?_;simp;refine hR _ _ ?_;simp[X82,z1]
   |succ n=>
    generalize hN:n+1=N at z1 z2 z3 z4⊢;have hwl:IntKind.i64.wrap ((N:Int)-1)=(n:Int):=(by rw[wrap_ok i9 i9];omega);have hN0:0<N:=i9;have hnN:n<N:=i9;have hnN2:n≤N:=i9;have hnE:n<E.length:=i9;obtain⟨x,hx⟩:=p8 (E[n]);have hEt:E.take N=E.take n++[x]:=(by rw[←hN,J2,l9 hnE,hx];rfl);rw[hEt]at z1 z2 z3;have hxk:=z3.opn x k7;have hgx:=(z3.sound x hxk.1).b6S;have hRx:=(hgd.snd _ _ hgx).1;have hxN:=hRx.1;have hpl:x.p≤l.length:=hRx.2.1;have hst:(j4 t).getD x.x B9=(j4 t)[x.x]:=(by rw[u9,l9 hxN];rfl);have hacA:(O4 t)[x.x]'i9=B6 t (j4 t)[x.x]:=(by simp only[O4,a1e]);have hpop:=z3.pop;obtain⟨A,hA⟩:=p8 (E8 t x.x);have hxA:(gL (E0 t) t)[x.x]'i9=A:=(by rw[hA];unfold E8;rw[u9,l9 i9];rfl);have hAl:A.length≤64:=hA▸a5n ht x.x;have hAok:∀a∈A,a.1<t.rules.length∧a.2<(j4 t).length∧1≤s7 t a.1∧s7 t a.1≤4:=fun a ha=>a3m ht hxN (hA▸ha);obtain⟨e2,he2⟩:∃e2,e2=(ends||(decide (x.p=l.length)&&B6 t ((j4 t).getD x.x B9))):=⟨_,rfl⟩
    rw[←he2]at hpop;have hso:stO t l gd ((K,E.take n++[x],F),ends)=(A.foldl (arS t l gd x) (K,E.take n,F),e2):=by unfold stO;simp only[List.getLast?_append,List.getLast?_singleton,Option.some_or];rw[List.dropLast_concat,←hA,he2]
    have hm0:0<m:=(by unfold msO at z2;simp at z2;omega);obtain⟨m',hm'⟩:∃m',m=m'+1:=⟨m-1,i9⟩
    have hlt:=b8Y ht hgd (s:=((K,E.take n++[x],F),ends)) z3 k7;rw[hso]at hlt;have hone:rnO t l gd m ((K,E.take n++[x],F),ends)=rnO t l gd m' (A.foldl (arS t l gd x) (K,E.take n,F),e2):=by
     rw[hm']
     conv=>lhs;unfold rnO
     rw[if_neg k7,hso]
    rw[hone]at z1;have hcut:e2=true∧(x.p=l.length∧B6 t (j4 t)[x.x]=true)∨e2=ends∧¬(x.p=l.length∧B6 t (j4 t)[x.x]=true):=by
     rw[he2,hst];by_cases h1:x.p=l.length
     . cases h2:B6 t (j4 t)[x.x]<;>simp[h1]
     . simp[h1]
    clear he2 hso hone;rcases hcut with⟨rfl,hc1,hc2⟩|⟨rfl,hc⟩
    case' inl=>
     simp[HS,hwl,hN0,hnN,hnN2,hnE,←hx,eq_true hc1,hla,hxN,hacA,hc2]
    case' inr=>
     by_cases hpe:x.p=l.length
     case' pos=>
      have hc2:B6 t (j4 t)[x.x]=false:=by
       cases h2:B6 t (j4 t)[x.x]with
       |false=>rfl
       |true=>exact absurd ⟨hpe,h2⟩ hc
      simp[HS,hwl,hN0,hnN,hnN2,hnE,←hx,eq_true hpe,hla,hxN,hacA,hc2]
     case' neg=>
      simp[HS,hwl,hN0,hnN,hnN2,hnE,←hx,eq_false hpe]
    all_goals
     refine a2O (c3g t l gd K E n F R6 (R7.1+1,.var [IN x.p,IN x.x,St x.r]) R8 R10 R11 R12 R13 g14 g16 v18 0 x.p x.x) ?_;simp[HS];refine b2P mixed (X:=a3M) b3B rfl (by rfl) (by simp[a3M]) k7 ?_;intro ly Q4 hR4' hN4;simp[a3M,hgl,hxN,hxA];refine E3 (fun(y:Nat×List m9×List m9×Nat×List m9×Row×Row×Row×Nat×Nat×Nat×PV×PV×PV) vs h=>y.1≤A.length∧(y.2.1,y.2.2.1.take y.2.2.2.1,y.2.2.2.2.1)=(A.take y.1).foldl (arS t l gd x) (K,E.take n,F)∧y.2.2.2.1≤y.2.2.1.length∧y.2.2.1.length≤y.2.1.length∧
      vs=[.fn (.yield ly) [] [],.ptr 10 (R10.1+1) 0,.ptr 11 (R11.1+1) 0,y.2.2.2.2.2.2.2.2.2.2.2.1,SG t A,IN A.length,IN y.1,y.2.2.2.2.2.2.2.2.2.2.2.2.1,y.2.2.2.2.2.2.2.2.2.2.2.2.2,gOf none]∧
      h=HS t l gd y.2.1 y.2.2.1 y.2.2.2.1 y.2.2.2.2.1 R6 (R7.1+1,.var [IN x.p,IN x.x,St x.r]) y.2.2.2.2.2.1 (R10.1+1,.var [RD t l gd]) (R11.1+1,.var [IN x.p,IN x.x]) y.2.2.2.2.2.2.1 y.2.2.2.2.2.2.2.1 y.2.2.2.2.2.2.2.2.1 y.2.2.2.2.2.2.2.2.2.1 y.2.2.2.2.2.2.2.2.2.2.1 0) (fun y=>A.length-y.1)
      (0,K,E,n,F,R8,R12,R13,g14,g16,v18,.uu,.uu,.uu) ⟨C9 _,rfl,m7,z5,rfl,rfl⟩ ?_
     rintro⟨k,K',E',n',F',R8,R12,R13,g14,g16,v18,v3,v7,v8⟩ vs h ⟨u1,u2,u3,u4,rfl,rfl⟩ Q5 hK5 hX5 hR5;dsimp only at u1 u2 u3 u4;have hSI2:=b2D (st:=(K,E.take n,F)) hpop k (by rw[←hA];exact u1);rw[←hA,←u2]at hSI2;obtain⟨hK2',hF2'⟩:=hbs hSI2;dsimp only at hK2' hF2';by_cases hk:k<A.length
     . have hwk:=wk1 k i9;obtain⟨ha1,ha2,ha3,ha4⟩:=hAok _ (B7 hk);have hfs:=a5F (arS t l gd x) (K,E.take n,F) hk;rw[←u2]at hfs;have hcm:=b1q (cls t A[k].1) (l.drop x.p) (by have:s7 t A[k].1=(cls t A[k].1).length:=rfl;omega);have hce:=a8F (cls t A[k].1) (l.drop x.p);obtain⟨c,hcn⟩:=p8 (U6 (cls t A[k].1) (l.drop x.p));rw[←hcn]at hcm hce;simp only[CL,a1H]at hcm;have htd:List.take (l.length-x.p) (List.drop x.p (l.map UN))=(l.map UN).drop x.p:=U4 k7;simp[HS,hk,hpl,htd];refine l7 hcm ?_;by_cases hfit:c=(cls t A[k].1).length
       . have hft:fits t l x.p A[k].1:=hce.1 hfit;have hfl:=a4C hft;have hcl:s7 t A[k].1=c:=hfit.symm;have hwn:IntKind.i64.wrap ((x.p:Int)+(c:Int))=((x.p+c:Nat):Int):=O5;obtain⟨q,hq⟩:=p8 (x.p+c);rw[←hq]at hwn;simp[←hfit,hwn];refine a4X rfl rfl ?_;cases hid:gd.idxOf? (u7.mk q A[k].2)with
         |some i=>
          obtain⟨hm1,hm2⟩:=b5d hid;have e:arS t l gd x (K',E'.take n',F') A[k]=(W5 K' ⟨q,A[k].2,prt t A[k].1⟩,a1j K' (E'.take n') ⟨q,A[k].2,prt t A[k].1⟩,a2P K' F' ⟨q,A[k].2,prt t A[k].1⟩):=by unfold arS;rw[hcl,←hq,if_pos ⟨hft,hm1⟩];rfl
          rw[e]at hfs;obtain⟨E2,n2,R132,g142,g162,v182,ws,w1,w2,w3,w4,w5,w6⟩:=b6r t l gd K' E' n' F' R6 (R7.1+1,.var [IN x.p,IN x.x,St x.r]) (R8.1+1,.var [IN q,IN A[k].2]) (R10.1+1,.var [RD t l gd]) (R11.1+1,.var [IN x.p,IN x.x]) (R12.1+1,.var [St (prt t A[k].1),CL (cls t A[k].1),IN A[k].2]) R13 g14 g16 v18 0 ⟨q,A[k].2,prt t A[k].1⟩ u3 u4 i9 i9 (fun y hy=>(hSI2.opn y hy).1);simp[a5E,hid,hm2];refine a4A w5 w6 rfl ?_;simp[HS,hwk];exact hK5 (k+1,W5 K' ⟨q,A[k].2,prt t A[k].1⟩,E2,n2,a2P K' F' ⟨q,A[k].2,prt t A[k].1⟩,_,_,R132,g142,g162,v182,_,_,_) _ _ m7 ⟨m7,by dsimp only;rw[w1];exact hfs.symm,w2,w3,rfl,rfl⟩
         |none=>
          have e:arS t l gd x (K',E'.take n',F') A[k]=(K',E'.take n',F'):=by unfold arS;rw[hcl,←hq,if_neg fun h=>a2j.1 hid h.2]
          rw[e]at hfs;simp[a5E,hid,hwk];exact hK5 (k+1,K',E',n',F',_,_,R13,g14,g16,v18,_,_,_) _ _ m7 ⟨m7,hfs.symm,u3,u4,rfl,rfl⟩
       . have hft:¬fits t l x.p A[k].1:=fun h=>hfit (hce.2 h);have e:arS t l gd x (K',E'.take n',F') A[k]=(K',E'.take n',F'):=by
          unfold arS;rw[if_neg fun h=>hft h.1]
         rw[e]at hfs;simp[hfit,hwk];exact hK5 (k+1,K',E',n',F',R8,_,R13,g14,g16,v18,_,_,_) _ _ m7 ⟨m7,hfs.symm,u3,u4,rfl,rfl⟩
     . obtain rfl:k=A.length:=i9;rw[J7]at u2;rw[←u2]at z1 hlt;rw[hA]at hSI2;simp;refine hX5 _ _ _ ?_;simp;refine hN4 none _ _ (by rfl) ?_;simp;exact hK3 (m',K',E',n',F',_,_,R8,_,_,R12,R13,g14,g16,v18,_,_,_,_) _ _ m7 ⟨z1,by dsimp only at hlt⊢;omega,hSI2.next,u3,u4,rfl,rfl⟩
section
variable{t:j9}{l:List Nat}{gd:List u7}{u:By}{h:m9}{H:List m9}{b:Nat}
inductive Hd(t:j9)(l:List Nat)(gd:List u7):By→m9→Prop
 |root:u7.mk 0 0∈gd→Hd t l gd [] ⟨0,0,[]⟩
 |step {u:By} {p x:Nat} {a:Nat×Nat}:Hd t l gd u ⟨p,x,[]⟩→a∈E8 t x→fits t l p a.1→u7.mk (p+s7 t a.1) a.2∈gd→Hd t l gd u ⟨p+s7 t a.1,a.2,prt t a.1⟩
 |byte {u:By} {p x:Nat} {b:UInt8} {r:By}:Hd t l gd u ⟨p,x,b::r⟩→Hd t l gd (u++[b]) ⟨p,x,r⟩
theorem Hd.path(ht:s5 t)(hgd:RDs t l gd)(hh:Hd t l gd u h):h.s∈gd∧∃q,D8 t start q=some ((j4 t).getD h.x B9)∧A9 t q=l.take h.p∧F5 t q=u++h.r:=by
 induction hh with
 |root h=>
  refine⟨h,[],?_,by simp[A9],by simp[F5]⟩;show some start=_;rw[u9,a1T ht];rfl
 | @step u p x a _ h2 h3 h4 ih=>
  obtain⟨g,q,q1,q2,q3⟩:=ih;have hR:=(hgd.snd _ _ g).1;obtain⟨s',k1,k2,k3,k4⟩:=a5C hR.1 h2;have hs':=W7 ht (a1A hR.1) k1;refine⟨h4,q++[a.1],?_,?_,?_⟩
  . rw[a4o,q1];show(T.step t _ a.1).bind _=_;rw[k1,k3,a1R hs'];rfl
  . rw[a7a,q2];have hd:=a8O h3;have e:A9 t [a.1]=cls t a.1:=(by simp[A9,cls]);rw[e,List.take_add,hd];rw[show s7 t a.1=(cls t a.1).length from rfl,List.take_left]
  . rw[b0W,q3];simp[F5,prt]
 | @byte u p x b r _ ih=>
  obtain⟨g,q,q1,q2,q3⟩:=ih;exact⟨g,q,q1,q2,by rw[q3];simp⟩
theorem a7k{t:j9}(ht:s5 t):∀(q:List Nat) (s s':State),D8 t s q=some s'→(F5 t q).length≤4*(A9 t q).length
 | [],_,_,_=>by simp[F5]
 |k::q,s,s',h=>by
  obtain⟨s1,e1,e2⟩:=V1.1 (show(T.step t s k).bind (fun s'=>D8 t s' q)=some s' from h);have ih:=a7k ht q s1 s' e2;have h1:=a8q ht e1;have hk:=a2o e1;have h2:A7 t k≤4:=by unfold A7;rw[u9,l9 hk];exact(a3F (ht.sound _ (B7 hk))).p4
  rw[b0V,a3p,a0u];have:((t.rules.getD k default).print).length=A7 t k:=rfl;omega
theorem Hd.len(ht:s5 t)(hgd:RDs t l gd)(hh:Hd t l gd u h):u.length+h.r.length≤4*l.length:=by obtain⟨_,q,q1,q2,q3⟩:=hh.path ht hgd;have h1:=a7k ht q _ _ q1;rw[q3,q2,a0u,a1G]at h1;omega
def M7(t:j9)(l:List Nat)(x:By):Prop:=∃q st',D8 t start q=some st'∧B6 t st'=true∧A9 t q=l∧F5 t q=x
theorem Hd.bytes{t:j9}{l:List Nat}{gd:List u7}{p x:Nat}:∀{r u:By},Hd t l gd u ⟨p,x,r⟩→Hd t l gd (u++r) ⟨p,x,[]⟩
 | [],u,h=>by rw[a0E];exact h
 |b::r,u,h=>by
  have:=Hd.bytes (Hd.byte h)
  grind
theorem M7.hd{t:j9}(ht:s5 t){l:List Nat}{gd:List u7}(hgd:RDs t l gd):∀(q:List Nat) (u:By) (p x:Nat) (st':State),Hd t l gd u ⟨p,x,[]⟩→D8 t ((j4 t).getD x B9) q=some st'→B6 t st'=true→A9 t q=l.drop p→∃y,Hd t l gd (u++F5 t q) ⟨l.length,y,[]⟩∧B6 t ((j4 t).getD y B9)=true
 | [],u,p,x,st',h,h1,h2,h3=>by
  have hR:=(hgd.snd _ _ (h.path ht hgd).1).1;obtain rfl:=W6 h1;have:(l.drop p).length=0:=by rw[←h3];rfl
  rw[a2X]at this;have hp:p=l.length:=by have:=hR.2.1;simp only at this;omega
  refine⟨x,?_,h2⟩;rw[←hp];simpa[F5]using h
 |k::q,u,p,x,st',h,h1,h2,h3=>by
  have hg:=(h.path ht hgd).1;have hR:=(hgd.snd _ _ hg).1;obtain⟨s1,e1,e2⟩:=V1.1 (show(T.step t _ k).bind (fun s'=>D8 t s' q)=some st' from h1);have hd:l.drop p=cls t k++A9 t q:=by rw[←h3];rfl
  obtain⟨f1,f2⟩:=a9Z hd;have hs1:=W7 ht (a1A hR.1) e1;have hlive:Live t s1:=⟨q,st',e2,h2⟩
  have hm:=a9j hR.1 e1 hlive;have hgood:Good t l (p+s7 t k) (P7 t s1):=⟨q,st',by rw[a1R hs1];exact e2,h2,f2.symm⟩
  have hg2:=hgd.next p x hg _ hm f1 hgood;obtain⟨y,y1,y2⟩:=M7.hd ht hgd q (u++prt t k) (p+s7 t k) (P7 t s1) st' (Hd.bytes (Hd.step h hm f1 hg2)) (by rw[a1R hs1];exact e2) h2 f2.symm;refine⟨y,?_,y2⟩;rw[a3p,←a3u];exact y1
theorem a9L(ht:s5 t)(hgd:RDs t l gd)(x:By):M7 t l x↔∃y,Hd t l gd x ⟨l.length,y,[]⟩∧B6 t ((j4 t).getD y B9)=true:=by
 constructor
 . rintro⟨q,st',q1,q2,q3,q4⟩;have e:(j4 t).getD 0 B9=start:=(by rw[u9,a1T ht];rfl);have hg:Good t l 0 0:=⟨q,st',by rw[e];exact q1,q2,by simpa using q3⟩
   have:=M7.hd ht hgd q [] 0 0 st' (.root (hgd.root hg)) (by rw[e];exact q1) q2 (by simpa using q3)
   grind
 . rintro⟨y,y1,y2⟩;obtain⟨_,q,q1,q2,q3⟩:=y1.path ht hgd;exact⟨q,_,q1,y2,by simpa using q2,by simpa using q3⟩
def O9(H:List m9)(b:Nat):List m9:=H.filterMap fun h=>match h.r with
 | []=>none
 |c::r=>if c.toNat=b then some ⟨h.p,h.x,r⟩else none
def isF(H:List m9)(b:Nat):Bool:=H.any fun h=>match h.r with
 | []=>false
 |c::_=>decide (c.toNat=b)
def O7(H:List m9)(nx:Nat):List Nat:=(List.range' nx (256-nx)).filter (isF H)
def FrO(t:j9)(l:List Nat)(gd:List u7)(u:By)(H:List m9):Prop:=∀h,h∈H↔Hd t l gd u h∧h.r≠ []
theorem a6g:isF H b=true↔∃h∈H,∃c r,h.r=c::r∧c.toNat=b:=by
 unfold isF
 grind
theorem b8W:h∈O9 H b↔∃c:UInt8,c.toNat=b∧m9.mk h.p h.x (c::h.r)∈H:=by
 unfold O9;rw[a9B];constructor
 . rintro⟨y,y1,y2⟩;obtain⟨p,x,r⟩:=y
   grind
 . rintro⟨c,h1,h2⟩;exact⟨_,h2,by simp[h1]⟩
theorem Sp.behind(hF:FrO t l gd u H){c:UInt8}(hc:c.toNat=b):Sp t l gd (O9 H b) h↔Hd t l gd (u++[c]) h:=by
 constructor
 . intro hs
   induction hs with
   | @base h h1 h2=>
    obtain⟨c',e,h3⟩:=b8W.1 h1;have:c'=c:=by apply a6F.1;rw[e,hc]
    subst this;exact .byte ((hF _).1 h3).1
   |step _ h2 h3 h4 ih=>exact .step ih h2 h3 h4
 . intro hd;generalize hv:u++[c]=v at hd
   induction hd with
   |root=>simp at hv
   |step _ h2 h3 h4 ih=>exact .step (ih hv) h2 h3 h4
   | @byte u' p x b' r h1 ih=>
    obtain⟨rfl,e⟩:=List.append_inj' hv rfl;simp only[List.cons.injEq,and_true]at e;subst e;have hm:=(hF ⟨p,x,c::r⟩).2 ⟨h1,k7⟩;refine .base (b8W.2 ⟨c,hc,hm⟩) ?_;have:∀{u:By} {h:m9},Hd t l gd u h→h.s∈gd:=fun h=>by
     induction h with
     |root h=>exact h
     |step _ _ _ h _=>exact h
     |byte _ ih=>exact ih
    have h2:u7.mk p x∈gd:=this (h:=⟨p,x,c::r⟩) h1;exact h2
theorem Sp.root{t:j9}{l:List Nat}{gd:List u7}{h:m9}:Sp t l gd [⟨0,0,[]⟩] h↔Hd t l gd [] h:=by
 constructor
 . intro hs
   induction hs with
   |base h1 h2=>
    simp only[F7]at h1;subst h1;exact .root h2
   |step _ h2 h3 h4 ih=>exact .step ih h2 h3 h4
 . intro hd;generalize hv:([]:By)=v at hd
   induction hd with
   |root h=>exact .base k7 h
   |step _ h2 h3 h4 ih=>exact .step (ih hv) h2 h3 h4
   |byte=>simp at hv
theorem FrO.next(ht:s5 t)(hgd:RDs t l gd)(hF:FrO t l gd u H){c:UInt8}(hc:c.toNat=b):FrO t l gd (u++[c]) (Y2 t l gd (O9 H b)).1.2.2∧((Y2 t l gd (O9 H b)).2=true↔M7 t l (u++[c])):=by
 have hs:=a8u ht hgd (O9 H b);refine⟨fun h=>?_,?_⟩
 . rw[hs.mem,Sp.behind hF hc]
 . rw[hs.fin,a9L ht hgd];constructor
   . rintro⟨x,h1,h2⟩;exact⟨x,(Sp.behind hF hc).1 h1,h2⟩
   . rintro⟨x,h1,h2⟩;exact⟨x,(Sp.behind hF hc).2 h1,h2⟩
theorem FrO.first(ht:s5 t)(hgd:RDs t l gd):FrO t l gd [] (Y2 t l gd [⟨0,0,[]⟩]).1.2.2∧((Y2 t l gd [⟨0,0,[]⟩]).2=true↔M7 t l []):=by
 have hs:=a8u ht hgd [⟨0,0,[]⟩];refine⟨fun h=>?_,?_⟩
 . rw[hs.mem,Sp.root]
 . rw[hs.fin,a9L ht hgd];constructor
   . rintro⟨x,h1,h2⟩;exact⟨x,Sp.root.1 h1,h2⟩
   . rintro⟨x,h1,h2⟩;exact⟨x,Sp.root.2 h1,h2⟩
end
section
variable{H:List m9}{nx b:Nat}
theorem c2R(h:∀b,nx≤b→isF H b=false):O7 H nx=[]:=by
 unfold O7;rw[List.filter_eq_nil_iff]
 grind
theorem b6q(h:nx<256):O7 H nx=if isF H nx then nx::O7 H (nx+1)else O7 H (nx+1):=by unfold O7;rw[show 256-nx=(256-(nx+1))+1 by omega,List.range'_succ,List.filter_cons]
theorem b8j{H:List m9}{b:Nat}(hb:b<256)(hf:isF H b=true):∀(k nx:Nat),nx+k=b→(∀b',nx≤b'→b'<b→isF H b'=false)→O7 H nx=b::O7 H (b+1)
 |0,nx,h,_=>by
  obtain rfl:nx=b:=i9;rw[b6q hb,if_pos hf]
 |k+1,nx,h,hn=>by have h1:isF H nx=false:=hn nx (m0 _) i9;rw[b6q i9,h1];exact b8j hb hf k (nx+1) i9 fun b' h2 h3=>hn b' i9 h3
theorem a7i:b∈O7 H nx↔nx≤b∧b<256∧isF H b=true:=by
 unfold O7
 grind
theorem c3x(H:List m9)(nx:Nat):(O7 H nx).Nodup:=by unfold O7;exact List.Pairwise.filter _ List.nodup_range'
def b1K(H:List m9)(nx:Nat)(m:Int):Prop:=(m= -1∧∀h∈H,∀c r,h.r=c::r→c.toNat<nx)∨∃b:Nat,m=b∧nx≤b∧isF H b=true∧∀h∈H,∀c r,h.r=c::r→nx≤c.toNat→b≤c.toNat
theorem b1K.O7{H:List m9}{nx:Nat}{m:Int}(h:b1K H nx m):(m= -1∧O7 H nx=[])∨∃b:Nat,m=b∧nx≤b∧b<256∧isF H b=true∧O7 H nx=b::T.O7 H (b+1):=by
 rcases h with⟨h1,h2⟩|⟨b,h1,h2,h3,h4⟩
 . refine .inl ⟨h1,c2R fun b hb=>?_⟩;cases hf:isF H b with
   |false=>rfl
   |true=>
    obtain⟨h,h3,c,r,h4,h5⟩:=a6g.1 hf;have:=h2 h h3 c r h4;omega
 . have hb:b<256:=by
    obtain⟨h,_,c,r,_,h5⟩:=a6g.1 h3;have:=c.toNat_lt;omega
   refine .inr ⟨b,h1,h2,hb,h3,b8j hb h3 (b-nx) nx i9 fun b' g1 g2=>?_⟩;cases hf:isF H b' with
   |false=>rfl
   |true=>
    obtain⟨h,h5,c,r,h6,h7⟩:=a6g.1 hf;have:=h4 h h5 c r h6 i9;omega
section
variable(t:j9)(l:List Nat)(gd:List u7)
noncomputable abbrev Y3(H:List m9)(b:Nat):List m9:=(Y2 t l gd (O9 H b)).1.2.2
noncomputable abbrev nxE(H:List m9)(b:Nat):Bool:=(Y2 t l gd (O9 H b)).2
noncomputable def en:Nat→List m9→By→List By
 |0,_,_=>[]
 |d+1,H,u=>(O7 H 0).flatMap fun b=>(if nxE t l gd H b then [u++[UInt8.ofNat b]]else [])++en d (Y3 t l gd H b) (u++[UInt8.ofNat b])
noncomputable def cnt:Nat→List m9→Nat
 |0,_=>1
 |d+1,H=>1+((O7 H 0).map fun b=>1+cnt d (Y3 t l gd H b)).sum
noncomputable def b2V(d:Nat)(H:List m9)(u:By)(b:Nat):List By:=(if nxE t l gd H b then [u++[UInt8.ofNat b]]else [])++en t l gd d (Y3 t l gd H b) (u++[UInt8.ofNat b])
noncomputable def W3:Nat→List (List m9×Nat)→By→List By
 |_,[],_=>[]
 |d,(H,nx)::S,u=>(O7 H nx).flatMap (b2V t l gd (d-1) H u)++W3 (d+1) S u.dropLast
noncomputable def Y5:Nat→List (List m9×Nat)→Nat
 |_,[]=>0
 |d,(H,nx)::S=>1+((O7 H nx).map fun b=>1+cnt t l gd (d-1) (Y3 t l gd H b)).sum+Y5 (d+1) S
variable{t l gd}
theorem b6i{d:Nat}{S:List (List m9×Nat)}{u:By}(h:O7 H nx=[]):W3 t l gd d ((H,nx)::S) u=W3 t l gd (d+1) S u.dropLast∧Y5 t l gd (d+1) S<Y5 t l gd d ((H,nx)::S):=by
 refine⟨?_,?_⟩
 . rw[W3,h];rfl
 . rw[Y5,h];simp
theorem b6I{d:Nat}{S:List (List m9×Nat)}{u:By}(h:O7 H nx=b::O7 H (b+1))(hd:1≤d∨O7 (Y3 t l gd H b) 0=[]):
 W3 t l gd (d+1) ((H,nx)::S) u=(if nxE t l gd H b then [u++[UInt8.ofNat b]]else [])++W3 t l gd d ((Y3 t l gd H b,0)::(H,b+1)::S) (u++[UInt8.ofNat b])∧
 Y5 t l gd d ((Y3 t l gd H b,0)::(H,b+1)::S)<Y5 t l gd (d+1) ((H,nx)::S):=by
 have e1:en t l gd d (Y3 t l gd H b) (u++[UInt8.ofNat b])=(O7 (Y3 t l gd H b) 0).flatMap (b2V t l gd (d-1) (Y3 t l gd H b) (u++[UInt8.ofNat b])):=by
  cases d with
  |zero=>
   rcases hd with hd|hd
   . omega
   . rw[hd];rfl
  |succ d=>rfl
 have e2:cnt t l gd d (Y3 t l gd H b)=1+((O7 (Y3 t l gd H b) 0).map fun b'=>1+cnt t l gd (d-1) (Y3 t l gd (Y3 t l gd H b) b')).sum:=by
  cases d with
  |zero=>
   rcases hd with hd|hd
   . omega
   . rw[hd];rfl
  |succ d=>rfl
 refine⟨?_,?_⟩
 . rw[W3,h,a2C,W3,W3,List.dropLast_concat];rw[show d+1-1=d from rfl]
   conv=>lhs;arg 1;arg 1;unfold b2V
   rw[e1];simp only[a3u]
 . have a1:Y5 t l gd (d+1) ((H,nx)::S)=1+((O7 H nx).map fun b=>1+cnt t l gd d (Y3 t l gd H b)).sum+Y5 t l gd (d+1+1) S:=(by rw[Y5];rfl);have a2:Y5 t l gd (d+1) ((H,b+1)::S)=1+((O7 H (b+1)).map fun b=>1+cnt t l gd d (Y3 t l gd H b)).sum+Y5 t l gd (d+1+1) S:=(by rw[Y5];rfl);have a3:Y5 t l gd d ((Y3 t l gd H b,0)::(H,b+1)::S)=1+((O7 (Y3 t l gd H b) 0).map fun b'=>1+cnt t l gd (d-1) (Y3 t l gd (Y3 t l gd H b) b')).sum+Y5 t l gd (d+1) ((H,b+1)::S):=(by rw[Y5]);rw[a1,a3,a2,h,a0s,List.sum_cons,e2];omega
end
theorem Hd.ahead{t:j9}{l:List Nat}{gd:List u7}{v:By}{h:m9}(hd:Hd t l gd v h):∀(u:By) (c:UInt8) (r:By),v=u++c::r→∃p x r',Hd t l gd u ⟨p,x,c::r'⟩:=by
 induction hd with
 |root=>intro u c r h;simp at h
 |step _ _ _ _ ih=>exact ih
 | @byte v p x b r' h1 ih=>
  intro u c r h;rcases List.eq_nil_or_concat r with rfl|⟨r2,b2,rfl⟩
  . obtain⟨rfl,e⟩:=List.append_inj' h rfl
    grind
  . rw[List.concat_eq_append,←a7I,←a3u]at h;obtain⟨h2,_⟩:=List.append_inj' h rfl;exact ih u c r2 h2
theorem ofNat_toNat(h:b<256):(UInt8.ofNat b).toNat=b:=by simp[UInt8.toNat_ofNat'];omega
theorem a6Z{t:j9}(ht:s5 t){l:List Nat}{gd:List u7}(hgd:RDs t l gd):∀(d:Nat) (H:List m9) (u x:By),FrO t l gd u H→u.length+d=4*l.length+1→(x∈en t l gd d H u↔M7 t l x∧∃c r,x=u++c::r)
 |0,H,u,x,hF,hd=>by
  constructor
  . intro h;cases h
  . rintro⟨h1,c,r,rfl⟩;obtain⟨y,h2,_⟩:=(a9L ht hgd _).1 h1;have:=h2.len ht hgd;simp at this;omega
 |d+1,H,u,x,hF,hd=>by
  unfold en;rw[a2V];constructor
  . rintro⟨b,h1,h2⟩;obtain⟨_,hb,hf⟩:=a7i.1 h1;obtain⟨f1,f2⟩:=hF.next ht hgd (ofNat_toNat hb);rcases G7.1 h2 with h2|h2
    . grind
    . obtain⟨g1,c,r,rfl⟩:=(a6Z ht hgd d _ _ x f1 I3).1 h2
      grind
  . rintro⟨h1,c,r,rfl⟩;obtain⟨y,h2,_⟩:=(a9L ht hgd _).1 h1;obtain⟨p,x',r',h3⟩:=h2.ahead u c r rfl;have hm:=(hF _).2 ⟨h3,k7⟩;have hb:c.toNat<256:=c.toNat_lt;have hcc:UInt8.ofNat c.toNat=c:=k7;obtain⟨f1,f2⟩:=hF.next ht hgd (b:=c.toNat) (c:=c) rfl;refine⟨c.toNat,a7i.2 ⟨C9 _,hb,a6g.2 ⟨_,hm,c,r',rfl,rfl⟩⟩,?_⟩;rw[hcc];cases r with
    |nil=>
     refine a2D _ ?_;rw[if_pos (f2.2 h1)];simp
    |cons c2 r=>
     refine a7K _ ((a6Z ht hgd d _ _ _ f1 I3).2 ⟨h1,c2,r,k7⟩)
theorem b8F{t:j9}(ht:s5 t){l:List Nat}{gd:List u7}(hgd:RDs t l gd):∀(d:Nat) (H:List m9) (u:By),FrO t l gd u H→u.length+d=4*l.length+1→(en t l gd d H u).Nodup
 |0,_,_,_,_=>by unfold en;simp
 |d+1,H,u,hF,hd=>by
  unfold en;have hpre:∀b∈O7 H 0,∀x,x∈((if nxE t l gd H b then [u++[UInt8.ofNat b]]else [])++en t l gd d (Y3 t l gd H b) (u++[UInt8.ofNat b]))→∃r,x=u++UInt8.ofNat b::r:=fun b hb x hx=>by
   obtain⟨_,hb2,_⟩:=a7i.1 hb;obtain⟨f1,_⟩:=hF.next ht hgd (ofNat_toNat hb2);rcases G7.1 hx with hx|hx
   . grind
   . obtain⟨_,c,r,rfl⟩:=(a6Z ht hgd d _ _ x f1 I3).1 hx;exact⟨c::r,k7⟩
  rw[a5O,List.pairwise_flatMap];refine⟨fun b hb=>?_,?_⟩
  . obtain⟨_,hb2,_⟩:=a7i.1 hb;obtain⟨f1,_⟩:=hF.next ht hgd (ofNat_toNat hb2);rw[←a5O,a3Z];refine⟨by split<;>simp,b8F ht hgd d _ _ f1 I3,fun x hx y hy=>?_⟩;split at hx
    . rw[F7]at hx;obtain⟨_,c,r,rfl⟩:=(a6Z ht hgd d _ _ y f1 I3).1 hy;rw[hx];intro e;have:=congrArg List.length e;simp at this
    . cases hx
  . refine List.Pairwise.imp_of_mem ?_ (a5O.1 (c3x H 0));intro b b' hb hb' hne x hx y hy e;obtain⟨r,h1⟩:=hpre b hb x hx;obtain⟨r',h2⟩:=hpre b' hb' y hy;rw[h1,h2]at e;have h3:=List.append_cancel_left e;simp only[List.cons.injEq]at h3;have h4:=congrArg UInt8.toNat h3.1;rw[ofNat_toNat (a7i.1 hb).2.1,ofNat_toNat (a7i.1 hb').2.1]at h4;exact hne h4
noncomputable def a3H(t:j9)(l:List Nat)(gd:List u7):List By:=(if(Y2 t l gd [⟨0,0,[]⟩]).2 then [[]]else [])++en t l gd (4*l.length+1) (Y2 t l gd [⟨0,0,[]⟩]).1.2.2 []
theorem b7i{t:j9}(ht:s5 t){l:List Nat}{gd:List u7}(hgd:RDs t l gd)(x:By):x∈a3H t l gd↔M7 t l x:=by
 obtain⟨f1,f2⟩:=FrO.first ht hgd;unfold a3H;rw[G7,a6Z ht hgd _ _ _ _ f1 k7];constructor
 . grind
 . intro h;cases x with
   |nil=>left;rw[if_pos (f2.2 h)];simp
   |cons c r=>right;exact⟨h,c,r,rfl⟩
theorem c5y{t:j9}(ht:s5 t){l:List Nat}{gd:List u7}(hgd:RDs t l gd):(a3H t l gd).Nodup:=by
 obtain⟨f1,f2⟩:=FrO.first ht hgd;unfold a3H;rw[a3Z];refine⟨by split<;>simp,b8F ht hgd _ _ _ f1 k7,fun x hx y hy=>?_⟩;split at hx
 . rw[F7]at hx;obtain⟨_,c,r,rfl⟩:=(a6Z ht hgd _ _ _ _ f1 k7).1 hy;rw[hx];simp
 . cases hx
end
section
variable{H:List m9}{k nx:Nat}{m:Int}
def LO(H:List m9)(k nx:Nat)(m:Int):Prop:=b1K (H.take k) nx m
theorem LO.b5p(h:LO H k nx m)(hk:k<H.length){c:UInt8}{r:By}(hc:H[k].r=c::r)(hn:¬(nx≤c.toNat∧(m<0∨(c.toNat:Int)<m))):LO H (k+1) nx m:=by
 unfold LO at*;rw[J2,l9 hk];rcases h with⟨h1,h2⟩|⟨b,h1,h2,h3,h4⟩
 . refine .inl ⟨h1,fun h hh c' r' hr=>?_⟩;rcases G7.1 hh with hh|hh
   . exact h2 h hh c' r' hr
   . grind
 . refine .inr ⟨b,h1,h2,?_,fun h hh c' r' hr hx=>?_⟩
   . unfold isF at h3⊢;rw[List.any_append,h3];rfl
   . grind
theorem LO.take(h:LO H k nx m)(hk:k<H.length){c:UInt8}{r:By}(hc:H[k].r=c::r)(hn:nx≤c.toNat∧(m<0∨(c.toNat:Int)<m)):LO H (k+1) nx c.toNat:=by
 unfold LO at*;rw[J2,l9 hk];refine .inr ⟨c.toNat,rfl,hn.1,?_,fun h' hh c' r' hr hx=>?_⟩
 . exact a6g.2 ⟨H[k],a7K _ (F7.2 rfl),c,r,hc,rfl⟩
 . rcases G7.1 hh with hh|hh
   . rcases h with⟨h1,h2⟩|⟨b,h1,h2,h3,h4⟩
     . have:=h2 h' hh c' r' hr;omega
     . have:=h4 h' hh c' r' hr hx;omega
   . grind
theorem LO.ge(h:LO H k nx m): -1≤m:=by rcases h with⟨h1,_⟩|⟨b,h1,_⟩<;>omega
theorem b5W(H:List m9)(nx:Nat)(hne:∀h∈H,h.r≠ [])(hl:H.length≤4000000000000)(hnx:nx≤256):∃r,(∃m:Int,r=I m∧b1K H nx m)∧F0 83 [0] [.fptr [.slc (H.map HQ),IN nx]] r:=by
 refine a2x mixed (X:=X83) c83 2 (by simp[X83]) (by kernel_rfl) fun Q hR hN=>?_;simp[X83];refine I2 (fun(y:Nat×Int) vs h=>y.1≤H.length∧LO H y.1 nx y.2∧vs=[.fptr [.slc (H.map HQ),IN nx],.uu,I y.2,.uu,.uu,.slc (H.map HQ),IN H.length,IN y.1,.uu,.uu]∧h=[dd,dd]) (fun y=>H.length-y.1) (0,-1) ?_ ?_
 . simp;exact .inl ⟨rfl,fun h hh=>by simp at hh⟩
 . rintro⟨k,m⟩ vs h ⟨y1,y2,rfl,rfl⟩ Q' hK hX hR';dsimp only at y1 y2;have hge:=y2.ge;by_cases hk:k<H.length
   . have hwk:=wk1 k i9;obtain⟨c,r,hcr⟩:∃c r,H[k].r=c::r:=by
      cases hr:H[k].r with
      |nil=>exact absurd hr (hne _ (B7 hk))
      |cons c r=>exact⟨c,r,rfl⟩
     have hc256:=c.toNat_lt;have hwc:IntKind.i64.wrap (c.toNat:Int)=(c.toNat:Int):=O5;by_cases g1:nx≤c.toNat
     . by_cases g2:m<0
       . have h2:=y2.take hk hcr ⟨g1,.inl g2⟩;simp[hk,hcr,hwc,g1,g2,hwk];refine hK (k+1,(c.toNat:Int)) _ _ i9 ?_;simp;exact⟨i9,h2⟩
       . by_cases g3:(c.toNat:Int)<m
         . have h2:=y2.take hk hcr ⟨g1,.inr g3⟩;simp[hk,hcr,hwc,g1,g2,g3,hwk];refine hK (k+1,(c.toNat:Int)) _ _ i9 ?_;simp;exact⟨i9,h2⟩
         . have h2:=y2.b5p hk hcr (fun e=>e.2.elim g2 g3);simp[hk,hcr,hwc,g1,g2,g3,hwk];refine hK (k+1,m) _ _ i9 ?_;simp;exact⟨i9,h2⟩
     . have h2:=y2.b5p hk hcr (fun e=>g1 e.1);simp[hk,hcr,hwc,g1,hwk];refine hK (k+1,m) _ _ i9 ?_;simp;exact⟨i9,h2⟩
   . obtain rfl:k=H.length:=i9;simp;refine hX _ _ _ ?_;simp;refine hR _ _ _ ⟨m,rfl,?_⟩ ?_
     . have:=y2;unfold LO at this;rwa[J7]at this
     . simp[X83]
theorem b3U(H:List m9)(b:Nat):(O9 H b).length≤H.length:=List.length_filterMap_le _ _
theorem c1W{b:Nat}(hk:k<H.length):O9 (H.take (k+1)) b=O9 (H.take k) b++O9 [H[k]] b:=by unfold O9;rw[J2,l9 hk,b4J];rfl
theorem c0U(H:List m9)(x1:PV)(b:Nat)(hb:b<256)(hne:∀h∈H,h.r≠ [])(hl:H.length≤4000000000000):F0 84 [3] [.fptr [.slc (H.map HQ),x1],UN b] (.uslc ((O9 H b).map HQ)):=by
 refine E7 c84 4 (by simp[X84]) fun Q hR hN=>?_;simp[X84];refine I2 (fun(k:Nat) vs h=>k≤H.length∧vs=[.uu,UN b,.uu,.own 3 1 (O9 (H.take k) b).length 3 0 (O9 (H.take k) b).length,.uu,.slc (H.map HQ),IN H.length,IN k,.uu,.uu]∧h=[dd,dd,dd,(1,.arr 3 0 false ((O9 (H.take k) b).map HQ))]) (fun k=>H.length-k) 0 ?_ ?_
 . simp[O9]
 . rintro k vs h ⟨y1,rfl,rfl⟩ Q' hK hX hR';have hbl:(O9 (H.take k) b).length≤k:=by
    have:=b3U (H.take k) b;rw[a1G]at this;exact S7 this (Nat.min_le_left _ _)
   by_cases hk:k<H.length
   . have hwk:=wk1 k i9;obtain⟨c,r,hcr⟩:∃c r,H[k].r=c::r:=by
      cases hr:H[k].r with
      |nil=>exact absurd hr (hne _ (B7 hk))
      |cons c r=>exact⟨c,r,rfl⟩
     have hst:=c1W (b:=b) hk;by_cases hcb:c.toNat=b
     . have e:O9 [H[k]] b=[⟨H[k].p,H[k].x,r⟩]:=(by simp[O9,hcr,hcb]);rw[e]at hst;obtain⟨B1,hB1⟩:=p8 (O9 (H.take k) b);obtain⟨B2,hB2⟩:=p8 (O9 (H.take (k+1)) b);rw[←hB1,←hB2]at hst;rw[←hB1]at hbl⊢;have f1:B1.map HQ++[.agg [IN H[k].p,IN H[k].x,St r]]=B2.map HQ:=(by grind);have f2:B1.length+1=B2.length:=(by rw[hst];simp);have f3:B2.length*32≤140737488355328:=i9;have f4:(1:Int)≤(r.length:Int)+1:=i9;simp[hk,hcr,hcb,hwk,f1,f2,f3,f4];refine hK (k+1) _ _ i9 ?_;simp[←hB2];omega
     . have e:O9 [H[k]] b=[]:=(by simp[O9,hcr,hcb]);rw[e,a0E]at hst;simp[hk,hcr,hcb,hwk];refine hK (k+1) _ _ i9 ?_;simp[hst];omega
   . obtain rfl:k=H.length:=i9;rw[J7]at*;simp;refine hX _ _ _ ?_;simp;refine hR _ _ ?_;simp[X84]
end
def X42:A0:=
 ⟨4,[0,1,2],8,[(2,none)],sq [.reg [I0 1 7 0,ow 2 (.mv (.c (.lit .nilFunc)))],.reg [oq (.mkfn (.func 81) [] [.v 1]),oc 2 0],ko]⟩
def X81:A0:=
 ⟨81,[0,1,3,4,5,6,7,8,22,28,37,75],16,[],sq [kw 2,.reg [F6 1 1,oq (.build [.int .i64 0,.int .i64 0] []),oq (.build [.int .i64 0,.int .i64 0,.str ⟨#[]⟩] [(0,2,.l 1)]),oq (.lit 3 [.agg [.int .i64 0,.int .i64 0,.str ⟨#[]⟩]] [(0,.l 2)]),ocl 82 0 3 8 3 0 0,oo 4,oz 5 0,oz 5 1,oc 3 6,oc 4 7],sq [.reg [oa 4,oo 0,og 0 1,⟨.cally (.l 2) [.c (.str ⟨#[]⟩)],none,some (.l 1,true),[]⟩,ocs 3 1,U9 8 1 4],.cond (.v 8) ko kd],.reg [oa 3,oq (.build [.nils,.int .i64 0] [(0,1,.l 0)]),oq (.mkarr 9 2 [.agg [.nils,.int .i64 0]] [(0,.l 1)]),oc 5 2],.G6 [(8,true),(9,false)] (.block 0 (.loop (sq [sq [.reg [oa 5,ox 0,odc 9 1 0],C4 9 0],.block 1 (sq [.reg [oa 5,oa 5,ox 1,obe 2 1,ot 2 0 3,oc 6 4],.reg [oa 6,W4 83 0 0 0,oc 7 1],sq [.reg [oa 7,ow 10 (.bin .lss false (.l 0) (oi 0))],.cond (.v 10) (sq [.reg [oa 5,oa 5,ox 1,obe 2 1,ocg 2 0 3,oc 5 4],.reg [oa 2,oa 2,ox 1,obe 2 1,oq (.minmax true [.l 3,oi 0]),ocg 1 0 4,oc 2 5],km 1]) kd],.reg [oa 6,oa 7,oah 1 1,D5 0,ou 1 3,ol 1 4 2],.reg [oa 2,oa 7,oq (.conv .u8 (.l 1)),ofh 10 1 0 0 2,I7 11 1 1 1 0 3,oc 2 4],.reg [ody 1 1 12,oa 6,oa 7,oq (.conv .u8 (.l 2)),Y6 84 1 3 12 3,ocl 82 0 4 13 3 0 0,oo 5,oz 6 0,oz 6 1,oc 3 7,oc 4 8],.G6 [(13,true)] (sq [sq [.reg [oa 4,oo 0,og 0 1,og 2 1,⟨.convStr (.l 3),none,some (.l 1,true),[]⟩,⟨.cally (.l 2) [.l 4],none,some (.l 1,true),[]⟩,ocs 5 1,U9 11 1 6],.cond (.v 11) ko kd],.reg [oa 5,oa 3,oq (.build [.nils,.int .i64 0] [(0,1,.l 1)]),oq (.mkarr 14 2 [.agg [.nils,.int .i64 0]] [(0,.l 2)]),I7 15 2 32 1 0 3,oc 5 4]])])])))]⟩
theorem c42:S0 Tryz.prog 42 7=some X42:=by kernel_rfl
theorem c81:S0 Tryz.prog 81 8=some {X81 with body:=H7 X81.body}:=by kernel_rfl
abbrev SE(f:List m9×Nat):PV:=.agg [.slc (f.1.map HQ),IN f.2]
def TX(tv:PV)(R:Row)(u:By):Prop:=(tv=.nils∧u=[]∧∃g,R=(g,.dead))∨∃(g ver:Nat) (T:By) (n:Nat),tv=.own 11 g T.length 1 0 n∧R=(g,.arr 1 ver false (T.map UB))∧n≤T.length∧u=T.take n∧T.length≤4000000000
structure RC7 where
 (r0 r1 r2 r3 r4 r5 r6 r13:Row)
structure TV where
 (w3 w4 w6 w7 w8 w9 w10 w11:PV)
def StO(t:j9)(l:List Nat)(gd:List u7)(S:List (List m9×Nat))(n:Nat)(u:By):Prop:=∀i H nx,i<n→S[i]?=some (H,nx)→FrO t l gd (u.take i) H∧H.Nodup∧nx≤256
theorem b7Z(t:j9)(ht:s5 t)(l:List Nat)(hl:l.length≤500000000)(gd:List u7)(hgd:RDs t l gd)(HB:Nat)(hHB:∀(u:By) (H:List m9),FrO t l gd u H→H.Nodup→H.length≤HB)(hB1:1≤HB)(hT:HB+(l.length+1)*((j4 t).length*t.rules.length)≤4000000000000)
 {Y:YT} (hYm:a7P Y) {K:Option O6→l5→Prop} (J:Nat→List Row→Prop) (a0 a1 a2 a3 a4 a5 a6:Row) (g7:Nat) (hJ:J 0 [a0,a1,a2,a3,a4,a5,a6])
 (hY:∀(k:Nat) (x:By) (r0 r1 r2 r3 r4 r5 r6:Row) (tail:List Row),(a3H t l gd)[k]?=some x→J k [r0,r1,r2,r3,r4,r5,r6]→Y [St x] (r0::r1::r2::r3::r4::r5::r6::tail) (fun p h'=>∃q0 q1 q2 q3 q4 q5 q6,h'=q0::q1::q2::q3::q4::q5::q6::tail∧(match p with
  |none=>J (k+1) [q0,q1,q2,q3,q4,q5,q6]
  |some e=>∀tail,K (some e) (q0::q1::q2::q3::q4::q5::q6::tail))))
 (hK:∀(r0 r1 r2 r3 r4 r5 r6:Row) (tail:List Row),J (a3H t l gd).length [r0,r1,r2,r3,r4,r5,r6]→K none (r0::r1::r2::r3::r4::r5::r6::tail)):
 IT Tryz.prog (.fn (.func 81) [] [.ptr 7 g7 0]) Y [a0,a1,a2,a3,a4,a5,a6,(g7,.var [RD t l gd]),dd,dd,dd,dd,dd,dd,dd,dd] K:=by
 refine b8m mixed (X:=X81) c81 rfl (by rfl) hYm (by simp[X81]) k7 ?_;intro ly Q hR hN;have hsp:=b4d t ht l i9 gd hgd [⟨0,0,[]⟩] (by unfold a0A;simp;omega);obtain⟨E,hE⟩:=p8 (a3H t l gd);rw[←hE]at hY hK;obtain⟨f1,f2⟩:=FrO.first ht hgd (t:=t) (l:=l) (gd:=gd);have hnd0:=(a8u ht hgd [⟨0,0,[]⟩]).nodup;unfold a3H at hE;obtain⟨H0,hH0⟩:=p8 ((Y2 t l gd [⟨0,0,[]⟩]).1.2.2);obtain⟨e0,he0⟩:=p8 ((Y2 t l gd [⟨0,0,[]⟩]).2);rw[←hH0]at hE hsp f1 hnd0;rw[←he0]at hE hsp f2;simp[X81];refine l7 hsp ?_;simp;obtain⟨D,hD⟩:=p8 (4*l.length+1);have hen:en t l gd (4*l.length+1) H0 []=W3 t l gd D [(H0,0)] []:=by rw[hD];show _=(O7 H0 0).flatMap _++W3 t l gd _ [] _;rw[show W3 t l gd (4*l.length+1+1) [] ([]:By).dropLast=[]from by rw[W3],a0E];rfl
 rw[hen]at hE;have hS0:StO t l gd [(H0,0)] 1 []:=fun i H nx hi hg=>by obtain rfl:i=0:=i9;cases hg;exact⟨f1,hnd0,i9⟩
 cases e0 with
 |true=>
  rw[if_pos rfl]at hE;simp;refine a4X rfl rfl ?_;refine hYm _ _ _ _ ?_ (hY 0 [] a0 a1 a2 a3 a4 a5 a6 _ (by rw[hE];rfl) hJ);rintro p h' ⟨a0,a1,a2,a3,a4,a5,a6,rfl,hp⟩;refine⟨rfl,?_⟩;cases p with
  |some e=>
   simp;refine hR (some e) _ _ (by rfl) (hp _)
  |none=>
   obtain⟨k0,hJ0,hE0,hk0⟩:∃k0,J k0 [a0,a1,a2,a3,a4,a5,a6]∧E.drop k0=W3 t l gd D [(H0,0)] []∧k0≤E.length:=⟨1,hp,by rw[hE];rfl,by rw[hE];simp⟩
   simp;refine E3 (fun(y:Nat×PV×Row×By×List (List m9×Nat)×Nat×Nat×Nat×Row×Nat×RC7×TV) vs h=>y.1≤E.length∧J y.1 [y.2.2.2.2.2.2.2.2.2.2.1.r0,y.2.2.2.2.2.2.2.2.2.2.1.r1,y.2.2.2.2.2.2.2.2.2.2.1.r2,y.2.2.2.2.2.2.2.2.2.2.1.r3,y.2.2.2.2.2.2.2.2.2.2.1.r4,y.2.2.2.2.2.2.2.2.2.2.1.r5,y.2.2.2.2.2.2.2.2.2.2.1.r6]∧E.drop y.1=W3 t l gd (D+1-y.2.2.2.2.2.1) ((y.2.2.2.2.1.take y.2.2.2.2.2.1).reverse) y.2.2.2.1∧TX y.2.1 y.2.2.1 y.2.2.2.1∧y.2.2.2.2.2.1≤y.2.2.2.2.1.length∧y.2.2.2.2.1.length≤D∧(y.2.2.2.2.2.1=0∧y.2.2.2.1=[]∨y.2.2.2.1.length+1=y.2.2.2.2.2.1)∧StO t l gd y.2.2.2.2.1 y.2.2.2.2.2.1 y.2.2.2.1∧
    vs=[.fn (.yield ly) [] [],.ptr 7 g7 0,y.2.1,y.2.2.2.2.2.2.2.2.2.2.2.w3,y.2.2.2.2.2.2.2.2.2.2.2.w4,.own 9 1 y.2.2.2.2.1.length 2 0 y.2.2.2.2.2.1,y.2.2.2.2.2.2.2.2.2.2.2.w6,y.2.2.2.2.2.2.2.2.2.2.2.w7,y.2.2.2.2.2.2.2.2.2.2.2.w8,y.2.2.2.2.2.2.2.2.2.2.2.w9,y.2.2.2.2.2.2.2.2.2.2.2.w10,y.2.2.2.2.2.2.2.2.2.2.2.w11,gOf none]∧h=[y.2.2.2.2.2.2.2.2.2.2.1.r0,y.2.2.2.2.2.2.2.2.2.2.1.r1,y.2.2.2.2.2.2.2.2.2.2.1.r2,y.2.2.2.2.2.2.2.2.2.2.1.r3,y.2.2.2.2.2.2.2.2.2.2.1.r4,y.2.2.2.2.2.2.2.2.2.2.1.r5,y.2.2.2.2.2.2.2.2.2.2.1.r6,(g7,.var [RD t l gd]),(1,.arr 3 1 true (H0.map HQ)),(1,.arr 2 y.2.2.2.2.2.2.1 false (y.2.2.2.2.1.map SE)),(y.2.2.2.2.2.2.2.1,.dead),y.2.2.1,y.2.2.2.2.2.2.2.2.1,y.2.2.2.2.2.2.2.2.2.2.1.r13,(y.2.2.2.2.2.2.2.2.2.1,.dead),dd]) (fun y=>Y5 t l gd (D+1-y.2.2.2.2.2.1) ((y.2.2.2.2.1.take y.2.2.2.2.2.1).reverse))
    (k0,.nils,dd,[],[(H0,0)],1,_,_,dd,0,⟨a0,a1,a2,a3,a4,a5,a6,dd⟩,⟨_,_,_,_,_,_,_,_⟩) ⟨hk0,hJ0,hE0,.inl ⟨rfl,rfl,0,rfl⟩,m0 _,I3,.inr rfl,hS0,rfl,rfl⟩ ?_
   rintro⟨k,tv,R10,u,S,n,ver8,g9,R11,g13,⟨r0,r1,r2,r3,r4,r5,r6,r13⟩,⟨w3,w4,w6,w7,w8,w9,w10,w11⟩⟩ vs h ⟨z0,z1,z2,z3,z4,z5,z6,z7,rfl,rfl⟩ Q3 hK3 hX3 hR3;dsimp only at z0 z1 z2 z3 z4 z5 z6 z7;by_cases hn0:n=0
   . subst hn0;have hend:E.drop k=[]:=(by rw[z2,List.take_zero,List.reverse_nil,W3]);have hkE:k=E.length:=(by grind);rw[hkE]at z1;simp;refine hX3 _ _ _ ?_;simp;exact hN none _ _ (by rfl) (hK _ _ _ _ _ _ _ _ z1)
   . obtain⟨m,hm⟩:∃m,n=m+1:=⟨n-1,i9⟩
     have hn1:0<n:=i9;have hmn:m<n:=i9;have hmn2:m≤n:=i9;have hwl:IntKind.i64.wrap ((n:Int)-1)=(m:Int):=(by rw[wrap_ok i9 i9];omega);have hmS:m<S.length:=i9;have hul:u.length=m:=i9;have hum:u.take m=u:=U4 i9;obtain⟨⟨H,nx⟩,hS⟩:∃f,S[m]=f:=⟨_,rfl⟩
     have hfr:(S.take n).reverse=(H,nx)::(S.take m).reverse:=(by rw[hm,J2,l9 hmS,hS];simp);obtain⟨hF,hFn,hnx⟩:=z7 m H nx hmn (by grind);rw[hum]at hF;have hne:∀h∈H,h.r≠ []:=fun h hh=>((hF h).1 hh).2;have hHl:=hHB u H hF hFn;obtain⟨r,⟨mm,rfl,hlo⟩,hlf⟩:=b5W H nx hne i9 hnx;have hd:D+1-n=D-m:=i9;have hd2:D+1-m=(D-m)+1∨D<m:=i9;simp[hn1,hwl,hmn,hmS,hS];refine l7 hlf ?_;rcases hlo.O7 with⟨rfl,hc⟩|⟨b,rfl,hb1,hb2,hb3,hc⟩
     . obtain⟨p1,p2⟩:=b6i (t:=t) (l:=l) (gd:=gd) (d:=D+1-n) (S:=(S.take m).reverse) (u:=u) hc;rw[show D+1-n+1=D+1-m by omega]at p1 p2;have hz2:E.drop k=W3 t l gd (D+1-m) ((S.take m).reverse) u.dropLast:=(by rw[z2,hfr,p1]);have hms:Y5 t l gd (D+1-m) ((S.take m).reverse)<Y5 t l gd (D+1-n) ((S.take n).reverse):=(by grind);have hdl:u.dropLast=u.take (m-1):=(by rw[List.dropLast_eq_take,hul]);have hz6:m=0∧u.dropLast=[]∨u.dropLast.length+1=m:=(by grind);have hz7:StO t l gd S m u.dropLast:=fun i H' nx' hi hg=>by
        have:=z7 i H' nx' i9 hg;rw[hdl,List.take_take,Nat.min_eq_left i9];exact this
       have hwm1:IntKind.i64.wrap (-1)= -1:=O5;rcases z3 with⟨rfl,rfl,g,rfl⟩|⟨g,ver,T,nt,rfl,rfl,h1,rfl,h2⟩
       . simp[hwl,hmn2,hwm1];exact hK3 (k,.nils,(g,.dead),[],S,m,ver8,g9,R11,g13,⟨r0,r1,r2,r3,r4,r5,r6,r13⟩,⟨_,_,_,_,_,_,_,_⟩) _ _ hms ⟨z0,z1,hz2,.inl ⟨rfl,rfl,g,rfl⟩,m7,z5,hz6,hz7,rfl,rfl⟩
       . have hwt:IntKind.i64.wrap ((nt:Int)-1)=(nt:Int)-1:=O5;have hmx:(if(nt:Int)-1<0 then 0 else(nt:Int)-1)=((nt-1:Nat):Int):=(by split<;>omega);obtain⟨nq,hnq⟩:=p8 (nt-1);rw[←hnq]at hmx;have hnq2:nq≤nt:=i9;have htd:(T.take nt).dropLast=T.take nq:=(by grind);simp[hwl,hmn2,hwt,hmx,hnq2];exact hK3 (k,.own 11 g T.length 1 0 nq,(g,.arr 1 ver false (T.map UB)),(T.take nt).dropLast,S,m,ver8,g9,R11,g13,⟨r0,r1,r2,r3,r4,r5,r6,r13⟩,⟨_,_,_,_,_,_,_,_⟩) _ _ hms ⟨z0,z1,hz2,.inr ⟨g,ver,T,nq,rfl,rfl,i9,htd,h2⟩,m7,z5,hz6,hz7,rfl,rfl⟩
     . have hSg:S[m]?=some (H,nx):=(by rw[l9 hmS,hS]);have hwb:=wk1 b i9;have hw8:IntKind.u8.wrap (b:Int)=(b:Int):=(by simp[IntKind.wrap,IntKind.signed,IntKind.bits];omega);obtain⟨c,hcc⟩:=p8 (UInt8.ofNat b);have hcb:c.toNat=b:=(by rw[hcc];exact ofNat_toNat hb2);obtain⟨S1,hS1⟩:=p8 (S.set m (H,b+1));have hS1l:S1.length=S.length:=(by rw[hS1];simp);have eS:(S.map SE).set m (.agg [.slc (H.map HQ),.int .i64 ((b:Int)+1)])=S1.map SE:=(by rw[hS1,J8];rfl);have hS1m:S1[m]'i9=(H,b+1):=(by simp[hS1]);have hS1g:(S1.map SE)[m]?=some (SE (H,b+1)):=(by grind);obtain⟨fN1,fN2⟩:=hF.next ht hgd hcb;have hndN:=(a8u ht hgd (O9 H b)).nodup;have hbl:=b3U H b;have hsp2:=b4d t ht l i9 gd hgd (O9 H b) (by unfold a0A;omega);have hbf:=c0U H (IN (b+1)) b hb2 hne i9;have hhd:u.length+1≤4*l.length:=by
        obtain⟨h,hh,c',r',hr,_⟩:=a6g.1 hb3;have:=((hF h).1 hh).1.len ht hgd;rw[hr]at this;simp at this;omega
       have hnD:n+1≤D:=i9;obtain⟨p1,p2⟩:=b6I (t:=t) (l:=l) (gd:=gd) (d:=D-n) (u:=u) (S:=(S.take m).reverse) hc (.inl i9);rw[show D-n+1=D+1-n by omega,←hcc]at p1;rw[show D-n+1=D+1-n by omega]at p2;obtain⟨HN,hHN⟩:=p8 ((Y2 t l gd (O9 H b)).1.2.2);obtain⟨eN,heN⟩:=p8 ((Y2 t l gd (O9 H b)).2);rw[←hHN]at hsp2 fN1 hndN;rw[←heN]at hsp2 fN2;unfold Y3 nxE at p1;unfold Y3 at p2;rw[←hHN]at p1 p2;rw[←heN]at p1;obtain⟨S2,hS2⟩:∃S2,S2=S1.take n++(HN,0)::S1.drop (n+1):=⟨_,rfl⟩
       have hS2l:S2.length≤D∧n+1≤S2.length:=by rw[hS2];simp;omega
       have hS2t:S2.take (n+1)=S1.take n++[(HN,0)]:=(by grind);have hS1t:S1.take n=S.take m++[(H,b+1)]:=by rw[hm,J2,l9 i9,hS1m,hS1,List.take_set_of_le (m0 m)];rfl
       have hrev:(S2.take (n+1)).reverse=(HN,0)::(H,b+1)::(S.take m).reverse:=(by grind);have hz2:E.drop k=(if eN=true then [u++[c]]else [])++W3 t l gd (D+1-(n+1)) ((S2.take (n+1)).reverse) (u++[c]):=(by grind);have hms:Y5 t l gd (D+1-(n+1)) ((S2.take (n+1)).reverse)<Y5 t l gd (D+1-n) ((S.take n).reverse):=(by grind);have hz7:StO t l gd S2 (n+1) (u++[c]):=fun i H' nx' hi hg=>by
        have hg2:(S2.take (n+1))[i]?=some (H',nx'):=(by grind);rw[hS2t,hS1t]at hg2;by_cases h1:i<m
        . rw[a0R I3,a0R I3,a0O,if_pos h1]at hg2;have:=z7 i H' nx' i9 hg2;rw[List.take_append_of_le_length i9];exact this
        . by_cases h2:i=m
          . grind
          . have h3:i=n:=i9;subst h3;have e:(S.take m++[(H,b+1)]++[(HN,0)])[i]?=some (HN,0):=(by grind);rw[e]at hg2;cases hg2;rw[U4 I3];exact⟨fN1,hndN,i9⟩
       have hz6:n+1=0∧u++[c]=[]∨(u++[c]).length+1=n+1:=(by grind);have hz5:S1.length*32≤140737488355328∧(n+1)*32≤140737488355328:=i9;have hget:eN=true→E[k]?=some (u++[c])∧E.drop (k+1)=W3 t l gd (D+1-(n+1)) ((S2.take (n+1)).reverse) (u++[c])∧k+1≤E.length:=fun he=>by
        rw[if_pos he]at hz2;have h1:=congrArg (fun q:List By=>q[0]?) hz2;simp at h1;refine⟨h1,?_,?_⟩
        . rw[←a1U,hz2];rfl
        . grind
       have hnot:eN=false→E.drop k=W3 t l gd (D+1-(n+1)) ((S2.take (n+1)).reverse) (u++[c]):=fun he=>by rw[he]at hz2;simpa using hz2
       have e5:n=S.length→S1.map SE++[.agg [.slc (HN.map HQ),.int .i64 0]]=S2.map SE:=fun e=>by rw[hS2,U4 i9,b4H i9,S8];rfl
       have e6:n=S.length→S.length+1=S2.length:=fun e=>(by rw[hS2];simp;omega);have e7:(S1.map SE).take n++ .agg [.slc (HN.map HQ),.int .i64 0]::(S1.map SE).drop (n+1)=S2.map SE:=by rw[hS2,S8,a3v,a0s,a1H];rfl
       have e8:n≠S.length→n+(S.length-(n+1)+1)=S2.length:=fun e=>(by rw[hS2];simp;omega);have hb32:n=S.length→S2.length*32≤140737488355328:=fun e=>(by have:=hS2l.1;omega);obtain⟨uu,huu⟩:=p8 (u++[c]);rw[←huu]at hz2 hz6 hz7 hget hnot;rcases z3 with⟨rfl,rfl,g,rfl⟩|⟨g,ver,T,nt,rfl,rfl,h1,rfl,h2⟩
       . have hby:a1B [.int .u8 (b:Int)]=some uu:=(by rw[huu,hcc];simp[a1B,a7n]);have hTX:TX (.own 11 (g+1) 1 1 0 1) (g+1,.arr 1 0 false [.int .u8 (b:Int)]) uu:=.inr ⟨g+1,0,[c],1,rfl,by rw[←hcb];rfl,k7,by rw[huu];simp,k7⟩;simp[hS,hwb,eS,hw8,hS1m,hS1l,hmS];refine l7 hbf ?_;simp;refine l7 hsp2 ?_;simp;cases eN with
         |false=>
          have hzz:=hnot rfl;by_cases hnS:n=S.length
          . have e9:n+1=S2.length:=(by have:=e6 hnS;omega);simp[e5 hnS,e6 hnS,hnS,hS1l,hS2l.1,hb32 hnS];rw[e9]at hms hzz hz6 hz7;exact hK3 (k,.own 11 (g+1) 1 1 0 1,(g+1,.arr 1 0 false [.int .u8 (b:Int)]),uu,S2,S2.length,_,_,_,_,⟨r0,r1,r2,r3,r4,r5,r6,_⟩,⟨_,_,_,_,_,_,_,_⟩) _ _ hms ⟨z0,z1,hzz,hTX,m0 _,hS2l.1,hz6,hz7,rfl,rfl⟩
          . have hnn:n≤S.length:=z4;simp[e7,e8 hnS,hnS,hS1l,hnn,hz5.2];exact hK3 (k,.own 11 (g+1) 1 1 0 1,(g+1,.arr 1 0 false [.int .u8 (b:Int)]),uu,S2,n+1,_,_,_,_,⟨r0,r1,r2,r3,r4,r5,r6,_⟩,⟨_,_,_,_,_,_,_,_⟩) _ _ hms ⟨z0,z1,hzz,hTX,hS2l.2,hS2l.1,hz6,hz7,rfl,rfl⟩
         |true=>
          obtain⟨q1,hzz,q3⟩:=hget rfl;simp[hby];refine a4X rfl rfl ?_;refine hYm _ _ _ _ ?_ (hY k uu r0 r1 r2 r3 r4 r5 r6 _ q1 z1);rintro p h' ⟨a0,a1,a2,a3,a4,a5,a6,rfl,hp⟩;refine⟨rfl,?_⟩;cases p with
          |some e=>
           simp;refine hR3 _ _ ?_;exact hR (some e) _ _ (by rfl) (hp _)
          |none=>
           simp;by_cases hnS:n=S.length
           . have e9:n+1=S2.length:=(by have:=e6 hnS;omega);simp[e5 hnS,e6 hnS,hnS,hS1l,hS2l.1,hb32 hnS];rw[e9]at hms hzz hz6 hz7;exact hK3 (k+1,.own 11 (g+1) 1 1 0 1,(g+1,.arr 1 0 false [.int .u8 (b:Int)]),uu,S2,S2.length,_,_,_,_,⟨a0,a1,a2,a3,a4,a5,a6,_⟩,⟨_,_,_,_,_,_,_,_⟩) _ _ hms ⟨q3,hp,hzz,hTX,m0 _,hS2l.1,hz6,hz7,rfl,rfl⟩
           . have hnn:n≤S.length:=z4;simp[e7,e8 hnS,hnS,hS1l,hnn,hz5.2];exact hK3 (k+1,.own 11 (g+1) 1 1 0 1,(g+1,.arr 1 0 false [.int .u8 (b:Int)]),uu,S2,n+1,_,_,_,_,⟨a0,a1,a2,a3,a4,a5,a6,_⟩,⟨_,_,_,_,_,_,_,_⟩) _ _ hms ⟨q3,hp,hzz,hTX,hS2l.2,hS2l.1,hz6,hz7,rfl,rfl⟩
       . have hTl:(T.take nt).length=nt:=(by rw[a1G];omega);by_cases hnt:nt=T.length
         . obtain⟨T2,hT2⟩:=p8 (T++[c]);have eT:T.map UB++[.int .u8 (b:Int)]=T2.map UB:=(by grind);have eL:T.length+1=T2.length:=(by rw[hT2];simp);have hTb:T2.length≤140737488355328:=i9;have huT:uu=T2:=(by grind);have hTX:TX (.own 11 g T2.length 1 0 T2.length) (g,.arr 1 ver false (T2.map UB)) uu:=.inr ⟨g,ver,T2,T2.length,rfl,rfl,m0 _,by rw[huT,J7],i9⟩;simp[hS,hwb,eS,hw8,hS1m,hS1l,hmS,hnt,eT,eL,hTb];refine l7 hbf ?_;simp;refine l7 hsp2 ?_;simp;cases eN with
           |false=>
            have hzz:=hnot rfl;by_cases hnS:n=S.length
            . have e9:n+1=S2.length:=(by have:=e6 hnS;omega);simp[e5 hnS,e6 hnS,hnS,hS1l,hS2l.1,hb32 hnS];rw[e9]at hms hzz hz6 hz7;exact hK3 (k,.own 11 g T2.length 1 0 T2.length,(g,.arr 1 ver false (T2.map UB)),uu,S2,S2.length,_,_,_,_,⟨r0,r1,r2,r3,r4,r5,r6,_⟩,⟨_,_,_,_,_,_,_,_⟩) _ _ hms ⟨z0,z1,hzz,hTX,m0 _,hS2l.1,hz6,hz7,rfl,rfl⟩
            . have hnn:n≤S.length:=z4;simp[e7,e8 hnS,hnS,hS1l,hnn,hz5.2];exact hK3 (k,.own 11 g T2.length 1 0 T2.length,(g,.arr 1 ver false (T2.map UB)),uu,S2,n+1,_,_,_,_,⟨r0,r1,r2,r3,r4,r5,r6,_⟩,⟨_,_,_,_,_,_,_,_⟩) _ _ hms ⟨z0,z1,hzz,hTX,hS2l.2,hS2l.1,hz6,hz7,rfl,rfl⟩
           |true=>
            obtain⟨q1,hzz,q3⟩:=hget rfl;have q1:E[k]?=some T2:=huT▸q1;simp[];refine a4X rfl rfl ?_;refine hYm _ _ _ _ ?_ (hY k T2 r0 r1 r2 r3 r4 r5 r6 _ q1 z1);rintro p h' ⟨a0,a1,a2,a3,a4,a5,a6,rfl,hp⟩;refine⟨rfl,?_⟩;cases p with
            |some e=>
             simp;refine hR3 _ _ ?_;exact hR (some e) _ _ (by rfl) (hp _)
            |none=>
             simp;by_cases hnS:n=S.length
             . have e9:n+1=S2.length:=(by have:=e6 hnS;omega);simp[e5 hnS,e6 hnS,hnS,hS1l,hS2l.1,hb32 hnS];rw[e9]at hms hzz hz6 hz7;exact hK3 (k+1,.own 11 g T2.length 1 0 T2.length,(g,.arr 1 ver false (T2.map UB)),uu,S2,S2.length,_,_,_,_,⟨a0,a1,a2,a3,a4,a5,a6,_⟩,⟨_,_,_,_,_,_,_,_⟩) _ _ hms ⟨q3,hp,hzz,hTX,m0 _,hS2l.1,hz6,hz7,rfl,rfl⟩
             . have hnn:n≤S.length:=z4;simp[e7,e8 hnS,hnS,hS1l,hnn,hz5.2];exact hK3 (k+1,.own 11 g T2.length 1 0 T2.length,(g,.arr 1 ver false (T2.map UB)),uu,S2,n+1,_,_,_,_,⟨a0,a1,a2,a3,a4,a5,a6,_⟩,⟨_,_,_,_,_,_,_,_⟩) _ _ hms ⟨q3,hp,hzz,hTX,hS2l.2,hS2l.1,hz6,hz7,rfl,rfl⟩
         . obtain⟨T2,hT2⟩:∃T2,T2=T.take nt++c::T.drop (nt+1):=⟨_,rfl⟩
           have eT:(T.map UB).take nt++ .int .u8 (b:Int)::(T.map UB).drop (nt+1)=T2.map UB:=(by rw[hT2,S8,a3v,a0s,a1H,←hcb]);have eL:nt+(T.length-(nt+1)+1)=T2.length:=(by grind);have hTb:nt+1≤140737488355328:=i9;have hnl:nt≤T.length:=h1;have hn2:nt+1≤T2.length:=i9;have huT:T2.take (nt+1)=uu:=(by grind);have huB:a1B ((T2.map UB).take (nt+1))=some uu:=(by rw[←a3v,a8d,huT]);have huC:a1B ((T2.take (nt+1)).map UB)=some uu:=(by rw[a8d,huT]);have hTX:TX (.own 11 g T2.length 1 0 (nt+1)) (g,.arr 1 (ver+1) false (T2.map UB)) uu:=.inr ⟨g,ver+1,T2,nt+1,rfl,rfl,hn2,huT.symm,i9⟩;simp[hS,hwb,eS,hw8,hS1m,hS1l,hmS,hnt,hnl,eT,eL,hTb];refine l7 hbf ?_;simp;refine l7 hsp2 ?_;simp;cases eN with
           |false=>
            have hzz:=hnot rfl;by_cases hnS:n=S.length
            . have e9:n+1=S2.length:=(by have:=e6 hnS;omega);simp[e5 hnS,e6 hnS,hnS,hS1l,hS2l.1,hb32 hnS];rw[e9]at hms hzz hz6 hz7;exact hK3 (k,.own 11 g T2.length 1 0 (nt+1),(g,.arr 1 (ver+1) false (T2.map UB)),uu,S2,S2.length,_,_,_,_,⟨r0,r1,r2,r3,r4,r5,r6,_⟩,⟨_,_,_,_,_,_,_,_⟩) _ _ hms ⟨z0,z1,hzz,hTX,m0 _,hS2l.1,hz6,hz7,rfl,rfl⟩
            . have hnn:n≤S.length:=z4;simp[e7,e8 hnS,hnS,hS1l,hnn,hz5.2];exact hK3 (k,.own 11 g T2.length 1 0 (nt+1),(g,.arr 1 (ver+1) false (T2.map UB)),uu,S2,n+1,_,_,_,_,⟨r0,r1,r2,r3,r4,r5,r6,_⟩,⟨_,_,_,_,_,_,_,_⟩) _ _ hms ⟨z0,z1,hzz,hTX,hS2l.2,hS2l.1,hz6,hz7,rfl,rfl⟩
           |true=>
            obtain⟨q1,hzz,q3⟩:=hget rfl;simp[huB,huC,hn2];refine a4X rfl rfl ?_;refine hYm _ _ _ _ ?_ (hY k uu r0 r1 r2 r3 r4 r5 r6 _ q1 z1);rintro p h' ⟨a0,a1,a2,a3,a4,a5,a6,rfl,hp⟩;refine⟨rfl,?_⟩;cases p with
            |some e=>
             simp;refine hR3 _ _ ?_;exact hR (some e) _ _ (by rfl) (hp _)
            |none=>
             simp;by_cases hnS:n=S.length
             . have e9:n+1=S2.length:=(by have:=e6 hnS;omega);simp[e5 hnS,e6 hnS,hnS,hS1l,hS2l.1,hb32 hnS];rw[e9]at hms hzz hz6 hz7;exact hK3 (k+1,.own 11 g T2.length 1 0 (nt+1),(g,.arr 1 (ver+1) false (T2.map UB)),uu,S2,S2.length,_,_,_,_,⟨a0,a1,a2,a3,a4,a5,a6,_⟩,⟨_,_,_,_,_,_,_,_⟩) _ _ hms ⟨q3,hp,hzz,hTX,m0 _,hS2l.1,hz6,hz7,rfl,rfl⟩
             . have hnn:n≤S.length:=z4;simp[e7,e8 hnS,hnS,hS1l,hnn,hz5.2];exact hK3 (k+1,.own 11 g T2.length 1 0 (nt+1),(g,.arr 1 (ver+1) false (T2.map UB)),uu,S2,n+1,_,_,_,_,⟨a0,a1,a2,a3,a4,a5,a6,_⟩,⟨_,_,_,_,_,_,_,_⟩) _ _ hms ⟨q3,hp,hzz,hTX,hS2l.2,hS2l.1,hz6,hz7,rfl,rfl⟩
 |false=>
  rw[if_neg k7,a4E]at hE;obtain⟨k0,hJ0,hE0,hk0⟩:∃k0,J k0 [a0,a1,a2,a3,a4,a5,a6]∧E.drop k0=W3 t l gd D [(H0,0)] []∧k0≤E.length:=⟨0,hJ,by rw[hE];rfl,C9 _⟩
  simp;refine E3 (fun(y:Nat×PV×Row×By×List (List m9×Nat)×Nat×Nat×Nat×Row×Nat×RC7×TV) vs h=>y.1≤E.length∧J y.1 [y.2.2.2.2.2.2.2.2.2.2.1.r0,y.2.2.2.2.2.2.2.2.2.2.1.r1,y.2.2.2.2.2.2.2.2.2.2.1.r2,y.2.2.2.2.2.2.2.2.2.2.1.r3,y.2.2.2.2.2.2.2.2.2.2.1.r4,y.2.2.2.2.2.2.2.2.2.2.1.r5,y.2.2.2.2.2.2.2.2.2.2.1.r6]∧E.drop y.1=W3 t l gd (D+1-y.2.2.2.2.2.1) ((y.2.2.2.2.1.take y.2.2.2.2.2.1).reverse) y.2.2.2.1∧TX y.2.1 y.2.2.1 y.2.2.2.1∧y.2.2.2.2.2.1≤y.2.2.2.2.1.length∧y.2.2.2.2.1.length≤D∧(y.2.2.2.2.2.1=0∧y.2.2.2.1=[]∨y.2.2.2.1.length+1=y.2.2.2.2.2.1)∧StO t l gd y.2.2.2.2.1 y.2.2.2.2.2.1 y.2.2.2.1∧
   vs=[.fn (.yield ly) [] [],.ptr 7 g7 0,y.2.1,y.2.2.2.2.2.2.2.2.2.2.2.w3,y.2.2.2.2.2.2.2.2.2.2.2.w4,.own 9 1 y.2.2.2.2.1.length 2 0 y.2.2.2.2.2.1,y.2.2.2.2.2.2.2.2.2.2.2.w6,y.2.2.2.2.2.2.2.2.2.2.2.w7,y.2.2.2.2.2.2.2.2.2.2.2.w8,y.2.2.2.2.2.2.2.2.2.2.2.w9,y.2.2.2.2.2.2.2.2.2.2.2.w10,y.2.2.2.2.2.2.2.2.2.2.2.w11,gOf none]∧h=[y.2.2.2.2.2.2.2.2.2.2.1.r0,y.2.2.2.2.2.2.2.2.2.2.1.r1,y.2.2.2.2.2.2.2.2.2.2.1.r2,y.2.2.2.2.2.2.2.2.2.2.1.r3,y.2.2.2.2.2.2.2.2.2.2.1.r4,y.2.2.2.2.2.2.2.2.2.2.1.r5,y.2.2.2.2.2.2.2.2.2.2.1.r6,(g7,.var [RD t l gd]),(1,.arr 3 1 true (H0.map HQ)),(1,.arr 2 y.2.2.2.2.2.2.1 false (y.2.2.2.2.1.map SE)),(y.2.2.2.2.2.2.2.1,.dead),y.2.2.1,y.2.2.2.2.2.2.2.2.1,y.2.2.2.2.2.2.2.2.2.2.1.r13,(y.2.2.2.2.2.2.2.2.2.1,.dead),dd]) (fun y=>Y5 t l gd (D+1-y.2.2.2.2.2.1) ((y.2.2.2.2.1.take y.2.2.2.2.2.1).reverse))
   (k0,.nils,dd,[],[(H0,0)],1,_,_,dd,0,⟨a0,a1,a2,a3,a4,a5,a6,dd⟩,⟨_,_,_,_,_,_,_,_⟩) ⟨hk0,hJ0,hE0,.inl ⟨rfl,rfl,0,rfl⟩,m0 _,I3,.inr rfl,hS0,rfl,rfl⟩ ?_
  rintro⟨k,tv,R10,u,S,n,ver8,g9,R11,g13,⟨r0,r1,r2,r3,r4,r5,r6,r13⟩,⟨w3,w4,w6,w7,w8,w9,w10,w11⟩⟩ vs h ⟨z0,z1,z2,z3,z4,z5,z6,z7,rfl,rfl⟩ Q3 hK3 hX3 hR3;dsimp only at z0 z1 z2 z3 z4 z5 z6 z7;by_cases hn0:n=0
  . subst hn0;have hend:E.drop k=[]:=(by rw[z2,List.take_zero,List.reverse_nil,W3]);have hkE:k=E.length:=(by have:=congrArg List.length hend;rw[a2X]at this;simp at this;omega);rw[hkE]at z1;simp;refine hX3 _ _ _ ?_;simp;exact hN none _ _ (by rfl) (hK _ _ _ _ _ _ _ _ z1)
  . obtain⟨m,hm⟩:∃m,n=m+1:=⟨n-1,i9⟩
    have hn1:0<n:=i9;have hmn:m<n:=i9;have hmn2:m≤n:=i9;have hwl:IntKind.i64.wrap ((n:Int)-1)=(m:Int):=(by rw[wrap_ok i9 i9];omega);have hmS:m<S.length:=i9;have hul:u.length=m:=i9;have hum:u.take m=u:=U4 i9;obtain⟨⟨H,nx⟩,hS⟩:∃f,S[m]=f:=⟨_,rfl⟩
    have hfr:(S.take n).reverse=(H,nx)::(S.take m).reverse:=(by rw[hm,J2,l9 hmS,hS];simp);obtain⟨hF,hFn,hnx⟩:=z7 m H nx hmn (by grind);rw[hum]at hF;have hne:∀h∈H,h.r≠ []:=fun h hh=>((hF h).1 hh).2;have hHl:=hHB u H hF hFn;obtain⟨r,⟨mm,rfl,hlo⟩,hlf⟩:=b5W H nx hne i9 hnx;have hd:D+1-n=D-m:=i9;have hd2:D+1-m=(D-m)+1∨D<m:=i9;simp[hn1,hwl,hmn,hmS,hS];refine l7 hlf ?_;rcases hlo.O7 with⟨rfl,hc⟩|⟨b,rfl,hb1,hb2,hb3,hc⟩
    . obtain⟨p1,p2⟩:=b6i (t:=t) (l:=l) (gd:=gd) (d:=D+1-n) (S:=(S.take m).reverse) (u:=u) hc;rw[show D+1-n+1=D+1-m by omega]at p1 p2;have hz2:E.drop k=W3 t l gd (D+1-m) ((S.take m).reverse) u.dropLast:=(by rw[z2,hfr,p1]);have hms:Y5 t l gd (D+1-m) ((S.take m).reverse)<Y5 t l gd (D+1-n) ((S.take n).reverse):=(by grind);have hdl:u.dropLast=u.take (m-1):=(by rw[List.dropLast_eq_take,hul]);have hz6:m=0∧u.dropLast=[]∨u.dropLast.length+1=m:=(by grind);have hz7:StO t l gd S m u.dropLast:=fun i H' nx' hi hg=>by
       have:=z7 i H' nx' i9 hg;rw[hdl,List.take_take,Nat.min_eq_left i9];exact this
      have hwm1:IntKind.i64.wrap (-1)= -1:=O5;rcases z3 with⟨rfl,rfl,g,rfl⟩|⟨g,ver,T,nt,rfl,rfl,h1,rfl,h2⟩
      . simp[hwl,hmn2,hwm1];exact hK3 (k,.nils,(g,.dead),[],S,m,ver8,g9,R11,g13,⟨r0,r1,r2,r3,r4,r5,r6,r13⟩,⟨_,_,_,_,_,_,_,_⟩) _ _ hms ⟨z0,z1,hz2,.inl ⟨rfl,rfl,g,rfl⟩,m7,z5,hz6,hz7,rfl,rfl⟩
      . have hwt:IntKind.i64.wrap ((nt:Int)-1)=(nt:Int)-1:=O5;have hmx:(if(nt:Int)-1<0 then 0 else(nt:Int)-1)=((nt-1:Nat):Int):=(by split<;>omega);obtain⟨nq,hnq⟩:=p8 (nt-1);rw[←hnq]at hmx;have hnq2:nq≤nt:=i9;have htd:(T.take nt).dropLast=T.take nq:=(by grind);simp[hwl,hmn2,hwt,hmx,hnq2];exact hK3 (k,.own 11 g T.length 1 0 nq,(g,.arr 1 ver false (T.map UB)),(T.take nt).dropLast,S,m,ver8,g9,R11,g13,⟨r0,r1,r2,r3,r4,r5,r6,r13⟩,⟨_,_,_,_,_,_,_,_⟩) _ _ hms ⟨z0,z1,hz2,.inr ⟨g,ver,T,nq,rfl,rfl,i9,htd,h2⟩,m7,z5,hz6,hz7,rfl,rfl⟩
    . have hSg:S[m]?=some (H,nx):=(by rw[l9 hmS,hS]);have hwb:=wk1 b i9;have hw8:IntKind.u8.wrap (b:Int)=(b:Int):=(by simp[IntKind.wrap,IntKind.signed,IntKind.bits];omega);obtain⟨c,hcc⟩:=p8 (UInt8.ofNat b);have hcb:c.toNat=b:=(by rw[hcc];exact ofNat_toNat hb2);obtain⟨S1,hS1⟩:=p8 (S.set m (H,b+1));have hS1l:S1.length=S.length:=(by rw[hS1];simp);have eS:(S.map SE).set m (.agg [.slc (H.map HQ),.int .i64 ((b:Int)+1)])=S1.map SE:=(by rw[hS1,J8];rfl);have hS1m:S1[m]'i9=(H,b+1):=(by simp[hS1]);have hS1g:(S1.map SE)[m]?=some (SE (H,b+1)):=(by grind);obtain⟨fN1,fN2⟩:=hF.next ht hgd hcb;have hndN:=(a8u ht hgd (O9 H b)).nodup;have hbl:=b3U H b;have hsp2:=b4d t ht l i9 gd hgd (O9 H b) (by unfold a0A;omega);have hbf:=c0U H (IN (b+1)) b hb2 hne i9;have hhd:u.length+1≤4*l.length:=by
       obtain⟨h,hh,c',r',hr,_⟩:=a6g.1 hb3;have:=((hF h).1 hh).1.len ht hgd;rw[hr]at this;simp at this;omega
      have hnD:n+1≤D:=i9;obtain⟨p1,p2⟩:=b6I (t:=t) (l:=l) (gd:=gd) (d:=D-n) (u:=u) (S:=(S.take m).reverse) hc (.inl i9);rw[show D-n+1=D+1-n by omega,←hcc]at p1;rw[show D-n+1=D+1-n by omega]at p2;obtain⟨HN,hHN⟩:=p8 ((Y2 t l gd (O9 H b)).1.2.2);obtain⟨eN,heN⟩:=p8 ((Y2 t l gd (O9 H b)).2);rw[←hHN]at hsp2 fN1 hndN;rw[←heN]at hsp2 fN2;unfold Y3 nxE at p1;unfold Y3 at p2;rw[←hHN]at p1 p2;rw[←heN]at p1;obtain⟨S2,hS2⟩:∃S2,S2=S1.take n++(HN,0)::S1.drop (n+1):=⟨_,rfl⟩
      have hS2l:S2.length≤D∧n+1≤S2.length:=by rw[hS2];simp;omega
      have hS2t:S2.take (n+1)=S1.take n++[(HN,0)]:=(by grind);have hS1t:S1.take n=S.take m++[(H,b+1)]:=by rw[hm,J2,l9 i9,hS1m,hS1,List.take_set_of_le (m0 m)];rfl
      have hrev:(S2.take (n+1)).reverse=(HN,0)::(H,b+1)::(S.take m).reverse:=(by grind);have hz2:E.drop k=(if eN=true then [u++[c]]else [])++W3 t l gd (D+1-(n+1)) ((S2.take (n+1)).reverse) (u++[c]):=(by grind);have hms:Y5 t l gd (D+1-(n+1)) ((S2.take (n+1)).reverse)<Y5 t l gd (D+1-n) ((S.take n).reverse):=(by grind);have hz7:StO t l gd S2 (n+1) (u++[c]):=fun i H' nx' hi hg=>by
       have hg2:(S2.take (n+1))[i]?=some (H',nx'):=(by grind);rw[hS2t,hS1t]at hg2;by_cases h1:i<m
       . rw[a0R I3,a0R I3,a0O,if_pos h1]at hg2;have:=z7 i H' nx' i9 hg2;rw[List.take_append_of_le_length i9];exact this
       . by_cases h2:i=m
         . grind
         . have h3:i=n:=i9;subst h3;have e:(S.take m++[(H,b+1)]++[(HN,0)])[i]?=some (HN,0):=(by grind);rw[e]at hg2;cases hg2;rw[U4 I3];exact⟨fN1,hndN,i9⟩
      have hz6:n+1=0∧u++[c]=[]∨(u++[c]).length+1=n+1:=(by grind);have hz5:S1.length*32≤140737488355328∧(n+1)*32≤140737488355328:=i9;have hget:eN=true→E[k]?=some (u++[c])∧E.drop (k+1)=W3 t l gd (D+1-(n+1)) ((S2.take (n+1)).reverse) (u++[c])∧k+1≤E.length:=fun he=>by
       rw[if_pos he]at hz2;have h1:=congrArg (fun q:List By=>q[0]?) hz2;simp at h1;refine⟨h1,?_,?_⟩
       . rw[←a1U,hz2];rfl
       . grind
      have hnot:eN=false→E.drop k=W3 t l gd (D+1-(n+1)) ((S2.take (n+1)).reverse) (u++[c]):=fun he=>by rw[he]at hz2;simpa using hz2
      have e5:n=S.length→S1.map SE++[.agg [.slc (HN.map HQ),.int .i64 0]]=S2.map SE:=fun e=>by rw[hS2,U4 i9,b4H i9,S8];rfl
      have e6:n=S.length→S.length+1=S2.length:=fun e=>(by rw[hS2];simp;omega);have e7:(S1.map SE).take n++ .agg [.slc (HN.map HQ),.int .i64 0]::(S1.map SE).drop (n+1)=S2.map SE:=by rw[hS2,S8,a3v,a0s,a1H];rfl
      have e8:n≠S.length→n+(S.length-(n+1)+1)=S2.length:=fun e=>(by rw[hS2];simp;omega);have hb32:n=S.length→S2.length*32≤140737488355328:=fun e=>(by have:=hS2l.1;omega);obtain⟨uu,huu⟩:=p8 (u++[c]);rw[←huu]at hz2 hz6 hz7 hget hnot;rcases z3 with⟨rfl,rfl,g,rfl⟩|⟨g,ver,T,nt,rfl,rfl,h1,rfl,h2⟩
      . have hby:a1B [.int .u8 (b:Int)]=some uu:=(by rw[huu,hcc];simp[a1B,a7n]);have hTX:TX (.own 11 (g+1) 1 1 0 1) (g+1,.arr 1 0 false [.int .u8 (b:Int)]) uu:=.inr ⟨g+1,0,[c],1,rfl,by rw[←hcb];rfl,k7,by rw[huu];simp,k7⟩;simp[hS,hwb,eS,hw8,hS1m,hS1l,hmS];refine l7 hbf ?_;simp;refine l7 hsp2 ?_;simp;cases eN with
        |false=>
         have hzz:=hnot rfl;by_cases hnS:n=S.length
         . have e9:n+1=S2.length:=(by have:=e6 hnS;omega);simp[e5 hnS,e6 hnS,hnS,hS1l,hS2l.1,hb32 hnS];rw[e9]at hms hzz hz6 hz7;exact hK3 (k,.own 11 (g+1) 1 1 0 1,(g+1,.arr 1 0 false [.int .u8 (b:Int)]),uu,S2,S2.length,_,_,_,_,⟨r0,r1,r2,r3,r4,r5,r6,_⟩,⟨_,_,_,_,_,_,_,_⟩) _ _ hms ⟨z0,z1,hzz,hTX,m0 _,hS2l.1,hz6,hz7,rfl,rfl⟩
         . have hnn:n≤S.length:=z4;simp[e7,e8 hnS,hnS,hS1l,hnn,hz5.2];exact hK3 (k,.own 11 (g+1) 1 1 0 1,(g+1,.arr 1 0 false [.int .u8 (b:Int)]),uu,S2,n+1,_,_,_,_,⟨r0,r1,r2,r3,r4,r5,r6,_⟩,⟨_,_,_,_,_,_,_,_⟩) _ _ hms ⟨z0,z1,hzz,hTX,hS2l.2,hS2l.1,hz6,hz7,rfl,rfl⟩
        |true=>
         obtain⟨q1,hzz,q3⟩:=hget rfl;simp[hby];refine a4X rfl rfl ?_;refine hYm _ _ _ _ ?_ (hY k uu r0 r1 r2 r3 r4 r5 r6 _ q1 z1);rintro p h' ⟨a0,a1,a2,a3,a4,a5,a6,rfl,hp⟩;refine⟨rfl,?_⟩;cases p with
         |some e=>
          simp;refine hR3 _ _ ?_;exact hR (some e) _ _ (by rfl) (hp _)
         |none=>
          simp;by_cases hnS:n=S.length
          . have e9:n+1=S2.length:=(by have:=e6 hnS;omega);simp[e5 hnS,e6 hnS,hnS,hS1l,hS2l.1,hb32 hnS];rw[e9]at hms hzz hz6 hz7;exact hK3 (k+1,.own 11 (g+1) 1 1 0 1,(g+1,.arr 1 0 false [.int .u8 (b:Int)]),uu,S2,S2.length,_,_,_,_,⟨a0,a1,a2,a3,a4,a5,a6,_⟩,⟨_,_,_,_,_,_,_,_⟩) _ _ hms ⟨q3,hp,hzz,hTX,m0 _,hS2l.1,hz6,hz7,rfl,rfl⟩
          . have hnn:n≤S.length:=z4;simp[e7,e8 hnS,hnS,hS1l,hnn,hz5.2];exact hK3 (k+1,.own 11 (g+1) 1 1 0 1,(g+1,.arr 1 0 false [.int .u8 (b:Int)]),uu,S2,n+1,_,_,_,_,⟨a0,a1,a2,a3,a4,a5,a6,_⟩,⟨_,_,_,_,_,_,_,_⟩) _ _ hms ⟨q3,hp,hzz,hTX,hS2l.2,hS2l.1,hz6,hz7,rfl,rfl⟩
      . have hTl:(T.take nt).length=nt:=(by rw[a1G];omega);by_cases hnt:nt=T.length
        . obtain⟨T2,hT2⟩:=p8 (T++[c]);have eT:T.map UB++[.int .u8 (b:Int)]=T2.map UB:=(by grind);have eL:T.length+1=T2.length:=(by rw[hT2];simp);have hTb:T2.length≤140737488355328:=i9;have huT:uu=T2:=(by grind);have hTX:TX (.own 11 g T2.length 1 0 T2.length) (g,.arr 1 ver false (T2.map UB)) uu:=.inr ⟨g,ver,T2,T2.length,rfl,rfl,m0 _,by rw[huT,J7],i9⟩;simp[hS,hwb,eS,hw8,hS1m,hS1l,hmS,hnt,eT,eL,hTb];refine l7 hbf ?_;simp;refine l7 hsp2 ?_;simp;cases eN with
          |false=>
           have hzz:=hnot rfl;by_cases hnS:n=S.length
           . have e9:n+1=S2.length:=(by have:=e6 hnS;omega);simp[e5 hnS,e6 hnS,hnS,hS1l,hS2l.1,hb32 hnS];rw[e9]at hms hzz hz6 hz7;exact hK3 (k,.own 11 g T2.length 1 0 T2.length,(g,.arr 1 ver false (T2.map UB)),uu,S2,S2.length,_,_,_,_,⟨r0,r1,r2,r3,r4,r5,r6,_⟩,⟨_,_,_,_,_,_,_,_⟩) _ _ hms ⟨z0,z1,hzz,hTX,m0 _,hS2l.1,hz6,hz7,rfl,rfl⟩
           . have hnn:n≤S.length:=z4;simp[e7,e8 hnS,hnS,hS1l,hnn,hz5.2];exact hK3 (k,.own 11 g T2.length 1 0 T2.length,(g,.arr 1 ver false (T2.map UB)),uu,S2,n+1,_,_,_,_,⟨r0,r1,r2,r3,r4,r5,r6,_⟩,⟨_,_,_,_,_,_,_,_⟩) _ _ hms ⟨z0,z1,hzz,hTX,hS2l.2,hS2l.1,hz6,hz7,rfl,rfl⟩
          |true=>
           obtain⟨q1,hzz,q3⟩:=hget rfl;have q1:E[k]?=some T2:=huT▸q1;simp[];refine a4X rfl rfl ?_;refine hYm _ _ _ _ ?_ (hY k T2 r0 r1 r2 r3 r4 r5 r6 _ q1 z1);rintro p h' ⟨a0,a1,a2,a3,a4,a5,a6,rfl,hp⟩;refine⟨rfl,?_⟩;cases p with
           |some e=>
            simp;refine hR3 _ _ ?_;exact hR (some e) _ _ (by rfl) (hp _)
           |none=>
            simp;by_cases hnS:n=S.length
            . have e9:n+1=S2.length:=(by have:=e6 hnS;omega);simp[e5 hnS,e6 hnS,hnS,hS1l,hS2l.1,hb32 hnS];rw[e9]at hms hzz hz6 hz7;exact hK3 (k+1,.own 11 g T2.length 1 0 T2.length,(g,.arr 1 ver false (T2.map UB)),uu,S2,S2.length,_,_,_,_,⟨a0,a1,a2,a3,a4,a5,a6,_⟩,⟨_,_,_,_,_,_,_,_⟩) _ _ hms ⟨q3,hp,hzz,hTX,m0 _,hS2l.1,hz6,hz7,rfl,rfl⟩
            . have hnn:n≤S.length:=z4;simp[e7,e8 hnS,hnS,hS1l,hnn,hz5.2];exact hK3 (k+1,.own 11 g T2.length 1 0 T2.length,(g,.arr 1 ver false (T2.map UB)),uu,S2,n+1,_,_,_,_,⟨a0,a1,a2,a3,a4,a5,a6,_⟩,⟨_,_,_,_,_,_,_,_⟩) _ _ hms ⟨q3,hp,hzz,hTX,hS2l.2,hS2l.1,hz6,hz7,rfl,rfl⟩
        . obtain⟨T2,hT2⟩:∃T2,T2=T.take nt++c::T.drop (nt+1):=⟨_,rfl⟩
          have eT:(T.map UB).take nt++ .int .u8 (b:Int)::(T.map UB).drop (nt+1)=T2.map UB:=(by rw[hT2,S8,a3v,a0s,a1H,←hcb]);have eL:nt+(T.length-(nt+1)+1)=T2.length:=(by grind);have hTb:nt+1≤140737488355328:=i9;have hnl:nt≤T.length:=h1;have hn2:nt+1≤T2.length:=i9;have huT:T2.take (nt+1)=uu:=(by grind);have huB:a1B ((T2.map UB).take (nt+1))=some uu:=(by rw[←a3v,a8d,huT]);have huC:a1B ((T2.take (nt+1)).map UB)=some uu:=(by rw[a8d,huT]);have hTX:TX (.own 11 g T2.length 1 0 (nt+1)) (g,.arr 1 (ver+1) false (T2.map UB)) uu:=.inr ⟨g,ver+1,T2,nt+1,rfl,rfl,hn2,huT.symm,i9⟩;simp[hS,hwb,eS,hw8,hS1m,hS1l,hmS,hnt,hnl,eT,eL,hTb];refine l7 hbf ?_;simp;refine l7 hsp2 ?_;simp;cases eN with
          |false=>
           have hzz:=hnot rfl;by_cases hnS:n=S.length
           . have e9:n+1=S2.length:=(by have:=e6 hnS;omega);simp[e5 hnS,e6 hnS,hnS,hS1l,hS2l.1,hb32 hnS];rw[e9]at hms hzz hz6 hz7;exact hK3 (k,.own 11 g T2.length 1 0 (nt+1),(g,.arr 1 (ver+1) false (T2.map UB)),uu,S2,S2.length,_,_,_,_,⟨r0,r1,r2,r3,r4,r5,r6,_⟩,⟨_,_,_,_,_,_,_,_⟩) _ _ hms ⟨z0,z1,hzz,hTX,m0 _,hS2l.1,hz6,hz7,rfl,rfl⟩
           . have hnn:n≤S.length:=z4;simp[e7,e8 hnS,hnS,hS1l,hnn,hz5.2];exact hK3 (k,.own 11 g T2.length 1 0 (nt+1),(g,.arr 1 (ver+1) false (T2.map UB)),uu,S2,n+1,_,_,_,_,⟨r0,r1,r2,r3,r4,r5,r6,_⟩,⟨_,_,_,_,_,_,_,_⟩) _ _ hms ⟨z0,z1,hzz,hTX,hS2l.2,hS2l.1,hz6,hz7,rfl,rfl⟩
          |true=>
           obtain⟨q1,hzz,q3⟩:=hget rfl;simp[huB,huC,hn2];refine a4X rfl rfl ?_;refine hYm _ _ _ _ ?_ (hY k uu r0 r1 r2 r3 r4 r5 r6 _ q1 z1);rintro p h' ⟨a0,a1,a2,a3,a4,a5,a6,rfl,hp⟩;refine⟨rfl,?_⟩;cases p with
           |some e=>
            simp;refine hR3 _ _ ?_;exact hR (some e) _ _ (by rfl) (hp _)
           |none=>
            simp;by_cases hnS:n=S.length
            . have e9:n+1=S2.length:=(by have:=e6 hnS;omega);simp[e5 hnS,e6 hnS,hnS,hS1l,hS2l.1,hb32 hnS];rw[e9]at hms hzz hz6 hz7;exact hK3 (k+1,.own 11 g T2.length 1 0 (nt+1),(g,.arr 1 (ver+1) false (T2.map UB)),uu,S2,S2.length,_,_,_,_,⟨a0,a1,a2,a3,a4,a5,a6,_⟩,⟨_,_,_,_,_,_,_,_⟩) _ _ hms ⟨q3,hp,hzz,hTX,m0 _,hS2l.1,hz6,hz7,rfl,rfl⟩
            . have hnn:n≤S.length:=z4;simp[e7,e8 hnS,hnS,hS1l,hnn,hz5.2];exact hK3 (k+1,.own 11 g T2.length 1 0 (nt+1),(g,.arr 1 (ver+1) false (T2.map UB)),uu,S2,n+1,_,_,_,_,⟨a0,a1,a2,a3,a4,a5,a6,_⟩,⟨_,_,_,_,_,_,_,_⟩) _ _ hms ⟨q3,hp,hzz,hTX,hS2l.2,hS2l.1,hz6,hz7,rfl,rfl⟩
def tgt(t:j9)(k:Nat):Nat:=P7 t ⟨(t.rules.getD k default).dst,a1n ((t.rules.getD k default).print.getLastD 0),(t.rules.getD k default).right⟩
theorem c4t{t:j9}{s s':State}{k:Nat}(h:step t s k=some s')(hp:prt t k≠ []):P7 t s'=tgt t k:=by
 unfold step at h;obtain⟨r,hr,h2⟩:=V1.1 h;have e:t.rules.getD k default=r:=by grind
 unfold prt at hp;rw[e]at hp;unfold tgt;rw[e];unfold a5A at h2;rw[if_neg hp]at h2;split at h2
 . cases h2
 . split at h2
   . cases h2
   . cases h2;rfl
theorem b0C{t:j9}(ht:s5 t)(k:Nat):(prt t k).length≤4:=by
 unfold prt;rcases a5M k t.rules.length with h|h
 . rw[u9,l9 h];exact(a3F (ht.sound _ (B7 h))).p4
 . rw[u9,a0f h];decide
theorem Hd.shape{t:j9}(ht:s5 t){l:List Nat}{gd:List u7}(hgd:RDs t l gd){u:By}{h:m9}(hh:Hd t l gd u h):h.p≤l.length∧(h.r=[]∨∃k i,k<t.rules.length∧i<5∧h.r=(prt t k).drop i∧h.x=tgt t k):=by
 refine⟨(hgd.snd _ _ (hh.path ht hgd).1).1.2.1,?_⟩
 induction hh with
 |root=>exact .inl rfl
 | @step u p x a h1 h2 h3 h4 ih=>
  have hx:=(hgd.snd _ _ (h1.path ht hgd).1).1.1;obtain⟨s',k1,k2,k3,k4⟩:=a5C hx h2;by_cases hp:prt t a.1=[]
  . exact .inl hp
  . exact .inr ⟨a.1,0,k4,i9,rfl,by rw[←c4t k1 hp];exact k3⟩
 | @byte u p x b r h1 ih=>
  rcases ih with ih|⟨k,i,k1,k2,k3,k4⟩
  . cases ih
  . refine .inr ⟨k,i+1,k1,?_,?_,k4⟩
    . have h5:=congrArg List.length k3;have h6:=b0C ht k;rw[a2X]at h5;simp at h5;omega
    . rw[←a1U,←k3];rfl
def b2K(t:j9)(n:Nat):List m9:=(List.range (n+1)).flatMap fun p=>(List.range t.rules.length).flatMap fun k=>(List.range 5).map fun i=>⟨p,tgt t k,(prt t k).drop i⟩
theorem FrO.len{t:j9}(ht:s5 t){l:List Nat}{gd:List u7}(hgd:RDs t l gd){u:By}{H:List m9}(hF:FrO t l gd u H)(hn:H.Nodup):H.length≤(l.length+1)*(t.rules.length*5):=by
 have e:(b2K t l.length).length=(l.length+1)*(t.rules.length*5):=a8W _ _ _ fun _=>a8W _ _ _ fun _=>by simp
 rw[←e];refine a7p _ _ hn fun h hh=>?_;obtain⟨h1,h2⟩:=(hF h).1 hh;obtain⟨h3,h4⟩:=h1.shape ht hgd;rcases h4 with h4|⟨k,i,k1,k2,k3,k4⟩
 . exact absurd h4 h2
 . refine a2V.2 ⟨h.p,a1v.2 i9,a2V.2 ⟨k,a1v.2 k1,E9.2 ⟨i,a1v.2 k2,?_⟩⟩⟩;rw[←k3,←k4]
def X12:A0:=
 ⟨27,[0,1,2,3,4,5,6,7,8,9,12,20,21],5,[(4,some (false,1)),(5,some (false,1)),(6,some (false,1))],sq [.reg [I0 2 0 0,I0 3 1 1,ow 4 (.alloc 2 [.str ⟨#[]⟩]),ow 5 (.alloc 3 [.int .i64 0]),ow 6 (.alloc 4 [.int .i64 0])],sq [.reg [ok 3 2,W4 36 0 0 0,obb 10 1],.cond (.v 10) (sq [.reg [oq (.store 1 (.v 4) (.c (.str ⟨#[]⟩))),oec 1 5 0,oec 1 6 40],ko]) kd],.reg [ok 3 2,F6 1 3,ocl 41 0 1 0 0 0 0,oo 2,oz 3 0,oz 3 1,oc 7 4,oc 8 5],sq [.reg [oa 7,ow 11 (.callv (.c (.fn (.func 42) [] [])) [.l 0])],.block 0 (.rfor (.v 11) [some 12] (.reg [odh 9 12]) (.block 1 (sq [.reg [oa 9,F6 1 3,ox 1,oq (.storeN 1 (.v 4) (.l 0) [1000003]),K7 1 5 2,oec 1 6 0],ko])))],.reg [oa 8,oq (.minmax true [.l 0,oi 0]),oq (.store 1 (.v 4) (.c (.str ⟨#[]⟩))),K7 1 5 1,oec 1 6 40],ko]⟩
def X16:A0:=
 ⟨35,[0,1,2,3,5,6,7,8,10,11,13,16,24,25,29],7,[(5,some (false,1)),(6,some (false,1))],sq [.reg [I0 3 0 0,I0 4 1 2,ow 5 (.alloc 2 [.nils]),ow 6 (.alloc 3 [.int .i64 0])],sq [.reg [F6 1 4,ow 10 (.bin .lss false (.l 0) (oi 0))],kar 10 1 5 1 6 1],sq [.reg [ok 3 3,W4 36 0 0 0,obb 11 1],kar 11 1 5 1 6 0],.reg [ok 3 3,oa 1,ocl 41 0 1 0 0 0 0,oo 2,oz 3 0,oz 3 1,oc 7 4,oo 5],.reg [ow 8 (.alloc 4 [.nils])],.G4 8 (some 0) 6 1 (sq [sq [.reg [oa 7,ow 12 (.callv (.c (.fn (.func 42) [] [])) [.l 0])],.block 0 (.rfor (.v 12) [some 13] (.reg [odh 9 13]) (.block 1 (sq [sq [.reg [F6 1 8,ox 0,F6 1 4,ow 14 (.bin .eql false (.l 1) (.l 2))],kar 14 1 5 1 6 2],.reg [F6 1 8,oa 9,oq (.mkarr 5 1 [.str ⟨#[]⟩] [(0,.l 1)]),I7 6 1 16 1 0 2,K7 1 8 3]])))],.reg [F6 1 8,K7 1 5 0,oec 1 6 0],ko])]⟩
theorem c12:D0 12 X12:=D3
theorem c16:D0 16 X16:=D3
theorem b6Q(t:j9)(l:List Nat)(gd:List u7)(a0 a1 a2 a3 a4 a5 a6 R7:Row):FI Tryz.prog (.fn (.func 42) [] []) [RD t l gd] [a0,a1,a2,a3,a4,a5,a6,R7,dd,dd,dd,dd,dd,dd,dd,dd] (.fn (.func 81) [] [.ptr 7 (R7.1+1) 0]) [(7,(R7.1+1,.var [RD t l gd]))]:=by refine c4I mixed (X:=X42) c42 (by simp[X42]) k7 fun Q hR hN=>?_;simp[X42];refine hR _ _ ?_;simp[X42,P6]
theorem b8z{t:j9}{l:List Nat}(hT:(l.length+1)*((j4 t).length*t.rules.length+5*t.rules.length)<4000000000000):(l.length+1)*(t.rules.length*5)+1+(l.length+1)*((j4 t).length*t.rules.length)≤4000000000000:=by grind
theorem b1U(t:j9)(ht:s5 t)(l:List Nat)(hl:l.length≤500000000)(hT:(l.length+1)*((j4 t).length*t.rules.length+5*t.rules.length)<4000000000000)(most:Nat)(hm:most≤1000000):
 ∃L:List By,(∀x,x∈L↔M7 t l x)∧L.Nodup∧F0 16 [1,0] [TP t,CL l,IN most] (if L.length≤most then .tup [.uslc (L.map St),I 0]else .tup [.nils,I 2]):=by
 obtain⟨r,⟨gd,md,rfl,hgd,_,_⟩,hrd⟩:=b7G t ht l i9;have hva:=a7V t ht.ok;have hv:R1 t=true:=(a6i t).2 ht;rw[hv]at hva;refine⟨a3H t l gd,fun x=>b7i ht hgd x,c5y ht hgd,?_⟩;have hm0:¬((most:Int)<0):=i9;refine E7 c16 16 (by simp[X16]) fun Q hR hN=>?_;simp[X16,hm0];refine l7 hva ?_;simp;refine l7 hrd ?_;simp;refine a2O (b6Q t l gd _ _ _ _ _ _ _ _) ?_;simp;obtain⟨E,hE⟩:=p8 (a3H t l gd);rw[←hE]at hR;refine b7Z t ht l hl gd hgd ((l.length+1)*(t.rules.length*5)+1) (fun u H hF hn=>Nat.le_succ_of_le (hF.len ht hgd hn)) i9 (b8z hT) b1H
  (fun k rows=>k≤E.length∧k≤most∧∃g5,rows=[(1,.var [IN t.modes,UN t.accept,.slc (t.rules.map RP)]),(1,.var [IN most]),(1,.var [.nils]),(1,.var [I 0]),(1,.var [.own 6 1 k 1 0 k]),(g5,.dead),(1,.arr 1 0 false ((E.take k).map St))]) _ _ _ _ _ _ _ 1 ⟨C9 _,C9 _,0,rfl⟩ ?_ ?_
 . rintro k x r0 r1 r2 r3 r4 r5 r6 tail hx ⟨hk,hkm,g5,e⟩;rw[←hE]at hx;cases e;obtain⟨hkl,hkx⟩:=B4.1 hx;refine⟨rfl,?_⟩;by_cases hkm2:k=most
   . have hnl:¬E.length≤most:=i9;simp[hkm2];refine⟨_,_,_,_,_,_,_,_,_,_,_,_,_,_,⟨⟨rfl,rfl⟩,⟨rfl,rfl⟩,⟨rfl,rfl⟩,⟨rfl,rfl⟩,⟨rfl,rfl⟩,⟨rfl,rfl⟩,rfl,rfl⟩,fun tail=>?_⟩;refine hR _ _ ?_;simp[X16,hnl]
   . obtain⟨E1,hE1⟩:=p8 (E.take k);obtain⟨E2,hE2⟩:=p8 (E.take (k+1));rw[←hE1,←hE2];have e1:E1.map St++[St x]=E2.map St:=(by rw[hE1,hE2,J2,hx];simp);have e2:E1.length=k:=(by grind);have e3:(k+1)*16≤140737488355328:=i9;have e4:E2.length=k+1:=(by grind);simp[hkm2,e1,e2,e3,e4];refine⟨_,_,_,_,_,_,_,_,_,_,_,_,_,_,⟨⟨rfl,rfl⟩,⟨rfl,rfl⟩,⟨rfl,rfl⟩,⟨rfl,rfl⟩,⟨rfl,rfl⟩,⟨rfl,rfl⟩,rfl,rfl⟩,?_⟩;simp;omega
 . rintro r0 r1 r2 r3 r4 r5 r6 tail ⟨hk,hkm,g5,e⟩;rw[←hE]at hk hkm e;cases e;simp;refine hR _ _ ?_;simp[X16,hkm]
theorem b3z(t:j9)(ht:s5 t)(l:List Nat)(hl:l.length≤500000000)(hT:(l.length+1)*((j4 t).length*t.rules.length+5*t.rules.length)<4000000000000):
 ∃r,((∃x,M7 t l x∧r=.tup [St x,IN l.length,I 0])∨(¬∃x,M7 t l x)∧∃p:Int,r=.tup [St [],I p,I 40])∧F0 12 [0,0,0] [TP t,CL l] r:=by
 obtain⟨r,⟨gd,md,rfl,hgd,_,_⟩,hrd⟩:=b7G t ht l i9;have hva:=a7V t ht.ok;have hv:R1 t=true:=(a6i t).2 ht;rw[hv]at hva;have hmem:=b7i ht hgd;obtain⟨E,hE⟩:=p8 (a3H t l gd);rw[←hE]at hmem;refine⟨match E with| []=>.tup [St [],I (if md<0 then 0 else md),I 40]|x::_=>.tup [St x,IN l.length,I 0],?_,?_⟩
 . grind
 refine E7 c12 16 (by simp[X12]) fun Q hR hN=>?_;simp[X12];refine l7 hva ?_;simp;refine l7 hrd ?_;simp;refine a2O (b6Q t l gd _ _ _ _ _ _ _ _) ?_;simp;refine b7Z t ht l hl gd hgd ((l.length+1)*(t.rules.length*5)+1) (fun u H hF hn=>Nat.le_succ_of_le (hF.len ht hgd hn)) i9 (b8z hT) b1H
  (fun k rows=>k=0∧rows=[(1,.var [IN t.modes,UN t.accept,.slc (t.rules.map RP)]),(1,.var [CL l]),(1,.var [St []]),(1,.var [I 0]),(1,.var [I 0]),dd,dd]) _ _ _ _ _ _ _ 1 ⟨rfl,rfl⟩ ?_ ?_
 . rintro k x r0 r1 r2 r3 r4 r5 r6 tail hx ⟨rfl,e⟩;rw[←hE]at hx;cases e;refine⟨rfl,?_⟩;obtain⟨E2,rfl⟩:∃E2,E=x::E2:=(by grind);simp;refine⟨_,_,_,_,_,_,_,_,_,_,_,_,_,_,⟨⟨rfl,rfl⟩,⟨rfl,rfl⟩,⟨rfl,rfl⟩,⟨rfl,rfl⟩,⟨rfl,rfl⟩,⟨rfl,rfl⟩,rfl,rfl⟩,fun tail=>?_⟩;refine hR _ _ ?_;simp[X12]
 . rintro r0 r1 r2 r3 r4 r5 r6 tail ⟨hk,e⟩;rw[←hE]at hk;cases e;obtain rfl:=a0Q.1 hk;simp;refine hR _ _ ?_;simp[X12]
theorem b3R{t:j9}(ht:s5 t){r:N9}(hr:r∈t.rules){c:Nat}(hc:c∈r.cells):c<63:=(ht.snd hr).cell c hc
theorem b5U{t:j9}(ht:s5 t):∀{p:List Nat} {s s':State},s.mode<t.modes→D8 t s p=some s'→s'.mode<t.modes
 | [],s,s',hs,h=>by cases h;exact hs
 |k::p,s,s',hs,h=>by
  simp only[D8]at h;obtain⟨s1,h1,h2⟩:=V1.1 h;refine b5U ht ?_ h2;unfold step at h1;obtain⟨r,hr,h3⟩:=V1.1 h1;have hd:=(ht.snd (C8 hr)).dst;unfold a5A at h3
  grind
theorem a7l{t:j9}(ht:s5 t)(hm:t.modes≤2):(j4 t).length≤768:=by
 have h1:=a3P 768 ((j4 t).map code) (by
  rw[a5O,List.pairwise_map];exact(a5O.1 (b0Q ht)).imp_of_mem fun ha hb hab e=>hab (b6h (a3o ht ha) (a3o ht hb) e)) fun x hx=>by
  obtain⟨s,hs,rfl⟩:=E9.1 hx;obtain⟨p,hp⟩:=(a6j ht).come s hs;have h2:=b5U ht (show start.mode<t.modes from ht.m1) hp;have h3:=a3o ht hs;have:=h3.last;have:=h3.need;unfold code;omega
 simpa using h1
structure Ld where
 (s:Nat)
 (x:By)
 deriving DecidableEq
def ld:By→By→Ld
 | [],[]=>⟨0,[]⟩
 |a::u,[]=>⟨1,a::u⟩
 | [],b::v=>⟨2,b::v⟩
 |a::u,b::v=>if a=b then ld u v else⟨3,[]⟩
def Ld.aft(l:Ld)(p q:By):Ld:=if l.s=1 then ld (l.x++p) q else if l.s=2 then ld p (l.x++q)else if l.s=3 then l else ld p q
def Ld.sw(l:Ld):Ld:=if l.s=1 then⟨2,l.x⟩else if l.s=2 then⟨1,l.x⟩else l
theorem a3A(p q:By):∀u v:By,(ld u v).aft p q=ld (u++p) (v++q)
 | [],[]=>by simp[ld,Ld.aft]
 |a::u,[]=>by simp[ld,Ld.aft]
 | [],b::v=>by simp[ld,Ld.aft]
 |a::u,b::v=>by
  have ih:=a3A p q u v;simp only[ld,a7I];split
  . exact ih
  . rfl
theorem a5G:∀u v:By,(ld u v).s=0↔u=v
 | [],[]=>by simp[ld]
 |a::u,[]=>by simp[ld]
 | [],b::v=>by simp[ld]
 |a::u,b::v=>by
  have ih:=a5G u v;simp only[ld]
  grind
theorem b0n(u:By):ld u u=⟨0,[]⟩:=by
 induction u with
 |nil=>rfl
 |cons a u ih=>simp[ld,ih]
theorem b2i:∀u v:By,ld v u=(ld u v).sw
 | [],[]=>rfl
 |a::u,[]=>rfl
 | [],b::v=>rfl
 |a::u,b::v=>by
  have ih:=b2i u v;simp only[ld];by_cases h:a=b
  . rw[if_pos h,if_pos h.symm];exact ih
  . rw[if_neg h,if_neg fun e=>h e.symm];rfl
theorem a8X(s:By):∀u:By,ld (u++s) u=ld s []∧ld u (u++s)=ld [] s
 | []=>⟨rfl,rfl⟩
 |a::u=>by have ih:=a8X s u;simp only[a7I,ld,if_true];exact ih
theorem b7u:∀u v:By,(ld u v).x.length≤u.length+v.length
 | [],[]=>by simp[ld]
 |a::u,[]=>by simp[ld]
 | [],b::v=>by simp[ld]
 |a::u,b::v=>by
  have ih:=b7u u v;simp only[ld,Z3];split
  . omega
  . simp
theorem b3i(u v:By):(ld u v).s≤3:=by
 induction u generalizing v with
 |nil=>cases v<;>simp[ld]
 |cons a u ih=>
  cases v with
  |nil=>simp[ld]
  |cons b v=>
   simp only[ld];split
   . exact ih v
   . exact m0 _
theorem b8Q{u1 v1 u2 v2 p q:By}(h1:u1++p=v1++q)(h2:u2++p=v2++q):ld u1 v1=ld u2 v2:=by
 rcases List.append_eq_append_iff.1 h1 with⟨a1,rfl,e1⟩|⟨a1,rfl,e1⟩<;>rcases List.append_eq_append_iff.1 h2 with⟨a2,rfl,e2⟩|⟨a2,rfl,e2⟩
 . rw[e1]at e2;have:=List.append_cancel_right e2;subst this;rw[(a8X a1 u1).2,(a8X a1 u2).2]
 . have h:=congrArg List.length e1;have h':=congrArg List.length e2;simp only[a0u]at h h';obtain rfl:a1=[]:=a0Q.1 i9;obtain rfl:a2=[]:=a0Q.1 i9;rw[a0E,a0E,b0n,b0n]
 . have h:=congrArg List.length e1;have h':=congrArg List.length e2;simp only[a0u]at h h';obtain rfl:a1=[]:=a0Q.1 i9;obtain rfl:a2=[]:=a0Q.1 i9;rw[a0E,a0E,b0n,b0n]
 . rw[e1]at e2;have:=List.append_cancel_right e2;subst this;rw[(a8X a1 v1).1,(a8X a1 v2).1]
structure Hf where
 (x:Nat)
 (r:By)
 deriving DecidableEq
def cb(l:List Nat):By:=l.map UInt8.ofNat
section
variable(t:j9)
def Stp(h:Hf)(c:UInt8)(p:By)(h':Hf):Prop:=(h.r=c::h'.r∧p=[]∧h'.x=h.x)∨(h.r=[]∧∃a∈E8 t h.x,cb (cls t a.1)=c::h'.r∧p=prt t a.1∧h'.x=a.2)
def HP:Hf→By→By→Hf→Prop
 |h,[],p,h'=>p=[]∧h'=h
 |h,c::w,p,h'=>∃p1 h1 p2,Stp t h c p1 h1∧HP h1 w p2 h'∧p=p1++p2
def HE(h:Hf):Prop:=h.r=[]∧B6 t ((j4 t).getD h.x B9)=true
variable{t}
theorem HP.snoc{c:UInt8}{p1:By}{h1 h2:Hf}(hs:Stp t h1 c p1 h2):∀{w:By} {h:Hf} {p:By},HP t h w p h1→HP t h (w++[c]) (p++p1) h2
 | [],h,p,hp=>by
  obtain⟨rfl,rfl⟩:=hp;exact⟨p1,h2,[],hs,⟨rfl,rfl⟩,k7⟩
 |d::w,h,p,hp=>by obtain⟨q1,k1,q2,a1,a2,rfl⟩:=hp;exact⟨q1,k1,q2++p1,a1,HP.snoc hs a2,k7⟩
theorem HP.append{w2 p2:By}{h1 h2:Hf}(hs:HP t h1 w2 p2 h2):∀{w:By} {h:Hf} {p:By},HP t h w p h1→HP t h (w++w2) (p++p2) h2
 | [],h,p,hp=>by
  obtain⟨rfl,rfl⟩:=hp;exact hs
 |d::w,h,p,hp=>by obtain⟨q1,k1,q2,a1,a2,rfl⟩:=hp;exact⟨q1,k1,q2++p2,a1,HP.append hs a2,k7⟩
theorem HP.rest(x:Nat):∀r:By,HP t ⟨x,r⟩ r [] ⟨x,[]⟩
 | []=>⟨rfl,rfl⟩
 |c::r=>⟨[],⟨x,r⟩,[],.inl ⟨rfl,rfl,rfl⟩,HP.rest x r,rfl⟩
theorem HP.b9P(ht:s5 t):∀(q:List Nat) (x:Nat) (st':State),x<(j4 t).length→D8 t ((j4 t).getD x B9) q=some st'→B6 t st'=true→∃x',HP t ⟨x,[]⟩ (cb (A9 t q)) (F5 t q) ⟨x',[]⟩∧HE t ⟨x',[]⟩
 | [],x,st',hx,h1,h2=>by
  cases h1;exact⟨x,⟨rfl,rfl⟩,rfl,h2⟩
 |k::q,x,st',hx,h1,h2=>by
  obtain⟨s1,e1,e2⟩:=V1.1 (show(T.step t _ k).bind (fun s'=>D8 t s' q)=some st' from h1);have hs1:=W7 ht (a1A hx) e1;have hm:=a9j hx e1 ⟨q,st',e2,h2⟩;obtain⟨x',a1,a2⟩:=HP.b9P ht q (P7 t s1) st' (a3l hs1) (by rw[a1R hs1];exact e2) h2;refine⟨x',?_,a2⟩;have hc:cb (A9 t (k::q))=cb (cls t k)++cb (A9 t q):=by show cb (cls t k++A9 t q)=_;unfold cb;rw[S8]
  have hl:=a8q ht e1;have hlen:(cb (cls t k)).length=s7 t k:=by unfold cb;rw[I8];rfl
  cases hcl:cb (cls t k)with
  |nil=>rw[hcl]at hlen;simp at hlen;omega
  |cons c r=>
   rw[hc,hcl,a3p];refine⟨prt t k,⟨P7 t s1,r⟩,F5 t q,.inr ⟨rfl,_,hm,hcl,rfl,rfl⟩,?_,rfl⟩;have:=HP.append a1 (HP.rest (t:=t) (P7 t s1) r);rwa[a4E]at this
theorem HP.path(ht:s5 t):∀(w:By) (h:Hf) (p:By) (h':Hf),h.x<(j4 t).length→HP t h w p h'→HE t h'→∃q st',D8 t ((j4 t).getD h.x B9) q=some st'∧B6 t st'=true∧w=h.r++cb (A9 t q)∧F5 t q=p
 | [],h,p,h',hx,h1,h2=>by
  obtain⟨rfl,rfl⟩:=h1;exact⟨[],_,rfl,h2.2,by rw[h2.1];rfl,rfl⟩
 |c::w,h,p,h',hx,h1,h2=>by
  obtain⟨p1,k1,p2,a1,a2,rfl⟩:=h1;rcases a1 with⟨b1,rfl,b3⟩|⟨b1,a,ha,b2,rfl,b4⟩
  . obtain⟨q,st',q1,q2,q3,q4⟩:=HP.path ht w k1 p2 h' i9 a2 h2
    grind
  . obtain⟨s',k2,k3,k4,k5⟩:=a5C hx ha;have hs':=W7 ht (a1A hx) k2;obtain⟨q,st',q1,q2,q3,q4⟩:=HP.path ht w k1 p2 h' (by rw[b4,k4];exact a3l hs') a2 h2;rw[b4,k4,a1R hs']at q1;refine⟨a.1::q,st',?_,q2,?_,?_⟩
    . show(T.step t _ a.1).bind _=_;rw[k2];exact q1
    . rw[b1,q3];show _=cb (cls t a.1++A9 t q);unfold cb at b2⊢
      grind
    . rw[a3p,q4];rfl
theorem c5r{l:List Nat}(h:∀c∈l,c<256):(cb l).map UInt8.toNat=l:=by
 unfold cb;rw[a1f]
 conv=>rhs;rw[←List.map_id l]
 exact L9 fun c hc=>by simpa using ofNat_toNat (h c hc)
structure Nd where
 (a b:Nat)
 (l:Ld)
 deriving DecidableEq
def Nd.ord(n:Nd):Nd:=if n.a<n.b∨n.a=n.b∧n.l.s≠2 then n else⟨n.b,n.a,n.l.sw⟩
def C7{κ α:Type} [DecidableEq κ](F:List (κ×List α))(k:κ):List α:=match(F.map (·.1)).idxOf? k with
 |some i=>match F[i]? with
  |some e=>e.2
  |none=>[]
 |none=>[]
def X1{κ α:Type} [DecidableEq κ](F:List (κ×List α))(k:κ)(x:α):List (κ×List α):=match(F.map (·.1)).idxOf? k with
 |some i=>F.set i (k,C7 F k++[x])
 |none=>F++[(k,[x])]
section
variable{κ α:Type} [DecidableEq κ]
theorem a4t(e:κ×List α)(F:List (κ×List α))(k:κ):C7 (e::F) k=if e.1=k then e.2 else C7 F k:=by
 unfold C7
 grind
theorem a9H(e:κ×List α)(F:List (κ×List α))(k:κ)(x:α):X1 (e::F) k x=if e.1=k then(k,e.2++[x])::F else e::X1 F k x:=by
 unfold X1;rw[a0s,List.idxOf?_cons,a4t]
 grind
theorem a7z(k:κ)(x:α)(k':κ):∀F:List (κ×List α),C7 (X1 F k x) k'=if k=k' then C7 F k++[x]else C7 F k'
 | []=>by
  show C7 [(k,[x])] k'=_;rw[a4t];rfl
 |e::F=>by
  have ih:=a7z k x k' F;rw[a9H,a4t,a4t];by_cases h:e.1=k
  . rw[if_pos h,a4t,if_pos h,h]
    grind
  . rw[if_neg h,a4t,ih,if_neg h]
    grind
theorem b1n{k:κ}{x:α}{e:κ×List α}:∀{F:List (κ×List α)},e∈X1 F k x→e∈F∨e=(k,C7 F k++[x])
 | [],h=>by
  have:e∈[(k,[x])]:=h;rw[F7]at this;exact .inr this
 |f::F,h=>by
  rw[a9H]at h;rw[a4t];split at h
  . grind
  . rename_i hk;rcases Z5.1 h with h|h
    . rw[h];exact .inl a2W
    . rw[if_neg hk];exact(b1n h).imp (a5g _) id
theorem c0I(k:κ)(x:α):∀F:List (κ×List α),(X1 F k x).map (·.1)=if k∈F.map (·.1)then F.map (·.1)else F.map (·.1)++[k]
 | []=>rfl
 |e::F=>by
  have ih:=c0I k x F;rw[a9H]
  grind
def K9(F:List (κ×List α)):Nat:=(F.map fun e=>e.2.length).sum
theorem b2l(k:κ)(x:α):∀F:List (κ×List α),K9 (X1 F k x)=K9 F+1
 | []=>rfl
 |e::F=>by
  have ih:=b2l k x F;rw[a9H];unfold K9 at ih⊢
  grind
theorem a8M{k:κ}:∀{F:List (κ×List α)},C7 F k=[]∨(k,C7 F k)∈F
 | []=>.inl rfl
 |e::F=>by
  rw[a4t];by_cases h:e.1=k
  . grind
  . rw[if_neg h];exact(a8M (F:=F)).imp id (a5g _)
end
abbrev FT:=List ((Nat×Nat)×List Ld)
abbrev Nd.k(n:Nd):Nat×Nat:=(n.a,n.b)
def Rec(F:FT)(n:Nd):Prop:=n.l∈C7 F n.k
def Hdl(F:FT)(n:Nd):Prop:=n.l∈C7 F n.k∨(∃k∈C7 F n.k,k.s=3)∨∃l1 l2,l1∈C7 F n.k∧l2∈C7 F n.k∧l1≠l2
variable(t)
def NS(Hs:List Hf)(w:By)(n:Nd):Prop:=∃u v ha hb,Hs[n.a]?=some ha∧Hs[n.b]?=some hb∧HP t ⟨0,[]⟩ w u ha∧HP t ⟨0,[]⟩ w v hb∧n.l=ld u v
def Don(Hs:List Hf)(F:FT)(n:Nd):Prop:=∀c p q ha hb ha' hb',Hs[n.a]?=some ha→Hs[n.b]?=some hb→Stp t ha c p ha'→Stp t hb c q hb'→∃i j,Hs[i]?=some ha'∧Hs[j]?=some hb'∧Hdl F (Nd.ord ⟨i,j,n.l.aft p q⟩)
def Cls(Hs:List Hf)(n:Nd):Prop:=n.l.s≠0∧∃ha hb,Hs[n.a]?=some ha∧Hs[n.b]?=some hb∧HE t ha∧HE t hb
variable{t}
theorem NS.ord{Hs:List Hf}{w:By}{n:Nd}(h:NS t Hs w n):NS t Hs w n.ord:=by
 unfold Nd.ord;split
 . exact h
 . obtain⟨u,v,ha,hb,a1,a2,a3,a4,a5⟩:=h;exact⟨v,u,hb,ha,a2,a1,a4,a3,by rw[a5];exact(b2i u v).symm⟩
theorem NS.mono{Hs Hs':List Hf}{w:By}{n:Nd}(hp:Hs<+:Hs')(h:NS t Hs w n):NS t Hs' w n:=by
 obtain⟨u,v,ha,hb,a1,a2,a3,a4,a5⟩:=h;obtain⟨X,rfl⟩:=hp;have hg:∀{i:Nat} {y:Hf},Hs[i]?=some y→(Hs++X)[i]?=some y:=fun{i y} h=>by rw[a0R (B4.1 h).1];exact h
 exact⟨u,v,ha,hb,hg a1,hg a2,a3,a4,a5⟩
theorem b2p{Hs:List Hf}{F:FT}(hr:∀n,Rec F n→Don t Hs F n∧¬Cls t Hs n∧∃w,NS t Hs w n):∀(w:By) (n:Nd),Rec F n→∀ha hb p q ha' hb',Hs[n.a]?=some ha→Hs[n.b]?=some hb→HP t ha w p ha'→HP t hb w q hb'→HE t ha'→HE t hb'→(n.l.aft p q).s=0
 | [],n,hn,ha,hb,p,q,ha',hb',g1,g2,h1,h2,h3,h4=>by
  obtain⟨_,nc,w,u,v,xa,xb,y1,y2,y3,y4,y5⟩:=hr n hn;obtain⟨rfl,rfl⟩:=h1;obtain⟨rfl,rfl⟩:=h2;rw[y5,a3A,a0E,a0E,←y5];refine Classical.byContradiction fun h=>nc ⟨h,_,_,g1,g2,h3,h4⟩
 |c::w,n,hn,ha,hb,p,q,ha',hb',g1,g2,h1,h2,h3,h4=>by
  obtain⟨dn,_,w0,u,v,xa,xb,y1,y2,y3,y4,y5⟩:=hr n hn;obtain⟨p1,k1,p2,a1,a2,rfl⟩:=h1;obtain⟨q1,k2,q2,b1,b2,rfl⟩:=h2;obtain⟨i,j,i1,j1,l2⟩:=dn c p1 q1 ha hb k1 k2 g1 g2 a1 b1;unfold Hdl at l2;rw[y5,a3A,a5G];rw[y5,a3A]at l2;have goal:(u++p1)++p2=(v++q1)++q2:=by
   unfold Nd.ord at l2;split at l2
   . rename_i ho;have ih:∀k,k∈C7 F (i,j)→(k.aft p2 q2).s=0∧∃u' v',k=ld u' v':=fun k hk=>by
      have hk2:Rec F ⟨i,j,k⟩:=hk;refine⟨b2p hr w ⟨i,j,k⟩ hk2 k1 k2 p2 q2 ha' hb' i1 j1 a2 b2 h3 h4,?_⟩;obtain⟨_,_,w',u',v',_,_,_,_,_,_,e⟩:=hr _ hk2;exact⟨u',v',e⟩
     rcases l2 with l2|⟨k,l2,l3⟩|⟨k,k',l2,l3,l4⟩
     . have:=(ih _ l2).1;rwa[a3A,a5G]at this
     . have:=(ih k l2).1;unfold Ld.aft at this
       grind
     . obtain⟨m1,u1,v1,rfl⟩:=ih _ l2;obtain⟨m2,u2,v2,rfl⟩:=ih _ l3;rw[a3A,a5G]at m1 m2;exact absurd (b8Q m1 m2) l4
   . rename_i ho;have ih:∀k,k∈C7 F (j,i)→(k.aft q2 p2).s=0∧∃u' v',k=ld u' v':=fun k hk=>by
      have hk2:Rec F ⟨j,i,k⟩:=hk;refine⟨b2p hr w ⟨j,i,k⟩ hk2 k2 k1 q2 p2 hb' ha' j1 i1 b2 a2 h4 h3,?_⟩;obtain⟨_,_,w',u',v',_,_,_,_,_,_,e⟩:=hr _ hk2;exact⟨u',v',e⟩
     rcases l2 with l2|⟨k,l2,l3⟩|⟨k,k',l2,l3,l4⟩
     . have:=(ih _ l2).1;simp only[←b2i]at this;rw[a3A,a5G]at this;exact this.symm
     . have:=(ih k l2).1;unfold Ld.aft at this
       grind
     . obtain⟨m1,u1,v1,rfl⟩:=ih _ l2;obtain⟨m2,u2,v2,rfl⟩:=ih _ l3;rw[a3A,a5G]at m1 m2;exact absurd (b8Q m1 m2) l4
  grind
def Two(t:j9):Prop:=∃l x y,M7 t l x∧M7 t l y∧x≠y
theorem M7.HP(ht:s5 t){l:List Nat}{x:By}(h:M7 t l x):∃h',T.HP t ⟨0,[]⟩ (cb l) x h'∧HE t h':=by
 obtain⟨q,st',q1,q2,rfl,rfl⟩:=h;have e:(j4 t).getD 0 B9=start:=by rw[u9,a1T ht];rfl
 obtain⟨x',a1,a2⟩:=HP.b9P ht q 0 st' (a1X ht) (by rw[e];exact q1) q2;exact⟨_,a1,a2⟩
theorem b9o(ht:s5 t):∀(q:List Nat) (s s':State),D8 t s q=some s'→∀c∈A9 t q,c<63
 | [],_,_,_=>by simp[A9]
 |k::q,s,s',h=>by
  obtain⟨s1,e1,e2⟩:=V1.1 (show(T.step t s k).bind (fun s'=>D8 t s' q)=some s' from h);intro c hc;have:c∈cls t k++A9 t q:=hc;rcases G7.1 this with hc|hc
  . have hk:=a2o e1;unfold cls at hc;rw[u9,l9 hk]at hc;exact b3R ht (B7 hk) hc
  . exact b9o ht q s1 s' e2 c hc
theorem HP.lng(ht:s5 t){w x:By}{h':Hf}(h:T.HP t ⟨0,[]⟩ w x h')(he:HE t h'):M7 t (w.map UInt8.toNat) x:=by
 have e:(j4 t).getD 0 B9=start:=by rw[u9,a1T ht];rfl
 obtain⟨q,st',q1,q2,q3,q4⟩:=HP.path ht w ⟨0,[]⟩ x h' (a1X ht) h he;rw[e]at q1;refine⟨q,st',q1,q2,?_,q4⟩;rw[q3,a4E,c5r fun c hc=>by have:=b9o ht q _ _ q1 c hc;omega]
theorem c2u(ht:s5 t){Hs:List Hf}{F:FT}(hr:∀n,Rec F n→Don t Hs F n∧¬Cls t Hs n∧∃w,NS t Hs w n)(h0:Hs[0]?=some ⟨0,[]⟩)(hn:Rec F ⟨0,0,⟨0,[]⟩⟩):¬Two t:=by rintro⟨l,x,y,h1,h2,h3⟩;obtain⟨a,a1,a2⟩:=h1.HP ht;obtain⟨b,b1,b2⟩:=h2.HP ht;have:=b2p hr (cb l) _ hn _ _ x y a b h0 h0 a1 b1 a2 b2;rw[show(⟨0,0,⟨0,[]⟩⟩:Nd).l=ld [] []from rfl,a3A,a5G]at this;exact h3 this
end
structure Sm(t:j9):Prop where
 m2:t.modes≤2
 r10:t.rules.length≤10
 c3:∀r∈t.rules,r.cells.length≤3
def b0N(t:j9):List By:=[]::t.rules.flatMap fun r=>[(cb r.cells).drop 1,(cb r.cells).drop 2]
def HfB(t:j9)(h:Hf):Prop:=h.x<(j4 t).length∧h.r∈b0N t
section
variable{t:j9}
theorem HfB.root(ht:s5 t):HfB t ⟨0,[]⟩:=⟨a1X ht,a2W⟩
theorem b7N(l:List Nat):(cb l).length=l.length:=by unfold cb;simp
theorem Stp.bd(ht:s5 t)(hs:Sm t){h h':Hf}{c:UInt8}{p:By}(hb:HfB t h)(h1:Stp t h c p h'):HfB t h':=by
 rcases h1 with⟨h2,_,h4⟩|⟨h2,a,ha,h3,_,h4⟩
 . refine⟨by rw[h4];exact hb.1,?_⟩;have hm:=hb.2;rw[h2]at hm;rcases Z5.1 hm with e|e
   . cases e
   . obtain⟨r,hr,e⟩:=a2V.1 e;have hc:=hs.c3 r hr;rcases Z5.1 e with e|e
     . refine a5g _ (a2V.2 ⟨r,hr,?_⟩);have:h'.r=(cb r.cells).drop 2:=(by rw[show 2=1+1 from rfl,←a1U,←e];rfl);rw[this];simp
     . have e:=F7.1 e;have:h'.r=[]:=by
        have h5:(c::h'.r).length=((cb r.cells).drop 2).length:=(by rw[e]);rw[a2X,b7N,Z3]at h5;exact a0Q.1 i9
       rw[this];exact a2W
 . obtain⟨l1,l2,_,_⟩:=a3m ht hb.1 ha;refine⟨by rw[h4];exact l2,a5g _ (a2V.2 ⟨t.rules[a.1],B7 l1,?_⟩)⟩;have e:cls t a.1=t.rules[a.1].cells:=by unfold cls;rw[u9,l9 l1];rfl
   grind
def b9S(t:j9):List Hf:=(List.range (j4 t).length).flatMap fun x=>(b0N t).map fun r=>⟨x,r⟩
theorem c6p(t:j9):(b0N t).length=1+2*t.rules.length:=by
 unfold b0N;rw[Z3];have:∀l:List N9,(l.flatMap fun r=>[(cb r.cells).drop 1,(cb r.cells).drop 2]).length=2*l.length:=by
  intro l
  induction l with
  |nil=>rfl
  |cons r l ih=>rw[a2C,a0u,ih];simp;omega
 rw[this];omega
theorem a4k(ht:s5 t)(hs:Sm t){Hs:List Hf}(hn:Hs.Nodup)(hb:∀h∈Hs,HfB t h):Hs.length≤16128:=by
 have h1:=a7p Hs (b9S t) hn fun h hh=>by obtain⟨h2,h3⟩:=hb h hh;exact a2V.2 ⟨h.x,a1v.2 h2,E9.2 ⟨h.r,h3,rfl⟩⟩
 have h2:(b9S t).length=(j4 t).length*(1+2*t.rules.length):=a8W _ _ _ fun _=>by rw[I8,c6p]
 have h3:=a7l ht hs.m2;have h4:=hs.r10;have h5:(j4 t).length*(1+2*t.rules.length)≤768*21:=a3w h3 i9;omega
structure J1 where
 (c:UInt8)
 (p:By)
 (to:Nat)
 deriving DecidableEq
abbrev I4:=List Hf×List (Option (List J1))
def S3(s:I4)(h:Hf):Nat×I4:=match s.1.idxOf? h with
 |some n=>(n,s)
 |none=>(s.1.length,(s.1++[h],s.2++[none]))
def arE(t:j9)(s:I4)(a:Nat×Nat):J1:=⟨(cb (cls t a.1)).headD 0,prt t a.1,(S3 s ⟨a.2,(cb (cls t a.1)).tail⟩).1⟩
def V2(t:j9)(st:I4×List J1)(a:Nat×Nat):I4×List J1:=((S3 st.1 ⟨a.2,(cb (cls t a.1)).tail⟩).2,if arE t st.1 a∈st.2 then st.2 else st.2++[arE t st.1 a])
noncomputable def a1w(t:j9)(s:I4)(h:Hf):I4×List J1:=match h.r with
 |c::r=>((S3 s ⟨h.x,r⟩).2,[⟨c,[],(S3 s ⟨h.x,r⟩).1⟩])
 | []=>(E8 t h.x).foldl (V2 t) (s,[])
noncomputable def a9p(t:j9)(s:I4)(n:Nat):I4×List J1:=(((a1w t s (s.1.getD n ⟨0,[]⟩)).1.1,(a1w t s (s.1.getD n ⟨0,[]⟩)).1.2.set n (some (a1w t s (s.1.getD n ⟨0,[]⟩)).2)),(a1w t s (s.1.getD n ⟨0,[]⟩)).2)
noncomputable def L0(t:j9)(s:I4)(n:Nat):I4×List J1:=match s.2.getD n none with
 |some L=>(s,L)
 |none=>a9p t s n
def StI(t:j9)(Hs:List Hf)(h:Hf)(L:List J1):Prop:=(∀s∈L,∃h',Hs[s.to]?=some h'∧Stp t h s.c s.p h')∧∀c p h',Stp t h c p h'→∃s∈L,s.c=c∧s.p=p∧Hs[s.to]?=some h'
structure HSI(t:j9)(s:I4):Prop where
 nd:s.1.Nodup
 hb:∀h∈s.1,HfB t h
 sl:s.2.length=s.1.length
 st:∀(n:Nat) L h,s.2[n]?=some (some L)→s.1[n]?=some h→StI t s.1 h L∧L.length≤64
theorem Z6{α:Type}{l m:List α}(h:l<+:m){i:Nat}{x:α}(hi:l[i]?=some x):m[i]?=some x:=by
 obtain⟨r,rfl⟩:=h
 grind
theorem StI.mono{Hs Hs':List Hf}{h:Hf}{L:List J1}(hp:Hs<+:Hs')(hi:StI t Hs h L):StI t Hs' h L:=
 ⟨fun s hs=>by obtain⟨h',a,b⟩:=hi.1 s hs;exact⟨h',Z6 hp a,b⟩,fun c p h' hs=>by obtain⟨s,a,b,d,e⟩:=hi.2 c p h' hs;exact⟨s,a,b,d,Z6 hp e⟩⟩
theorem b5t{s:I4}(hi:HSI t s){h:Hf}(hb:HfB t h):HSI t (S3 s h).2∧s.1<+:(S3 s h).2.1∧s.2<+:(S3 s h).2.2∧(S3 s h).2.1[(S3 s h).1]?=some h:=by
 unfold S3;cases hx:s.1.idxOf? h with
 |some n=>
  rw[List.idxOf?,a1V]at hx;obtain⟨h1,h2,_⟩:=hx;refine⟨hi,a5h _,a5h _,?_⟩;rw[l9 h1];simpa using h2
 |none=>
  have hm:=a2j.1 hx;refine⟨⟨?_,?_,?_,?_⟩,List.prefix_append _ _,List.prefix_append _ _,k7⟩
  . rw[a3Z];exact⟨hi.nd,k7,fun a ha b hb e=>by rw[F7]at hb;subst hb;subst e;exact hm ha⟩
  . intro x hx;rcases G7.1 hx with hx|hx
    . exact hi.hb x hx
    . grind
  . simp[hi.sl]
  . intro n L x h1 h2;have hn:n<s.2.length:=(by grind);rw[a0R hn]at h1;rw[a0R (by rw[←hi.sl];exact hn)]at h2;obtain⟨a,b⟩:=hi.st n L x h1 h2;exact⟨a.mono (List.prefix_append _ _),b⟩
theorem c8c(ht:s5 t){x:Nat}(hx:x<(j4 t).length){a:Nat×Nat}(ha:a∈E8 t x):cb (cls t a.1)=(cb (cls t a.1)).headD 0::(cb (cls t a.1)).tail:=by
 obtain⟨_,_,h,_⟩:=a3m ht hx ha;have:(cb (cls t a.1)).length=s7 t a.1:=by rw[b7N];rfl
 cases hc:cb (cls t a.1)with
 |nil=>rw[hc]at this;simp at this;omega
 |cons c r=>rfl
structure ArI(t:j9)(s:I4)(h:Hf)(A:List (Nat×Nat))(j:Nat)(st:I4×List J1):Prop where
 hi:HSI t st.1
 pre:s.1<+:st.1.1
 pr2:s.2<+:st.1.2
 snd:∀e∈st.2,∃h',st.1.1[e.to]?=some h'∧Stp t h e.c e.p h'
 all:∀a∈A.take j,∃e∈st.2,e.c=(cb (cls t a.1)).headD 0∧e.p=prt t a.1∧st.1.1[e.to]?=some ⟨a.2,(cb (cls t a.1)).tail⟩
 len:st.2.length≤j
theorem ArI.next(ht:s5 t)(hs:Sm t){s:I4}{h:Hf}(hb:HfB t h)(hr:h.r=[]){j:Nat}{st:I4×List J1}(hi:ArI t s h (E8 t h.x) j st)(hj:j<(E8 t h.x).length):ArI t s h (E8 t h.x) (j+1) (V2 t st (E8 t h.x)[j]):=by
 obtain⟨a,ha⟩:=p8 ((E8 t h.x)[j]);have ham:a∈E8 t h.x:=by grind
 have hcs:=c8c ht hb.1 ham;have hst:Stp t h ((cb (cls t a.1)).headD 0) (prt t a.1) ⟨a.2,(cb (cls t a.1)).tail⟩:=.inr ⟨hr,a,ham,hcs,rfl,rfl⟩;obtain⟨g1,g2,g3,g4⟩:=b5t hi.hi (hst.bd ht hs hb);rw[←ha];have hmem:arE t st.1 a∈(V2 t st a).2:=by
  unfold V2;simp only;split
  . assumption
  . simp
 refine⟨g1,hi.pre.trans g2,hi.pr2.trans g3,fun e he=>?_,fun b hbm=>?_,?_⟩
 . have he':e∈st.2∨e=arE t st.1 a:=by
    unfold V2 at he;simp only at he;split at he
    . exact .inl he
    . grind
   rcases he' with he'|rfl
   . obtain⟨h',a1,a2⟩:=hi.snd e he';exact⟨h',Z6 g2 a1,a2⟩
   . exact⟨_,g4,hst⟩
 . rw[J2,l9 hj]at hbm;rcases G7.1 hbm with hbm|hbm
   . obtain⟨e,e1,e2,e3,e4⟩:=hi.all b hbm;refine⟨e,?_,e2,e3,Z6 g2 e4⟩;unfold V2
     grind
   . simp only[a5P,F7]at hbm;rw[hbm,←ha];exact⟨_,hmem,rfl,rfl,g4⟩
 . have:=hi.len;unfold V2
   grind
theorem c0u(ht:s5 t)(hs:Sm t){s:I4}(hi:HSI t s){h:Hf}(hb:HfB t h)(hr:h.r=[]):∀j,j≤(E8 t h.x).length→ArI t s h (E8 t h.x) j (((E8 t h.x).take j).foldl (V2 t) (s,[]))
 |0,_=>⟨hi,a5h _,a5h _,fun e he=>(by cases he),fun a ha=>(by simp at ha),m0 _⟩
 |j+1,hj=>by rw[a5F _ _ (show j<(E8 t h.x).length by omega)];exact(c0u ht hs hi hb hr j i9).next ht hs hb hr i9
theorem c5i(ht:s5 t)(hs:Sm t){s:I4}(hi:HSI t s){h:Hf}(hb:HfB t h):HSI t (a1w t s h).1∧s.1<+:(a1w t s h).1.1∧s.2<+:(a1w t s h).1.2∧StI t (a1w t s h).1.1 h (a1w t s h).2∧(a1w t s h).2.length≤64:=by
 unfold a1w;cases hr:h.r with
 |cons c r=>
  have hst:Stp t h c [] ⟨h.x,r⟩:=.inl ⟨hr,rfl,rfl⟩;obtain⟨g1,g2,g3,g4⟩:=b5t hi (hst.bd ht hs hb);refine⟨g1,g2,g3,⟨fun e he=>?_,fun c' p' h' h1=>?_⟩,k7⟩
  . grind
  . rcases h1 with⟨h2,h3,h4⟩|⟨h2,_⟩
    . rw[hr]at h2;cases h2;refine⟨_,F7.2 rfl,rfl,h3.symm,?_⟩;rw[g4];cases h';simp only at h4;rw[h4]
    . rw[hr]at h2;cases h2
 |nil=>
  have h1:=c0u ht hs hi hb hr _ (m0 _);rw[J7]at h1;refine⟨h1.hi,h1.pre,h1.pr2,⟨h1.snd,fun c' p' h' h2=>?_⟩,S7 h1.len (a5n ht _)⟩;rcases h2 with⟨h3,_⟩|⟨_,a,ha,h3,h4,h5⟩
  . rw[hr]at h3;cases h3
  . obtain⟨e,e1,e2,e3,e4⟩:=h1.all a (by grind);refine⟨e,e1,by rw[e2,h3];rfl,by rw[e3,h4],?_⟩;rw[e4,h3];cases h';simp only at h5;rw[h5];rfl
theorem getD_some{α:Type}{l:List α}{n:Nat}{d x:α}(h:l[n]?=some x):l.getD n d=x:=by grind
theorem a7e(ht:s5 t)(hs:Sm t){s:I4}(hi:HSI t s){n:Nat}{h:Hf}(hn:s.1[n]?=some h):HSI t (L0 t s n).1∧s.1<+:(L0 t s n).1.1∧StI t (L0 t s n).1.1 h (L0 t s n).2∧(L0 t s n).2.length≤64∧L0 t (L0 t s n).1 n=L0 t s n:=by
 have hnl:n<s.2.length:=by rw[hi.sl];exact(B4.1 hn).1
 cases hc:s.2.getD n none with
 |some L=>
  have e:L0 t s n=(s,L):=by unfold L0;rw[hc]
  rw[e];have hg:s.2[n]?=some (some L):=by grind
  obtain⟨a,b⟩:=hi.st n L h hg hn;exact⟨hi,a5h _,a,b,e⟩
 |none=>
  have e:L0 t s n=a9p t s n:=by unfold L0;rw[hc]
  rw[e];unfold a9p;rw[getD_some hn];obtain⟨g1,g2,g3,g4,g5⟩:=c5i ht hs hi (hi.hb h (C8 hn));have hln:n<(a1w t s h).1.2.length:=a9z hnl g3.length_le;refine⟨⟨g1.nd,g1.hb,by rw[a2T];exact g1.sl,fun m L x h1 h2=>?_⟩,g2,g4,g5,?_⟩
  . by_cases hm:m=n
    . subst hm;rw[D7 hln]at h1;cases h1;rw[Z6 g2 hn]at h2;cases h2;exact⟨g4,g5⟩
    . rw[D9 (Ne.symm hm)]at h1;exact g1.st m L x h1 h2
  . show L0 t ((a1w t s h).1.1,_) n=_;unfold L0
    grind
abbrev BM:=List (UInt8×List Nd)
def a0r(l:Ld)(x:J1)(B:BM)(y:J1):BM:=if x.c=y.c then X1 B x.c (Nd.ord ⟨x.to,y.to,l.aft x.p y.p⟩)else B
def a1J(l:Ld)(Lb:List J1)(B:BM)(x:J1):BM:=Lb.foldl (a0r l x) B
theorem c9s{l:Ld}{x y:J1}{B:BM}{c:UInt8}{m:Nd}:m∈C7 (a0r l x B y) c↔m∈C7 B c∨(x.c=c∧y.c=c∧m=Nd.ord ⟨x.to,y.to,l.aft x.p y.p⟩):=by
 unfold a0r;split
 . rename_i h;rw[a7z];split
   . grind
   . grind
 . grind
theorem b6T{l:Ld}{x:J1}{c:UInt8}{m:Nd}:∀{Lb:List J1} {B:BM},m∈C7 (a1J l Lb B x) c↔m∈C7 B c∨∃y∈Lb,x.c=c∧y.c=c∧m=Nd.ord ⟨x.to,y.to,l.aft x.p y.p⟩
 | [],B=>by simp[a1J]
 |y::Lb,B=>by
  show m∈C7 (a1J l Lb (a0r l x B y) x) c↔_;rw[b6T (Lb:=Lb),c9s]
  grind
theorem b0L{l:Ld}{Lb:List J1}{c:UInt8}{m:Nd}:∀{La:List J1} {B:BM},m∈C7 (La.foldl (a1J l Lb) B) c↔m∈C7 B c∨∃x∈La,∃y∈Lb,x.c=c∧y.c=c∧m=Nd.ord ⟨x.to,y.to,l.aft x.p y.p⟩
 | [],B=>by simp
 |x::La,B=>by
  rw[a2B,b0L (La:=La),b6T]
  grind
theorem c4x{l:Ld}{x y:J1}{B:BM}(c:UInt8):(C7 (a0r l x B y) c).length≤(C7 B c).length+1:=by
 unfold a0r;split
 . rw[a7z]
   grind
 . omega
theorem b5L{l:Ld}{x:J1}(c:UInt8):∀{Lb:List J1} {B:BM},(C7 (a1J l Lb B x) c).length≤(C7 B c).length+Lb.length
 | [],B=>by simp[a1J]
 |y::Lb,B=>by have h1:=b5L (l:=l) (x:=x) c (Lb:=Lb) (B:=a0r l x B y);have h2:=c4x (l:=l) (x:=x) (y:=y) (B:=B) c;show(C7 (a1J l Lb (a0r l x B y) x) c).length≤_;rw[Z3];omega
theorem b8y{l:Ld}{Lb:List J1}(c:UInt8):∀{La:List J1} {B:BM},(C7 (La.foldl (a1J l Lb) B) c).length≤(C7 B c).length+La.length*Lb.length
 | [],B=>by simp
 |x::La,B=>by have h1:=b8y (l:=l) (Lb:=Lb) c (La:=La) (B:=a1J l Lb B x);have h2:=b5L (l:=l) (x:=x) c (Lb:=Lb) (B:=B);rw[a2B,Z3,Nat.succ_mul];omega
noncomputable def a0D(t:j9)(s:I4)(B:BM)(n:Nd):I4×BM:=if(L0 t s n.a).2=[]then((L0 t s n.a).1,B)else((L0 t (L0 t s n.a).1 n.b).1,(L0 t s n.a).2.foldl (a1J n.l (L0 t (L0 t s n.a).1 n.b).2) B)
theorem c3Z(ht:s5 t)(hs:Sm t){s:I4}(hi:HSI t s){B:BM}{n:Nd}{w:By}(hn:NS t s.1 w n):
 HSI t (a0D t s B n).1∧s.1<+:(a0D t s B n).1.1∧(∀c m,m∈C7 B c→m∈C7 (a0D t s B n).2 c)∧(∀c m,m∈C7 (a0D t s B n).2 c→m∈C7 B c∨NS t (a0D t s B n).1.1 (w++[c]) m∧m.a≤m.b)∧
 (∀c,(C7 (a0D t s B n).2 c).length≤(C7 B c).length+4096)∧
 (∀c p q ha hb ha' hb',s.1[n.a]?=some ha→s.1[n.b]?=some hb→Stp t ha c p ha'→Stp t hb c q hb'→∃i j,(a0D t s B n).1.1[i]?=some ha'∧(a0D t s B n).1.1[j]?=some hb'∧Nd.ord ⟨i,j,n.l.aft p q⟩∈C7 (a0D t s B n).2 c):=by
 obtain⟨u,v,ha,hb,n1,n2,n3,n4,n5⟩:=id hn;obtain⟨a1,a2,a3,a4,a5⟩:=a7e ht hs hi n1;unfold a0D;split
 . rename_i hnil;refine⟨a1,a2,fun _ _ h=>h,fun _ _ h=>.inl h,fun _=>Nat.le_add_right _ _,fun c p q xa xb xa' xb' e1 e2 e3 e4=>?_⟩;rw[n1]at e1;cases e1;obtain⟨e,e5,_⟩:=a3.2 c p xa' e3;rw[hnil]at e5;cases e5
 . obtain⟨b1,b2,b3,b4,b5⟩:=a7e ht hs a1 (Z6 a2 n2);have a3':=a3.mono b2;refine⟨b1,a2.trans b2,fun c m h=>b0L.2 (.inl h),fun c m h=>?_,fun c=>?_,fun c p q xa xb xa' xb' e1 e2 e3 e4=>?_⟩
   . rcases b0L.1 h with h|⟨x,hx,y,hy,hxc,hyc,rfl⟩
     . exact .inl h
     . refine .inr ⟨NS.ord ?_,?_⟩
       . obtain⟨xa',x1,x2⟩:=a3'.1 x hx;obtain⟨yb',y1,y2⟩:=b3.1 y hy;rw[hxc]at x2;rw[hyc]at y2;exact⟨u++x.p,v++y.p,xa',yb',x1,y1,HP.snoc x2 n3,HP.snoc y2 n4,by rw[n5];exact a3A _ _ _ _⟩
       . unfold Nd.ord;split
         . omega
         . rename_i h;simp only at h⊢;omega
   . have h1:=b8y (l:=n.l) (Lb:=(L0 t (L0 t s n.a).1 n.b).2) c (La:=(L0 t s n.a).2) (B:=B);have h2:(L0 t s n.a).2.length*(L0 t (L0 t s n.a).1 n.b).2.length≤64*64:=a3w a4 b4;refine S7 h1 ?_;omega
   . rw[n1]at e1;cases e1;rw[n2]at e2;cases e2;obtain⟨x,x1,x2,x3,x4⟩:=a3'.2 c p xa' e3;obtain⟨y,y1,y2,y3,y4⟩:=b3.2 c q xb' e4;refine⟨x.to,y.to,x4,y4,b0L.2 (.inr ⟨x,x1,y,y1,x2,y2,?_⟩)⟩;rw[x3,y3]
def P4(ls:List Ld)(l:Ld):Bool:=ls.any (fun k=>k==l||k.s==3)||ls.length==2
def Y0(F:FT)(n:Nd):Bool×FT:=if P4 (C7 F n.k) n.l=true then(false,F)else(true,X1 F n.k n.l)
structure SrI(t:j9)(Hs:List Hf)(F:FT)(P:Nd→Prop):Prop where
 ns:∀n,Rec F n→(∃w,NS t Hs w n)∧¬Cls t Hs n
 dn:∀n,Rec F n→P n∨Don t Hs F n
 kd:(F.map (·.1)).Nodup
 ke:∀e∈F,e.1.1≤e.1.2∧e.1.2<Hs.length
 tw:∀e∈F,e.2.length≤2∧e.2.Nodup
 h0:Hs[0]?=some ⟨0,[]⟩
 rt:Rec F ⟨0,0,⟨0,[]⟩⟩
def FLe(F F':FT):Prop:=∀k l,l∈C7 F k→l∈C7 F' k
theorem FLe.hdl{F F':FT}(h:FLe F F'){n:Nd}(hn:Hdl F n):Hdl F' n:=by
 rcases hn with h1|⟨k,h1,h2⟩|⟨a,b,h1,h2,h3⟩
 . exact .inl (h _ _ h1)
 . exact .inr (.inl ⟨k,h _ _ h1,h2⟩)
 . exact .inr (.inr ⟨a,b,h _ _ h1,h _ _ h2,h3⟩)
theorem FLe.put(F:FT)(k:Nat×Nat)(l:Ld):FLe F (X1 F k l):=fun k' l' h=>by
 rw[a7z];split
 . grind
 . exact h
theorem FLe.rec(F:FT)(n:Nd):FLe F (Y0 F n).2:=by
 unfold Y0;split
 . exact fun _ _ h=>h
 . exact FLe.put F _ _
theorem Don.mono{Hs:List Hf}{F F':FT}(hf:FLe F F'){n:Nd}(h:Don t Hs F n):Don t Hs F' n:=fun c p q ha hb ha' hb' h1 h2 h3 h4=>by obtain⟨i,j,a,b,d⟩:=h c p q ha hb ha' hb' h1 h2 h3 h4;exact⟨i,j,a,b,hf.hdl d⟩
theorem Don.pre{Hs Hs':List Hf}{F:FT}(hp:Hs<+:Hs'){n:Nd}{w:By}(hn:NS t Hs w n)(h:Don t Hs F n):Don t Hs' F n:=fun c p q ha hb ha' hb' h1 h2 h3 h4=>by obtain⟨u,v,xa,xb,n1,n2,_⟩:=hn;rw[Z6 hp n1]at h1;cases h1;rw[Z6 hp n2]at h2;cases h2;obtain⟨i,j,a,b,d⟩:=h c p q _ _ ha' hb' n1 n2 h3 h4;exact⟨i,j,Z6 hp a,Z6 hp b,d⟩
theorem SrI.mono{Hs:List Hf}{F:FT}{P P':Nd→Prop}(h:SrI t Hs F P)(hp:∀n,Rec F n→P n→P' n∨Don t Hs F n):SrI t Hs F P':=
 {h with dn:=fun n hn=>(h.dn n hn).elim (hp n hn) .inr}
theorem SrI.pre{Hs Hs':List Hf}{F:FT}{P:Nd→Prop}(hp:Hs<+:Hs')(h:SrI t Hs F P):SrI t Hs' F P:=
 ⟨fun n hn=>by
  obtain⟨⟨w,h1⟩,h2⟩:=h.ns n hn;refine⟨⟨w,h1.mono hp⟩,fun hc=>h2 ⟨hc.1,?_⟩⟩;obtain⟨_,ha,hb,c1,c2,c3,c4⟩:=hc;obtain⟨u,v,xa,xb,n1,n2,_⟩:=h1;rw[Z6 hp n1]at c1;cases c1;rw[Z6 hp n2]at c2;cases c2;exact⟨_,_,n1,n2,c3,c4⟩,
  fun n hn=>by obtain⟨⟨w,h1⟩,_⟩:=h.ns n hn;exact(h.dn n hn).imp id fun d=>d.pre hp h1,
  h.kd,fun e he=>⟨(h.ke e he).1,a9z (h.ke e he).2 hp.length_le⟩,h.tw,Z6 hp h.h0,h.rt⟩
theorem c4k{Hs:List Hf}{F:FT}{P:Nd→Prop}(h:SrI t Hs F P){n:Nd}(hb:P4 (C7 F n.k) n.l=true):Hdl F n:=by
 unfold P4 at hb;rw[a0P,a9x]at hb;rcases hb with⟨k,h1,h2⟩|h1
 . simp only[a0P,beq_iff_eq]at h2;rcases h2 with h2|h2
   . subst h2;exact .inl h1
   . exact .inr (.inl ⟨k,h1,h2⟩)
 . simp only[beq_iff_eq]at h1;have h2:(C7 F n.k).Nodup:=by
    rcases a8M (k:=n.k) (F:=F)with e|e
    . rw[e];simp
    . exact(h.tw _ e).2
   match hl:C7 F n.k,h1 with
   | [a,b],_=>
    rw[hl]at h2;refine .inr (.inr ⟨a,b,by rw[hl];simp,by rw[hl];simp,?_⟩);intro e;subst e;simp at h2
theorem c2C{Hs:List Hf}{F:FT}{P:Nd→Prop}(h:SrI t Hs F P){n:Nd}{w:By}(hn:NS t Hs w n)(hle:n.a≤n.b)(hc:¬Cls t Hs n)(hb:¬P4 (C7 F n.k) n.l=true):SrI t Hs (X1 F n.k n.l) fun m=>P m∨m=n:=by
 have hR:∀m,Rec (X1 F n.k n.l) m→Rec F m∨m=n:=fun m hm=>by
  unfold Rec at hm⊢;rw[a7z]at hm;split at hm
  . rename_i e;rcases G7.1 hm with hm|hm
    . left;rw[←e];exact hm
    . right
      have e1:n.a=m.a:=congrArg Prod.fst e;have e2:n.b=m.b:=congrArg Prod.snd e;have e3:=F7.1 hm;cases m;cases n
      grind
  . exact .inl hm
 refine⟨fun m hm=>?_,fun m hm=>?_,?_,fun e he=>?_,fun e he=>?_,h.h0,FLe.put F _ _ _ _ h.rt⟩
 . rcases hR m hm with hm|rfl
   . exact h.ns m hm
   . exact⟨⟨w,hn⟩,hc⟩
 . rcases hR m hm with hm|rfl
   . exact(h.dn m hm).imp .inl fun d=>d.mono (FLe.put F _ _)
   . exact .inl (.inr rfl)
 . rw[c0I];split
   . exact h.kd
   . rename_i hk;rw[a3Z];exact⟨h.kd,k7,fun a ha b hb e=>by rw[F7]at hb;subst hb;subst e;exact hk ha⟩
 . obtain⟨u,v,xa,xb,n1,n2,_⟩:=hn;rcases b1n he with he|rfl
   . exact h.ke e he
   . grind
 . rcases b1n he with he|rfl
   . exact h.tw e he
   . unfold P4 at hb;simp only[a0P,not_or,a9x,not_exists,not_and,beq_iff_eq]at hb;obtain⟨hb1,hb2⟩:=hb;have h3:(C7 F n.k).length≤2∧(C7 F n.k).Nodup:=by
      rcases a8M (k:=n.k) (F:=F)with e|e
      . rw[e];simp
      . exact h.tw _ e
     grind
theorem b8r{F:FT}{n:Nd}:Rec (X1 F n.k n.l) n:=by unfold Rec;rw[a7z,if_pos rfl];simp
def prs:Nat→List (Nat×Nat)
 |0=>[]
 |n+1=>prs n++(List.range (n+1)).map fun a=>(a,n)
theorem b5Q:∀n,2*(prs n).length=n*(n+1)
 |0=>rfl
 |n+1=>by
  have ih:=b5Q n;unfold prs
  grind
theorem b5H{a b:Nat}:∀{n:Nat},a≤b→b<n→(a,b)∈prs n
 |0,_,h=>by omega
 |n+1,h1,h2=>by
  unfold prs;by_cases h:b=n
  . grind
  . exact a2D _ (b5H h1 i9)
theorem SrI.cnt{Hs:List Hf}{F:FT}{P:Nd→Prop}(h:SrI t Hs F P):K9 F≤Hs.length*(Hs.length+1):=by
 have h1:K9 F≤2*F.length:=by
  have:=h.tw;unfold K9;clear h
  induction F with
  |nil=>simp
  |cons e F ih=>
   have h1:=(this e a2W).1;have h2:=ih fun e he=>this e (a5g _ he);simp only[a0s,List.sum_cons,Z3];omega
 have h2:=a7p (F.map (·.1)) (prs Hs.length) h.kd fun k hk=>by obtain⟨e,he,rfl⟩:=E9.1 hk;exact b5H (h.ke e he).1 (h.ke e he).2
 rw[I8]at h2;have h3:=b5Q Hs.length;omega
theorem a6w{n m:Nat}(h:m≤n*(n+1))(hn:n≤16128):m≤260128512:=
 S7 h (S7 (a3w hn (Nat.succ_le_succ hn)) H6)
theorem SrI.fin(ht:s5 t){Hs:List Hf}{F:FT}(h:SrI t Hs F fun _=>False):¬Two t:=
 c2u ht (fun n hn=>⟨(h.dn n hn).elim False.elim id,(h.ns n hn).2,(h.ns n hn).1⟩) h.h0 h.rt
end
def a0Z:A0:=
 ⟨51,[0,1,2,3,6,8,9,15,21,29,34,40,45],2,[(4,some (true,2))],sq [.reg [I0 3 0 0,ow 4 (.alloc 1 [.int .i64 0,.str ⟨#[]⟩])],sq [.reg [oe 0 3,Z2 5 1 0],.block 0 (sq [.reg [oeq 5 1,oc 6 0],.cond (.v 6) (.reg [oe 1 3,ob 1 0,oa 1,obp 1 2,oc 1 3]) (sq [.reg [oeq 5 2,oc 7 0],.cond (.v 7) (.reg [oe 1 3,ob 1 0,oa 2,obp 1 2,oc 2 3]) (sq [.reg [oeq 5 3,oc 8 0],.cond (.v 8) (sq [.reg [ok 2 3,K7 2 4 0],ko]) kd])])])],.block 1 (.loopS [1,2,4] 2 (sq [sq [.reg [oa 1,oq (.bin .neq false (.l 0) (.c (.str ⟨#[]⟩))),oo 1,og 2 2,⟨.bin .neq false (.l 3) (.c (.str ⟨#[]⟩)),none,some (.l 2,true),[]⟩,U9 9 2 4],C4 9 1],.block 2 (sq [sq [.reg [oa 1,oee 0 0,oa 2,oee 2 0,odb 10 1 3],.cond (.v 10) (sq [.reg [oq (.build [.int .i64 0,.str ⟨#[]⟩] [(0,1,oi 3)]),K7 2 4 0],ko]) kd],.reg [oa 1,oeg 0 0 1,oa 2,oeg 0 2 1,oc 1 1,oc 2 3]])])),.block 3 (sq [.reg [oa 1,oq (.bin .neq false (.l 0) (.c (.str ⟨#[]⟩))),oc 11 1],.cond (.v 11) (sq [.reg [oa 1,oq (.build [.int .i64 0,.str ⟨#[]⟩] [(0,1,oi 1),(1,1,.l 0)]),K7 2 4 1],ko]) (sq [.reg [oa 2,oq (.bin .neq false (.l 0) (.c (.str ⟨#[]⟩))),oc 12 1],.cond (.v 12) (sq [.reg [oa 2,oq (.build [.int .i64 0,.str ⟨#[]⟩] [(0,1,oi 2),(1,1,.l 0)]),K7 2 4 1],ko]) kd])]),.reg [oq (.build [.int .i64 0,.str ⟨#[]⟩] []),K7 2 4 0],ko]⟩
def a4q:A0:=
 ⟨48,[0,1,2,24,38,39,43],2,[(2,some (true,4))],sq [.reg [I0 1 0 0,oct 2 1 0 0 0],sq [.reg [oe 0 1,ou 0 0,ob 1 1,oe 0 1,ou 1 3,ob 1 4,obv 2 5,oo 6,ov 0 1 7,⟨.fieldAddr 0 (.l 8),none,some (.l 7,false),[]⟩,om 1 9 7,ov 0 1 7,⟨.fieldAddr 1 (.l 11),none,some (.l 7,false),[]⟩,om 1 12 7,ocm 10 13 7,⟨.mv (.l 14),none,some (.l 7,false),[]⟩,oj 2 1 15,oaz 0 16 15,od 1 17 15,⟨.bin .neq false (.l 18) (oi 2),none,some (.l 15,true),[]⟩,oep 15 19 7,Z8 3 7 20],.cond (.v 3) (sq [.reg [ok 4 1,K7 4 2 0],ko]) kd],.reg [oe 0 1,ou 1 0,ob 1 1,oe 0 1,ou 0 3,ob 1 4,oe 0 1,ou 0 6,ol 1 7 2,oe 0 1,ou 1 9,ol 1 10 5],sq [.reg [oe 2 1,ou 0 0,Z2 4 1 1],.block 0 (sq [.reg [oeq 4 1,oc 5 0],.cond (.v 5) (.reg [oe 2 1,ou 0 0,oq (.store 1 (.l 1) (oi 2))]) (sq [.reg [oeq 4 2,oc 6 0],.cond (.v 6) (.reg [oe 2 1,ou 0 0,oq (.store 1 (.l 1) (oi 1))]) kd])])],.reg [ok 4 1,K7 4 2 0],ko]⟩
def X93:A0:=
 ⟨26,[0,1,4,5,6,11,12,13,14,15,24],0,[(2,none)],sq [kj 2,sq [.reg [oa 0,ox 0,oa 1,ox 2,oaw 5 1 3],.cond (.v 5) (kao 2) kd],sq [kah 6 1 7 0 8 0,.block 0 (.loopS [0,6,7,8] 0 (sq [kh 9 8 7,C4 9 0,.block 1 (sq [.reg [oa 8,N4 1 6 8,ob 1 1,oc 3 0,oc 4 2],.reg [oa 0,oa 3,ot 1 0 1,ob 1 2,oa 4,odb 10 3 4],.cond (.v 10) (kao 2) kd]),kc 8 1 8 0]))],kae 2,ko]⟩
def X94:A0:=
 ⟨46,[0,1,4,5,11,22,29],3,[(2,none)],sq [kw 2,.block 0 (sq [.reg [oa 0,ox 0,obw 1 0,oc 3 2],.cond (.v 3) (sq [.reg [oa 1,oq (.mkarr 0 1 [.str ⟨#[]⟩] [(0,.l 0)]),oc 2 1],.G6 [(0,true)] ko]) (sq [.reg [oa 1,oa 0,obz 1 1 0,ob 1 2,obv 0 3,oc 4 4],.cond (.v 4) (sq [.reg [oa 1,oa 0,obz 1 1 0,ob 1 2,oq (.mkarr 1 1 [.str ⟨#[]⟩,.str ⟨#[]⟩] [(0,.l 0),(1,.l 3)]),oc 2 4],.G6 [(1,true)] ko]) (sq [.reg [oa 1,oa 0,obz 1 1 0,ob 1 2,oby 0 3,oc 5 4],.cond (.v 5) (sq [kf 0 2 0,ko]) (sq [.reg [oa 0,ox 0,obw 1 1,oo 2,N3 1 3,N3 0 3,⟨.indexAddr 1 (.l 5) (oi 1),none,some (.l 3,false),[]⟩,om 1 6 3,odq 4 7 3,P5 3 8,oc 6 9],.cond (.v 6) (sq [.reg [oa 0,obz 1 0 0,ob 1 1,oa 1,oq (.mkarr 2 1 [.str ⟨#[]⟩,.str ⟨#[]⟩] [(0,.l 2),(1,.l 3)]),oc 2 4],.G6 [(2,true)] ko]) kd])])])]),kf 0 2 0,ko]⟩
theorem c115:D0 115 a0Z:=D3
theorem c116:D0 116 a4q:=D3
theorem c93:D0 93 X93:=D3
theorem c94:D0 94 X94:=D3
abbrev LQ(l:Ld):PV:=.agg [IN l.s,St l.x]
abbrev NQ(n:Nd):PV:=.agg [IN n.a,IN n.b,IN n.l.s,St n.l.x]
theorem c4v(l:Ld)(hl:l.s≤3)(p q:By)(h1:l.x.length≤1000000000000)(h2:p.length≤1000000)(h3:q.length≤1000000):F0 115 [0,0] [LQ l,St p,St q] (LQ (l.aft p q)):=by
 obtain⟨R,hR0⟩:=p8 (l.aft p q);rw[←hR0];refine E7 c115 3 (by simp[a0Z]) fun Q hR hN=>?_;have hz1:¬((9223372036854775807:Int)<(l.x.length:Int)+(p.length:Int)):=i9;have hz2:¬((9223372036854775807:Int)<(l.x.length:Int)+(q.length:Int)):=i9;obtain⟨s,x⟩:=l;dsimp only at*;have hs:s=0∨s=1∨s=2∨s=3:=i9;rcases hs with rfl|rfl|rfl|rfl
 . simp[Ld.aft]at hR0;simp[a0Z];obtain⟨P0,hP0⟩:=p8 (p);obtain⟨Q0,hQ0⟩:=p8 (q);rw[←hP0,←hQ0]at hR0⊢;refine I2 (fun(y:By×By) vs h=>ld y.1 y.2=R∧vs=[.uu,St y.1,St y.2,.uu,.ptr 2 1 0,.uu,.uu,.uu,.uu,.uu,.uu,.uu,.uu]∧h=[dd,dd,(1,.var [I 0,St []])]) (fun y=>y.1.length) (P0,Q0) ?_ ?_
   . simp[hR0]
   . rintro⟨p,q⟩ vs h ⟨y1,rfl,rfl⟩ Q' hK hX hR';dsimp only at y1;cases p with
     |nil=>
      cases q with
      |nil=>
       simp[ld]at y1;simp;refine hX _ _ _ ?_;simp;refine hR _ _ ?_;simp[a0Z,←y1]
      |cons b q=>
       simp[ld]at y1;have e:¬((q.length:Int)+1=0):=i9;simp;refine hX _ _ _ ?_;simp;refine hR _ _ ?_;simp[a0Z,←y1]
     |cons a p=>
      cases q with
      |nil=>
       simp[ld]at y1;simp;refine hX _ _ _ ?_;simp;refine hR _ _ ?_;simp[a0Z,←y1]
      |cons b q=>
       have f1:(1:Int)≤(p.length:Int)+1:=i9;have f2:(1:Int)≤(q.length:Int)+1:=i9;by_cases hab:a=b
       . rw[ld,if_pos hab]at y1;subst hab;simp[f1,f2];refine hK (p,q) _ _ k7 ?_;simp[y1]
       . rw[ld,if_neg hab]at y1;have hn:¬(a.toNat=b.toNat):=fun e=>hab (a6F.1 e);have hn2:¬((a.toNat:Int)=(b.toNat:Int)):=fun e=>hn (Int.ofNat.inj e);simp[hn,hn2,hab];refine hR' _ _ ?_;refine hR _ _ ?_;simp[a0Z,←y1]
 . simp[Ld.aft]at hR0;obtain⟨P0,hP0⟩:=p8 (x++p);obtain⟨Q0,hQ0⟩:=p8 (q);rw[←hP0,←hQ0]at hR0;simp[a0Z,hz1,←hP0];rw[←hQ0];refine I2 (fun(y:By×By) vs h=>ld y.1 y.2=R∧vs=[.uu,St y.1,St y.2,.uu,.ptr 2 1 0,.uu,.uu,.uu,.uu,.uu,.uu,.uu,.uu]∧h=[dd,dd,(1,.var [I 0,St []])]) (fun y=>y.1.length) (P0,Q0) ?_ ?_
   . simp[hR0]
   . rintro⟨p,q⟩ vs h ⟨y1,rfl,rfl⟩ Q' hK hX hR';dsimp only at y1;cases p with
     |nil=>
      cases q with
      |nil=>
       simp[ld]at y1;simp;refine hX _ _ _ ?_;simp;refine hR _ _ ?_;simp[a0Z,←y1]
      |cons b q=>
       simp[ld]at y1;have e:¬((q.length:Int)+1=0):=i9;simp;refine hX _ _ _ ?_;simp;refine hR _ _ ?_;simp[a0Z,←y1]
     |cons a p=>
      cases q with
      |nil=>
       simp[ld]at y1;simp;refine hX _ _ _ ?_;simp;refine hR _ _ ?_;simp[a0Z,←y1]
      |cons b q=>
       have f1:(1:Int)≤(p.length:Int)+1:=i9;have f2:(1:Int)≤(q.length:Int)+1:=i9;by_cases hab:a=b
       . rw[ld,if_pos hab]at y1;subst hab;simp[f1,f2];refine hK (p,q) _ _ k7 ?_;simp[y1]
       . rw[ld,if_neg hab]at y1;have hn:¬(a.toNat=b.toNat):=fun e=>hab (a6F.1 e);have hn2:¬((a.toNat:Int)=(b.toNat:Int)):=fun e=>hn (Int.ofNat.inj e);simp[hn,hn2,hab];refine hR' _ _ ?_;refine hR _ _ ?_;simp[a0Z,←y1]
 . simp[Ld.aft]at hR0;obtain⟨P0,hP0⟩:=p8 (p);obtain⟨Q0,hQ0⟩:=p8 (x++q);rw[←hP0,←hQ0]at hR0;simp[a0Z,hz2,←hQ0];rw[←hP0];refine I2 (fun(y:By×By) vs h=>ld y.1 y.2=R∧vs=[.uu,St y.1,St y.2,.uu,.ptr 2 1 0,.uu,.uu,.uu,.uu,.uu,.uu,.uu,.uu]∧h=[dd,dd,(1,.var [I 0,St []])]) (fun y=>y.1.length) (P0,Q0) ?_ ?_
   . simp[hR0]
   . rintro⟨p,q⟩ vs h ⟨y1,rfl,rfl⟩ Q' hK hX hR';dsimp only at y1;cases p with
     |nil=>
      cases q with
      |nil=>
       simp[ld]at y1;simp;refine hX _ _ _ ?_;simp;refine hR _ _ ?_;simp[a0Z,←y1]
      |cons b q=>
       simp[ld]at y1;have e:¬((q.length:Int)+1=0):=i9;simp;refine hX _ _ _ ?_;simp;refine hR _ _ ?_;simp[a0Z,←y1]
     |cons a p=>
      cases q with
      |nil=>
       simp[ld]at y1;simp;refine hX _ _ _ ?_;simp;refine hR _ _ ?_;simp[a0Z,←y1]
      |cons b q=>
       have f1:(1:Int)≤(p.length:Int)+1:=i9;have f2:(1:Int)≤(q.length:Int)+1:=i9;by_cases hab:a=b
       . rw[ld,if_pos hab]at y1;subst hab;simp[f1,f2];refine hK (p,q) _ _ k7 ?_;simp[y1]
       . rw[ld,if_neg hab]at y1;have hn:¬(a.toNat=b.toNat):=fun e=>hab (a6F.1 e);have hn2:¬((a.toNat:Int)=(b.toNat:Int)):=fun e=>hn (Int.ofNat.inj e);simp[hn,hn2,hab];refine hR' _ _ ?_;refine hR _ _ ?_;simp[a0Z,←y1]
 . simp[Ld.aft]at hR0;simp[a0Z];refine hR _ _ ?_;simp[a0Z,hR0]
def b0T:A0:=
 ⟨9,[0,1,3,4],1,[(3,none)],sq [kag 2 0 1 3,.reg [oa 0,ok 3 2,Y6 143 0 1 0 0,ofj 2 0,oc 3 3],ko]⟩
def a6U:A0:=
 ⟨19,[0,1,3,4,5,7,8,9,16],1,[(3,none)],sq [.reg [I0 2 0 1,oy 3 0],sq [.reg [oa 0,N0 5 0,oy 6 0],.block 0 (.loopS [0,2,5,6] 1 (sq [kh 7 6 5,C4 7 0,.block 1 (sq [kf 6 4 0,.reg [ok 3 2,oa 0,oa 4,ot 3 1 2,J0 3 3,ow 8 (.eqS false [1,2,1] (.l 0) (.l 4))],.cond (.v 8) (sq [kf 4 3 0,ko]) kd]),kc 6 1 6 0]))],.reg [odm 3],ko]⟩
def X88:A0:=
 ⟨49,[0,1,3,4,5,6,17],41,[(3,none)],sq [.reg [I0 2 36 1,oy 3 0],.reg [oa 0,D5 0,ou 2 1,ob 1 2,ok 2 2,oq (.lookup 18 true (.int .i64 0) (.l 3) (.l 4)),oo 5,oz 6 0,oz 6 1,oc 4 7,oc 5 8],sq [kaa 5 6 0,.cond (.v 6) (sq [.reg [oa 0,D5 0,ou 1 1,ob 1 2,ox 3,oc 4 4],.reg [oa 0,D5 0,ou 2 1,ob 1 2,ok 2 2,oa 4,odt 18 3 4 5],.reg [⟨.mv (.v 0),none,none,[37,38,39,40]⟩,⟨.mv (.v 0),none,none,[37,38,39,40]⟩,obs 0 37 39,odu 2 37 39,ocj 1 3 37 39,ocq 1 4 37 39,obx 2 2 39,⟨.mkarr 37 2 [.agg [.int .i64 0,.str ⟨#[]⟩]] [(0,.l 6)],none,none,[39]⟩,⟨.append 38 2 24 1 (.l 5) (.l 7),none,none,[39]⟩,⟨.mv (.v 0),none,none,[37,38,39]⟩,⟨.nilchk (.l 9),none,none,[37,38,39]⟩,⟨.fieldAddr 3 (.l 10),none,none,[37,38,39]⟩,⟨.loadV false 1 (.l 11),none,none,[37,38,39]⟩,⟨.mkarr 39 1 [.nils] [(0,.c .nils)],none,none,[37,38]⟩,I7 40 1 24 1 12 13,D5 0,ou 1 15,ol 1 16 8,D5 1,ou 3 18,ol 1 19 14]]) kd],kf 4 3 0,ko]⟩
def X89:A0:=
 ⟨54,[0,1,3,4,5,7,18,19,20,21,32,36],23,[(3,none)],sq [kag 2 20 1 3,.reg [N1 0 21,odo 0 21,ocr 4 1 21,T5 1 2 21,obi 0 2 21,odg 2 4 21,⟨.lookup 14 false (.agg [.int .i64 0,.int .i64 0,.str ⟨#[]⟩,.int .i64 0,.str ⟨#[]⟩]) (.l 3) (.l 5),none,none,[21]⟩,ow 4 (.alloc 21 [.int .i64 0,.int .i64 0,.str ⟨#[]⟩,.int .i64 0,.str ⟨#[]⟩]),ol 5 7 6],sq [.reg [oe 1 4,oe 0 4,ob 1 1,ow 6 (.sliceV 2 2 (.l 0) none (some (.l 2))),N0 7 3,oy 8 0],.block 0 (.loop (sq [kh 9 8 7,C4 9 0,.block 1 (sq [.reg [N4 2 6 8,J0 2 0,ow 5 (.alloc 22 [.int .i64 0,.str ⟨#[]⟩]),ol 2 2 1],.reg [ok 2 5,oe 2 2,J0 2 1,oq (.eqS false [1,2] (.l 0) (.l 2)),oo 3,ov 0 5 4,om 1 5 4,⟨.bin .eql false (.l 6) (oi 3),none,some (.l 4,false),[]⟩,Z8 10 4 7],.cond (.v 10) (kao 3) kd]),kc 8 1 8 0]))],sq [.reg [oe 0 4,ob 1 0,odw 11 1 2],.cond (.v 11) (kao 3) kd],.reg [oe 0 4,ob 1 0,oe 2 2,J0 2 2,oe 1 4,oq (.indexAddrA 2 2 (.l 4) (.l 1)),ol 2 5 3],.reg [oe 0 4,ob 1 0,oah 1 1,oe 0 4,ol 1 3 2],.reg [oa 0,D5 0,ou 4 1,ob 1 2,oe 0 2,J0 2 4,ok 5 4,odt 14 3 5 6],kae 3,ko]⟩
def X90:A0:=
 ⟨62,[0,1,2,4,7,9,10,15,16,17,18,25,26,27,28,35],27,[],sq [.reg [I0 3 20 1],.reg [oa 0,oe 0 3,ou 0 1,ob 1 2,odf 7 114 0 3,N0 8 4,oy 9 0],.block 0 (.loop (sq [kh 10 9 8,C4 10 0,.block 1 (sq [.reg [N4 3 7 9,J0 3 0,ow 4 (.alloc 21 [.int .u8 0,.str ⟨#[]⟩,.int .i64 0]),ol 3 2 1],.reg [oa 0,oe 0 3,ou 1 1,ob 1 2,odf 11 114 0 3,N0 12 4,oy 13 0],.block 2 (.loop (sq [kh 14 13 12,C4 14 2,.block 3 (sq [.reg [N4 3 11 13,J0 3 0,ow 5 (.alloc 22 [.int .u8 0,.str ⟨#[]⟩,.int .i64 0]),ol 3 2 1],sq [.reg [oe 0 4,ob 1 0,oe 0 5,ob 1 2,odb 15 1 3],kan 15 3],.reg [obi 2 4 23,T5 1 0 23,obi 2 5 23,T5 1 2 23,⟨.build [.int .i64 0,.int .i64 0] [(0,1,.l 1),(1,1,.l 3)],none,none,[23]⟩,obi 2 3 23,odg 2 5 23,obi 1 4 23,T5 1 7 23,obi 1 5 23,T5 1 9 23,⟨.call 115 [.l 6,.l 8,.l 10] [(0,0),(0,0)] true,none,none,[23]⟩,⟨.build [.int .i64 0,.int .i64 0,.int .i64 0,.str ⟨#[]⟩] [(0,2,.l 4),(2,2,.l 11)],none,none,[23]⟩,oct 6 23 0 0 0,ol 4 13 12],.reg [⟨.mv (.v 2),none,none,[24,25,26]⟩,⟨.fieldAddr 0 (.v 4),none,none,[24,25,26]⟩,⟨.loadV false 1 (.l 1),none,none,[24,25,26]⟩,N1 2 25,obi 0 4 25,T5 1 4 25,⟨.lookupT 24 1 4 .nils (.l 3) (.l 5),none,none,[25]⟩,⟨.loadV true 4 (.v 6),none,none,[24]⟩,⟨.call 116 [.l 7] [(0,0),(0,0),(0,0),(0,0)] true,none,none,[24]⟩,⟨.mkarr 25 4 [.agg [.int .i64 0,.int .i64 0,.int .i64 0,.str ⟨#[]⟩]] [(0,.l 8)],none,none,[24]⟩,I7 26 4 40 1 6 9,odt 1 0 2 10]]),kc 13 1 13 0]))]),kc 9 1 9 0]))]⟩
def X91:A0:=
 ⟨65,[0,1,3,4,5,6],23,[(3,none)],sq [kag 2 20 1 3,.reg [obs 0 21 22,odu 0 21 22,ocj 1 1 21 22,ocq 1 2 21 22,ofc 0 2 21 22,ocj 0 4 21 22,ocq 1 5 21 22,⟨.indexAddr 2 (.l 3) (.l 6),none,none,[21,22]⟩,⟨.load true 2 (.l 7),none,none,[21,22]⟩,obs 0 21 22,odu 9 21 22,ocj 1 10 21 22,ocq 1 11 21 22,ofc 0 2 21 22,ocj 1 13 21 22,ocq 1 14 21 22,⟨.indexAddr 2 (.l 12) (.l 15),none,none,[21,22]⟩,⟨.load true 2 (.l 16),none,none,[21,22]⟩,⟨.alloc 21 [.int .i64 0,.str ⟨#[]⟩],some 4,none,[22]⟩,⟨.alloc 22 [.int .i64 0,.str ⟨#[]⟩],some 5,none,[21]⟩,oq (.storeN 2 (.l 18) (.l 8) [11,14,16]),ol 2 19 17],.reg [oe 2 2,ou 0 0,ob 1 1,oq (.bin .neq false (.l 2) (oi 0)),oo 3,oj 1 4 4,od 1 5 4,⟨.bin .eql false (.l 6) (.c (.str ⟨#[]⟩)),none,some (.l 4,true),[]⟩,oh 4 7,oo 8,oj 1 5 9,od 1 10 9,⟨.bin .eql false (.l 11) (.c (.str ⟨#[]⟩)),none,some (.l 9,true),[]⟩,oh 9 12,oo 13,og 0 14,obd 15 14,oaz 0 16 14,od 1 17 14,obd 18 14,oaz 1 19 14,od 1 20 14,oj 0 4 14,od 1 22 14,oas 1 21 23 14,od 1 24 14,oh 14 25,oo 26,og 0 27,obd 28 27,oaz 0 29 27,od 1 30 27,obd 31 27,oaz 1 32 27,od 1 33 27,oj 0 5 27,od 1 35 27,oas 1 34 36 27,od 1 37 27,oh 27 38,oc 3 39],ko]⟩
def a1C:A0:=
 ⟨113,[0,1,4,5,6,8,9,11,12,20,38,64,65,66,67,71,72,73,74,99],36,[(2,none)],sq [kw 2,sq [.reg [oa 0,D5 0,ou 3 1,ob 1 2,oa 1,ot 1 3 4,ob 1 5,ow 9 (.eqNil true (.l 6) (.c .nils))],.cond (.v 9) (sq [.reg [oa 0,D5 0,ou 3 1,ob 1 2,oa 1,ot 1 3 4,ob 1 5,oc 2 6],ko]) kd],.reg [oq (.lit 0 [] []),oc 3 0],.reg [oa 0,D5 0,ou 1 1,ob 1 2,oa 1,ot 2 3 4,J0 2 5,ow 4 (.alloc 27 [.int .i64 0,.str ⟨#[]⟩]),ol 2 7 6],sq [.reg [oe 1 4,ob 1 0,ow 10 (.bin .neq false (.l 1) (.c (.str ⟨#[]⟩)))],.cond (.v 10) (.reg [N1 3 28,oe 1 4,ob 1 1,oee 2 0,oa 0,oe 0 4,ob 1 5,oe 1 4,ob 1 7,oeg 0 8 1,oq (.build [.int .i64 0,.str ⟨#[]⟩] [(0,1,.l 6),(1,1,.l 9)]),⟨.callv (.c (.fn (.func 88) [] [])) [.l 4,.l 10],none,none,[1000001]⟩,oq (.build [.int .u8 0,.str ⟨#[]⟩,.int .i64 0] [(0,1,.l 3),(2,1,.l 11)]),oq (.mkarr 28 3 [.agg [.int .u8 0,.str ⟨#[]⟩,.int .i64 0]] [(0,.l 12)]),I7 29 3 32 1 0 13,oc 3 14]) (sq [.reg [oa 0,D5 0,ou 0 1,ob 1 2,D5 3,ou 0 4,ob 1 5,oe 0 4,ob 1 7,ot 1 6 8,Z2 11 1 9,N0 12 10,oy 13 0],.block 0 (.loop (sq [kh 14 13 12,C4 14 0,.block 1 (sq [.reg [N4 3 11 13,J0 3 0,odz 5 30 0,ol 3 2 1],kw 6,sq [.reg [oe 1 5,Z2 15 1 0,N0 16 1,oy 17 0],.block 2 (.loop (sq [kh 18 17 16,C4 18 2,.block 3 (sq [.reg [N4 1 15 17,ob 1 0,oc 7 1],.reg [oa 6,oa 7,ofh 31 1 0 0 1,I7 32 1 1 1 0 2,oc 6 3]]),kc 17 1 17 0]))],.reg [N1 6 33,⟨.indexAddr 1 (.l 0) (oi 0),none,none,[33]⟩,T5 1 1 33,obi 0 5 33,T5 1 3 33,N1 0 33,obi 2 5 33,T5 1 6 33,N1 6 33,⟨.slice false 1 (.l 8) (some (oi 1)) none none,none,none,[33]⟩,⟨.convStr (.l 9),none,none,[33]⟩,⟨.build [.int .i64 0,.str ⟨#[]⟩] [(0,1,.l 7),(1,1,.l 10)],none,none,[33]⟩,⟨.callv (.c (.fn (.func 88) [] [])) [.l 5,.l 11],none,none,[33,1000001,1000003]⟩,⟨.build [.int .u8 0,.str ⟨#[]⟩,.int .i64 0] [(0,1,.l 2),(1,1,.l 4),(2,1,.l 12)],none,none,[33]⟩,ow 8 (.alloc 33 [.int .u8 0,.str ⟨#[]⟩,.int .i64 0]),ol 3 14 13],.reg [oa 3,ok 3 8,Y6 136 0 1 0 0,obb 19 2],.cond (.v 19) (.reg [oa 3,ok 3 8,oq (.mkarr 34 3 [.agg [.int .u8 0,.str ⟨#[]⟩,.int .i64 0]] [(0,.l 1)]),I7 35 3 32 1 0 2,oc 3 3]) kd]),kc 13 1 13 0]))])],.G6 [(29,true),(35,true)] (.reg [oa 0,D5 0,ou 3 1,ob 1 2,oa 1,oa 3,ot 1 3 4,ol 1 6 5]),kf 3 2 0,.G4 2 none 0 0 ko]⟩
def X52:A0:=
 ⟨8,[0,2],6,[(1,none)],sq [.reg [odn 1],.reg [oa 0,oek 3,oek 4,oq (.build [.lit (.pointer none),.nils,.lit (.map none),.nils,.lit (.map none)] [(0,1,.l 0),(2,1,.l 1),(4,1,.l 2)]),oq (.box 5 (.l 3)),oc 1 4],.G4 1 (some 1) 6 2 (.G4 1 (some 3) 7 1 ko)]⟩
def X53:A0:=
 ⟨113,[0,2,3,4,5,6,7,9,11,12,13,15,23,43,44,45,46,47,54,55,56,57,65,66,74,75,76,77,83,86,105],20,[(1,none),(2,none)],sq [.reg [obc 1,os 2],sq [.reg [oa 0,D5 0,ou 0 1,ob 1 2,D5 3,ou 2 4,ob 1 5,obb 12 6],.cond (.v 12) (sq [.reg [obc 1,os 2],ko]) kd],.reg [oa 0,oq (.build [.int .i64 0,.str ⟨#[]⟩] []),ocz 88 0 1,oa 0,oq (.build [.int .i64 0,.str ⟨#[]⟩] []),ocz 88 3 4,off 0 0 0 1 2 1 1 5,oq (.build [.int .i64 0,.int .i64 0,.int .i64 0,.str ⟨#[]⟩] [(0,2,.l 6)]),oct 3 8 0 0 0,ol 4 8 7],.reg [oa 0,ok 4 3,ocz 89 0 1],.reg [ok 4 3,oq (.lit 4 [.agg [.int .i64 0,.int .i64 0,.int .i64 0,.str ⟨#[]⟩]] [(0,.l 0)]),oq (.build [.nils,.lit (.pointer none),.int .u8 0] [(0,1,.l 1)]),oq (.box 9 (.l 2)),oq (.mkarr 10 1 [.lit (.pointer none)] [(0,.l 3)]),oc 4 4],.reg [oek 11,oc 5 0],.block 0 (.loop (sq [sq [.reg [oa 4,ox 0,odc 13 1 0],C4 13 0],.block 1 (sq [kw 6,sq [kah 14 4 15 0 16 0,.block 2 (.loop (sq [kh 17 16 15,C4 17 2,.block 3 (sq [.reg [N4 1 14 16,ob 1 0,oc 7 1],.G4 7 none 1 0 (sq [.reg [oa 5,oq (.clearM (.l 0))],sq [.reg [oa 7,D5 0,ou 0 1,Z2 18 1 2,N0 19 3,oy 20 0],.block 4 (.loop (sq [kh 21 20 19,C4 21 4,.block 5 (sq [.reg [N4 4 18 20,J0 4 0,oct 8 12 0 0 0,ol 4 2 1],.reg [oa 0,ok 4 8,oa 5,oq (.callv (.c (.fn (.func 90) [] [])) [.l 0,.l 1,.l 2])]]),kc 20 1 20 0]))],.G6 [(11,false)] (.reg [ow 22 (.mv (.c (.int .u8 0)))]),.block 6 (.loop (sq [.reg [ow 23 (.bin .lss false (.v 22) (.c (.int .u8 63)))],C4 23 6,.block 7 (sq [kf 22 9 0,.reg [oa 7,oa 9,oq (.build [.nils,.lit (.pointer none),.int .u8 0] [(1,1,.l 0),(2,1,.l 1)]),oq (.box 13 (.l 2)),oc 10 3],sq [.reg [oa 5,oa 9,ow 24 (.lookup 1 false .nils (.l 0) (.l 1)),N0 25 2,oy 26 0],.block 8 (.loop (sq [kh 27 26 25,C4 27 8,.block 9 (sq [.reg [N4 4 24 26,J0 4 0,oct 11 14 0 0 0,ol 4 2 1],sq [.reg [oa 0,ok 4 11,ocz 89 0 1,obb 28 2],kan 28 9],sq [.reg [oa 0,ok 4 11,odf 29 91 0 1],.cond (.v 29) (sq [.reg [oa 10,W4 92 0 15 1,oc 1 1,obg 2],ko]) kd],.reg [obs 10 16 17,N1 10 16,odo 1 16,ocr 0 2 16,T5 1 3 16,ok 4 11,oq (.mkarr 16 4 [.agg [.int .i64 0,.int .i64 0,.int .i64 0,.str ⟨#[]⟩]] [(0,.l 5)]),I7 17 4 40 1 4 6,D5 0,ou 0 8,ol 1 9 7]]),kc 26 1 26 0]))],.reg [oa 10,D5 0,ou 0 1,ob 1 2,ox 3,odc 30 4 0],.cond (.v 30) (.G6 [(17,true),(13,true)] (.G4 10 none 1 0 (.reg [oa 6,oa 10,oq (.mkarr 18 1 [.lit (.pointer none)] [(0,.l 1)]),I7 19 1 8 1 0 2,oc 6 3]))) kd]),.reg [oq (.bin .add false (.v 22) (.c (.int .u8 1))),oc 22 0]]))])]),kc 16 1 16 0]))],.G6 [(19,true)] (.G4 6 none 0 0 (.G4 6 none 1 0 (kf 6 4 0)))])])),.reg [obc 1,os 2],ko]⟩
def X92:A0:=
 ⟨23,[0,2,3,8],2,[(1,none)],sq [kw 1,kw 2,.G4 2 none 1 1 (sq [.block 0 (.loop (sq [sq [.reg [oa 0,D5 0,ou 1 1,ob 1 2,ow 3 (.eqPtr true (.l 3) (.c (.lit (.pointer none))))],C4 3 0],.block 1 (.reg [oa 2,oa 0,D5 1,ou 2 2,ob 1 3,ofh 0 1 0 0 4,I7 1 1 1 1 0 5,oc 2 6]),.reg [oa 0,D5 0,ou 1 1,ob 1 2,oc 0 3]])),.reg [oa 2,oce 117 0],kf 2 1 0,ko])]⟩
def a7o:A0:=
 ⟨28,[0,2,3,9],2,[],sq [.reg [oa 0,ox 0,obe 1 1,oy 1 0,oc 2 2],.block 0 (.loop (sq [sq [.reg [oa 1,oa 2,oaw 3 0 1],C4 3 0],.block 1 (.reg [oa 0,oa 1,oa 0,oa 2,oa 0,oa 2,ot 1 4 5,ob 1 6,oa 0,oa 1,ot 1 8 9,ob 1 10,ot 1 0 1,ol 1 12 7,ot 1 2 3,ol 1 14 11]),.reg [oa 1,oah 0 1,oa 2,obe 2 1,oc 1 1,oc 2 3]]))]⟩
def X54:A0:=
 ⟨109,[0,1,4,5,6,7,8,9,10,12,14,15,16,30,38,39,40,54,62,63,64,65,74,86,87,88,89],5,[(2,none)],sq [kw 2,.reg [ow 3 (.allocA 0 [.slc [],.slc [],.slc [],.slc [],.slc []])],sq [kl 11 0,.block 0 (.loop (sq [.reg [ow 12 (.bin .lss false (.v 11) (oi 5))],C4 12 0,.block 1 (sq [kf 11 4 0,.reg [oa 4,oa 0,D5 1,ou 0 2,ob 1 3,ox 4,oq (.makeSlice 1 1 24 .nils (.l 5) (.l 5)),oex 5 1 3 0,ol 1 7 6]]),kc 11 1 11 0]))],sq [.reg [oa 1,ox 0,oc 5 1],.block 2 (.loop (sq [sq [.reg [oa 5,ow 13 (.bin .geq false (.l 0) (oi 0))],C4 13 2],.block 3 (sq [.reg [oa 5,ofk 0 5,oex 5 1 3 1,ob 1 2,oc 6 3],.reg [oa 6,N0 14 0,oy 15 0],.block 4 (.loop (sq [kh 16 15 14,C4 16 4,.block 5 (sq [kf 15 7 0,kw 8,.G4 8 none 1 0 (sq [sq [.reg [oa 5,oa 1,ox 1,oby 0 2,oo 3,og 0 4,obd 5 4,oaz 1 6 4,od 1 7 4,og 7 4,oas 1 8 9 4,od 1 10 4,U9 17 4 11],.cond (.v 17) (.reg [oq (.mkarr 2 1 [.str ⟨#[]⟩] [(0,.c (.str ⟨#[]⟩))]),oc 8 0]) kd],sq [.G6 [(2,true)] (.G4 8 none 0 0 (.reg [oa 0,D5 0,ou 0 1,ob 1 2,oa 7,ot 1 3 4,Z2 18 1 5,N0 19 6,oy 20 0])),.block 6 (.loop (sq [kh 21 20 19,C4 21 6,.block 7 (sq [.reg [N4 3 18 20,J0 3 0,odz 9 3 0,ol 3 2 1],sq [.reg [oa 1,oa 5,oda 1 0 1,oe 1 9,ob 1 3,Y6 93 2 4 0 0,obb 22 5],kan 22 7],.reg [oa 5,oe 1 9,ob 1 1,ox 2,obp 0 3,ofk 4 5,oex 5 1 3 5,ob 1 6,oe 2 9,ob 1 8,ot 1 7 9,Z2 23 1 10,N0 24 11,oy 25 0],.block 8 (.loop (sq [kh 26 25 24,C4 26 8,.block 9 (sq [.reg [N4 1 23 25,ob 1 0,oc 10 1],.reg [oa 8,oe 0 9,ob 1 1,oa 10,obp 2 3,Y6 94 0 4 4 1,oc 8 5]]),kc 25 1 25 0]))]),kc 20 1 20 0]))],.reg [oa 6,oa 7,oa 8,ot 1 0 1,ol 1 3 2]])]),kc 15 1 15 0]))]),.reg [oa 5,obe 0 1,oc 5 1]]))],.reg [oq (.indexAddrA 5 1 (.v 3) (oi 0)),ob 1 0,obz 1 1 0,ob 1 2,oc 2 3],ko]⟩
def X55:A0:=
 ⟨111,[0,1,2,6,7,8,9,11,12,20,53,61,62,63,64,84,103],7,[(3,none)],sq [kj 3,.reg [oek 0,oq (.build [.int .i64 0,.int .i64 0,.int .i64 0] []),ocp 46 0 1,oo 0,oc 4 3],.reg [oq (.build [.int .i64 0,.int .i64 0,.int .i64 0] []),oq (.mkarr 1 3 [.agg [.int .i64 0,.int .i64 0,.int .i64 0]] [(0,.l 0)]),oc 5 1],.block 0 (.loop (sq [sq [.reg [oa 5,ox 0,odc 9 1 0],C4 9 0],.block 1 (sq [.reg [oa 5,oa 5,ox 1,obe 2 1,ot 3 0 3,J0 3 4,ow 6 (.alloc 2 [.int .i64 0,.int .i64 0,.int .i64 0]),ol 3 6 5],.reg [oa 5,oa 5,ox 1,obe 2 1,ocg 3 0 3,oc 5 4],sq [.reg [oe 0 6,ob 1 0,oa 1,ox 2,oby 1 3,oo 4,oj 1 6 5,od 1 6 5,og 2 5,⟨.len true (.l 8),none,some (.l 5,true),[]⟩,oaq 7 9 5,oh 5 10,oo 11,og 0 12,obd 13 12,oaz 1 14 12,od 1 15 12,oj 2 6 12,od 1 17 12,oas 1 16 18 12,od 1 19 12,U9 10 12 20],.cond (.v 10) (sq [kae 3,ko]) kd],.reg [oa 0,D5 0,ou 0 1,ob 1 2,oe 2 6,ob 1 4,ot 1 3 5,Z2 11 1 6,N0 12 7,oy 13 0],.block 2 (.loop (sq [kh 14 13 12,C4 14 2,.block 3 (sq [.reg [N4 3 11 13,J0 3 0,odz 7 3 0,ol 3 2 1],sq [.reg [oa 1,oe 0 6,ob 1 1,oda 1 0 2,oe 1 7,ob 1 4,Y6 93 3 5 0 0,oej 6,oo 7,N3 2 8,ov 1 6 8,om 1 10 8,⟨.slice true 0 (.l 9) (some (.l 11)) none none,none,some (.l 8,false),[]⟩,ov 0 7 8,om 1 13 8,⟨.call 95 [.l 12,.l 14] [(0,0)] true,none,some (.l 8,false),[]⟩,oco 15 8,Z8 15 8 16],kan 15 3],.reg [oe 0 6,ob 1 0,oe 1 7,ob 1 2,ox 3,obp 1 4,oe 1 6,ob 1 6,oe 0 7,ob 1 8,obr 9,obp 7 10,oe 2 7,ob 1 12,oq (.build [.int .i64 0,.int .i64 0,.int .i64 0] [(0,1,.l 5),(1,1,.l 11),(2,1,.l 13)]),ow 8 (.alloc 4 [.int .i64 0,.int .i64 0,.int .i64 0]),ol 3 15 14],.reg [oa 4,ok 3 8,oq (.lookup 46 false (.bool false) (.l 0) (.l 1)),obb 16 2],.cond (.v 16) (sq [.reg [oa 4,ok 3 8,ocp 46 0 1],.reg [oa 5,ok 3 8,oq (.mkarr 5 3 [.agg [.int .i64 0,.int .i64 0,.int .i64 0]] [(0,.l 1)]),I7 6 3 24 1 0 2,oc 5 3]]) kd]),kc 13 1 13 0]))])])),kj 3,ko]⟩
def X17:A0:=
 ⟨38,[0,1,2,3,4,5,6,7,10,21,28],3,[(2,some (true,3)),(3,none)],sq [.reg [I0 1 0 0,ow 2 (.alloc 1 [.nils,.str ⟨#[]⟩,.str ⟨#[]⟩]),oy 3 0],sq [.reg [ok 3 1,W4 36 0 0 0,obb 8 1],.cond (.v 8) (kat 3 2 0 3 20) kd],.reg [ok 3 1,W4 51 0 0 0,oc 4 1],.reg [oa 4,oce 52 0,oce 53 1,oo 2,oz 3 0,oz 3 1,oc 5 4,oc 6 5],sq [kaa 6 9 0,.cond (.v 9) (kat 3 2 0 3 0) kd],.G6 [(15,true)] (.G4 5 none 0 0 (.reg [oa 4,oa 5,Y6 54 0 1 2 1,oc 7 2])),sq [.reg [oa 7,ox 0,ow 10 (.bin .lss false (.l 1) (oi 2))],.cond (.v 10) (kat 3 2 0 3 0) kd],.reg [oa 5,oa 7,obz 1 1 0,ob 1 2,oa 7,obz 1 4 1,ob 1 5,oq (.build [.nils,.str ⟨#[]⟩,.str ⟨#[]⟩] [(0,1,.l 0),(1,1,.l 3),(2,1,.l 6)]),K7 3 2 7,oy 3 50],ko]⟩
def X18:A0:=
 ⟨32,[0,1,2,3,4,5,15],2,[(4,none)],sq [.reg [I0 2 0 0,I0 3 1 1,os 4],sq [.reg [ok 3 2,W4 36 0 0 0,oej 1,oo 2,ov 1 3 3,om 1 4 3,ov 2 3 3,om 1 6 3,ocm 5 7 3,Z8 6 3 8],.cond (.v 6) (kao 4) kd],.reg [ok 3 2,W4 51 0 0 0,oc 5 1],.reg [oa 5,oe 0 3,ob 1 1,oe 1 3,ob 1 3,oq (.call 55 [.l 0,.l 2,.l 4] [(0,0)] false),oo 5,og 5 6,oj 0 3 6,od 1 8 6,oj 2 3 6,od 1 10 6,⟨.call 55 [.l 7,.l 9,.l 11] [(0,0)] false,none,some (.l 6,true),[]⟩,oh 6 12,oc 4 13],ko]⟩
def X9:A0:=
 ⟨12,[0,1,2,4],3,[(2,none)],sq [kag 1 0 0 2,.reg [ok 3 1,oq (.call 17 [.l 0] [(1,1),(0,0),(0,0),(0,0)] false),oo 1,oz 2 0,oz 2 1,oq (.alloc 2 [.nils,.str ⟨#[]⟩,.str ⟨#[]⟩]),ol 3 5 3,oc 3 4],.reg [oa 3,obw 0 0,oc 2 1],ko]⟩
theorem c136:D0 136 b0T:=D3
theorem c143:D0 143 a6U:=D3
theorem c88:S0 Tryz.prog 88 36=some {X88 with body:=strip X88.body}:=by kernel_rfl
theorem c89:S0 Tryz.prog 89 20=some {X89 with body:=strip X89.body}:=by kernel_rfl
theorem c90:S0 Tryz.prog 90 20=some {X90 with body:=strip X90.body}:=by kernel_rfl
theorem c91:S0 Tryz.prog 91 20=some {X91 with body:=strip X91.body}:=by kernel_rfl
theorem b4y:S0 Tryz.prog 114 27=some {a1C with body:=strip a1C.body}:=by kernel_rfl
theorem c52:S0 Tryz.prog 52 3=some {X52 with body:=strip X52.body}:=by kernel_rfl
theorem c53:S0 Tryz.prog 53 8=some {X53 with body:=strip X53.body}:=by kernel_rfl
theorem c92:D0 92 X92:=D3
theorem c117:S0 Tryz.prog 117 2=some {a7o with body:=strip a7o.body}:=by kernel_rfl
theorem c54:D0 54 X54:=D3
theorem c55:D0 55 X55:=D3
theorem c17:D0 17 X17:=D3
theorem c18:D0 18 X18:=D3
theorem c9:D0 9 X9:=D3
theorem c1J(n:Nd)(hs:n.l.s≤3):F0 116 [0,0,0,0] [NQ n] (NQ n.ord):=by
 refine E7 c116 2 (by simp[a4q]) fun Q hR hN=>?_;obtain⟨a,b,s,x⟩:=n;dsimp only at hs;by_cases h1:a<b
 . have h2:¬((a:Int)=(b:Int)):=i9;simp[a4q,h1];refine hR _ _ ?_;simp[a4q,Nd.ord,h1]
 . by_cases h2:a=b
   . subst h2;by_cases h3:s=2
     . subst h3;simp[a4q];refine hR _ _ ?_;simp[a4q,Nd.ord,Ld.sw]
     . simp[a4q,h3];refine hR _ _ ?_;simp[a4q,Nd.ord,h3]
   . have h2':¬((a:Int)=(b:Int)):=i9;have hs:s=0∨s=1∨s=2∨s=3:=i9;rcases hs with rfl|rfl|rfl|rfl<;>simp[a4q,h1,h2,h2']<;>refine hR _ _ ?_<;>simp[a4q,Nd.ord,Ld.sw,h1,h2]
theorem b7D(l p:List Nat)(hl:p.length≤1000000):F0 93 [0] [CL l,CL p] (B (decide (p<+:l))):=by
 refine E7 c93 0 (by simp[X93]) fun Q hR hN=>?_;by_cases hlt:l.length<p.length
 . have hnp:¬p<+:l:=fun h=>(by have:=h.length_le;omega);simp[X93,hlt];refine hR _ _ ?_;simp[X93,hnp]
 . simp[X93,hlt];refine I2 (fun(k:Nat) vs h=>k≤p.length∧p.take k=l.take k∧vs=[CL l,.uu,.uu,.uu,.uu,.uu,CL p,IN p.length,IN k,.uu,.uu]∧h=[]) (fun k=>p.length-k) 0 ?_ ?_
   . simp
   . rintro k vs h ⟨y1,y2,rfl,rfl⟩ Q' hK hX hR';by_cases hk:k<p.length
     . have hkl:k<l.length:=i9;have hwk:=wk1 k i9;by_cases he:l[k]=p[k]
       . simp[hk,hkl,he,hwk];refine hK (k+1) _ _ i9 ?_;simp;refine⟨i9,?_⟩;rw[J2,J2,y2,l9 hk,l9 hkl,he]
       . have hnp:¬p<+:l:=fun⟨r,hr⟩=>he (by grind);have he2:¬((l[k]:Int)=(p[k]:Int)):=i9;simp[hk,hkl,he,he2];refine hR' _ _ ?_;refine hR _ _ ?_;simp[X93,hnp]
     . obtain rfl:k=p.length:=i9
       have hp:p<+:l:=⟨l.drop p.length,by rw[J7]at y2;conv=>lhs;arg 1;rw[y2]
                                          exact a7E _ _⟩
       simp;refine hX _ _ _ ?_;simp;refine hR _ _ ?_;simp[X93,hp]
abbrev bL(a b:By):Bool:=Op.bytesLess a b
def a1Y(two:List By)(x:By):List By:=match two with
 | []=>[x]
 | [a]=>if bL x a then [x,a]else if x=a then [a]else [a,x]
 |a::b::r=>if bL x a then [x,a]else if x=a then a::b::r else if bL x b then [a,x]else a::b::r
theorem c6t(two:List By)(x:By):F0 94 [1] [.slc (two.map St),St x] (.slc ((a1Y two x).map St)):=by
 refine E7 c94 3 (by simp[X94]) fun Q hR hN=>?_
 match two with
 | []=>
  simp[X94];refine hR _ _ ?_;simp[X94,a1Y]
 | [a]=>
  by_cases h1:bL x a=true
  . simp[X94,h1];refine hR _ _ ?_;simp[X94,a1Y,h1]
  . by_cases h2:x=a
    . subst h2;simp[X94,h1];refine hR _ _ ?_;simp[X94,a1Y,h1]
    . simp[X94,h1,h2];refine hR _ _ ?_;simp[X94,a1Y,h1,h2]
 |a::b::r=>
  have g0:¬((r.length:Int)+1+1=0):=i9;have g1:¬((r.length:Int)+1+1=1):=i9;by_cases h1:bL x a=true
  . simp[X94,h1,g0,g1];refine hR _ _ ?_;simp[X94,a1Y,h1]
  . by_cases h2:x=a
    . subst h2;simp[X94,h1,g0,g1];refine hR _ _ ?_;simp[X94,a1Y,h1]
    . by_cases h3:bL x b=true
      . simp[X94,h1,h2,h3,g0,g1];refine hR _ _ ?_;simp[X94,a1Y,h1,h2,h3]
      . simp[X94,h1,h2,h3,g0,g1];refine hR _ _ ?_;simp[X94,a1Y,h1,h2,h3]
abbrev T3(s:J1):PV:=.agg [.int .u8 s.c.toNat,St s.p,IN s.to]
theorem c7F(L:List J1)(s:J1)(hl:L.length≤1000000):∃r,(∃m:Int,r=I m∧(0≤m↔s∈L))∧F0 143 [0] [.slc (L.map T3),T3 s] r:=by
 refine a2x mixed (X:=a6U) c143 2 (by simp[a6U]) (by kernel_rfl) fun Q hR hN=>?_;simp[a6U];refine I2 (fun(k:Nat) vs h=>k≤L.length∧s∉L.take k∧vs=[.slc (L.map T3),.uu,.ptr 1 1 0,.uu,.uu,IN L.length,IN k,.uu,.uu]∧h=[dd,(1,.var [.int .u8 s.c.toNat,St s.p,IN s.to])]) (fun k=>L.length-k) 0 ?_ ?_
 . simp
 . rintro k vs h ⟨y1,y2,rfl,rfl⟩ Q' hK hX hR';by_cases hk:k<L.length
   . have hwk:=wk1 k i9;obtain⟨x,hx⟩:=p8 (L[k]);by_cases he:s=x
     . have hm:s∈L:=(by rw[he,hx];exact B7 hk);simp[hk,←hx,←he];refine hR' _ _ ?_;refine hR _ _ _ ⟨(k:Int),rfl,⟨fun _=>hm,fun _=>i9⟩⟩ ?_;simp[a6U]
     . have hq:(decide (s.c.toNat=x.c.toNat)&&(s.p==x.p&&decide (s.to=x.to)))=false:=by
        rw[Bool.eq_false_iff];intro h;simp only[E6,beq_iff_eq,decide_eq_true_eq]at h;apply he;obtain⟨h1,h2,h3⟩:=h;cases s;cases x;simp only at h1 h2 h3⊢;rw[J1.mk.injEq];exact⟨a6F.1 h1,h2,h3⟩
       simp[hk,←hx,hq,hwk];refine hK (k+1) _ _ i9 ?_;simp;refine⟨i9,fun h=>?_⟩;rw[J2,l9 hk]at h;rcases G7.1 h with h|h
       . exact y2 h
       . grind
   . obtain rfl:k=L.length:=i9;rw[J7]at y2;simp;refine hX _ _ _ ?_;simp;refine hR _ _ _ ⟨-1,rfl,⟨fun h=>i9,fun h=>absurd h y2⟩⟩ ?_;simp[a6U]
theorem c6F(L:List J1)(s:J1)(hl:L.length≤1000000):F0 136 [0] [.slc (L.map T3),T3 s] (B (decide (s∈L))):=by obtain⟨r,⟨m,rfl,hm⟩,hf⟩:=c7F L s hl;refine E7 c136 2 (by simp[b0T]) fun Q hR hN=>?_;simp[b0T];refine l7 hf ?_;simp;refine hR _ _ ?_;simp[b0T,hm]
section
variable{h h0:l5}{s:I4}{hide:List Nat}{t:j9}{F:FT}{v7:Nat}{ws:List (Nat×Row)}{args vs:List PV}{var:Option Nat}{xs:List k8}{K:B0→Prop}
structure RX where
 (c0 c1 c2 c8 c9 c10 K4 c12 J6 c14 c15 c16 c17 c18 c19 c20 c21 c22 c23 c24 c25 c26 c27 c28 c29 c30 c31 c32 c33 c34 c35 c36 c37 c38 c39 c40:Row)
def RX.l(x:RX):List Row:=[x.c0,x.c1,x.c2,x.c8,x.c9,x.c10,x.K4,x.c12,x.J6,x.c14,x.c15,x.c16,x.c17,x.c18,x.c19,x.c20,x.c21,x.c22,x.c23,x.c24,x.c25,x.c26,x.c27,x.c28,x.c29,x.c30,x.c31,x.c32,x.c33,x.c34,x.c35,x.c36,x.c37,x.c38,x.c39,x.c40]
abbrev HfQ(h:Hf):PV:=.agg [IN h.x,St h.r]
abbrev PrQ(k:Nat×Nat):PV:=.agg [IN k.1,IN k.2]
def zLd:Ld:=⟨0,[]⟩
abbrev SeQ(e:(Nat×Nat)×List Ld):PV:=.agg [IN e.2.length,IN (e.2.getD 0 zLd).s,St (e.2.getD 0 zLd).x,IN (e.2.getD 1 zLd).s,St (e.2.getD 1 zLd).x]
def SLQ:List J1→PV
 | []=>.ne
 |a::l=>.slc ((a::l).map T3)
@[simp] theorem c5d:SLQ []=.ne:=rfl
@[simp] theorem c9X(a:J1)(l:List J1):SLQ (a::l)=.slc (T3 a::l.map T3):=rfl
def OSQ:Option (List J1)→PV
 |none=>.nils
 |some L=>SLQ L
@[simp] theorem d0M:OSQ none=.nils:=rfl
@[simp] theorem d1X(L:List J1):OSQ (some L)=SLQ L:=rfl
theorem c4H(a b:Hf):a0w (HfQ a) (HfQ b)=some (decide (a=b)):=by
 cases a;cases b;have hb:∀r q:By,((ByteArray.mk ⟨r⟩==ByteArray.mk ⟨q⟩))=decide (r=q):=fun r q=>by rw[show(ByteArray.mk ⟨r⟩==ByteArray.mk ⟨q⟩)=((⟨r⟩:Array UInt8)==⟨q⟩)from rfl,Bool.eq_iff_iff];simp
 simp[a0w,U8,a0N,Bool.and_assoc,hb]
@[simp] theorem d2B(a:Nat)(r:By)(L:List Hf):W9 (.agg [.int .i64 a,.str ⟨⟨r⟩⟩]) (L.map HfQ) 0=some (L.idxOf? ⟨a,r⟩):=by have:=a7g c4H ⟨a,r⟩ L 0;simpa using this
theorem c7X(a b:Nat×Nat):a0w (PrQ a) (PrQ b)=some (decide (a=b)):=by cases a;cases b;simp[a0w,U8,a0N]
@[simp] theorem c1k(a b:Nat)(L:List (Nat×Nat)):W9 (.agg [.int .i64 a,.int .i64 b]) (L.map PrQ) 0=some (@List.idxOf? (Nat×Nat) instBEqOfDecidableEq (a,b) L):=by have:=a7g c7X (a,b) L 0;simpa using this
theorem c1p(a b:UInt8):a0w (UB a) (UB b)=some (decide (a=b)):=by simp[a0w,a0N,a6F]
open Classical in
noncomputable abbrev AGR(t:j9):PV:=.fptr [.slc ((gL (E0 t) t).map (SG t)),.slc ((O4 t).map B),B (decide (Live t start))]
noncomputable abbrev SVQ(t:j9)(n:Nat):List PV:=[AGR t,.own 6 1 n 2 0 n,.mapv 3 1,.own 7 1 n 1 0 n,.mapv 4 1]
def FKQ(F:FT):List PV:=(F.map (·.1)).map PrQ
def a3G(F:FT):Row:=(1,.mp false (FKQ F) (F.map SeQ))
noncomputable abbrev SH(t:j9)(s:I4)(F:FT)(v7:Nat)(x:RX):l5:=
 [x.c0,x.c1,x.c2,(1,.mp false (s.1.map HfQ) ((List.range s.1.length).map IN)),a3G F,(1,.var (SVQ t s.1.length)),(1,.arr 2 0 false (s.1.map HfQ)),(1,.arr 1 v7 false (s.2.map OSQ)),
  x.c8,x.c9,x.c10,x.K4,x.c12,x.J6,x.c14,x.c15,x.c16,x.c17,x.c18,x.c19,x.c20,x.c21,x.c22,x.c23,x.c24,x.c25,x.c26,x.c27,x.c28,x.c29,x.c30,x.c31,x.c32,x.c33,x.c34,x.c35,x.c36,x.c37,x.c38,x.c39,x.c40]
theorem L6{α:Type}{h:List α}{n:Nat}(hl:h.length=n+1):∃r t,h=r::t∧t.length=n:=by
 cases h with
 |nil=>cases hl
 |cons r t=>exact⟨r,t,rfl,by simpa using hl⟩
theorem c0M(hl:h.length=41)(h3:h[3]?=some (1,.mp false (s.1.map HfQ) ((List.range s.1.length).map IN)))(h4:h[4]?=some (a3G F))(h5:h[5]?=some (1,.var (SVQ t s.1.length)))(h6:h[6]?=some (1,.arr 2 0 false (s.1.map HfQ)))(h7:h[7]?=some (1,.arr 1 v7 false (s.2.map OSQ))):∃x,h=SH t s F v7 x:=by obtain⟨r0,g1,rfl,e1⟩:=L6 hl;obtain⟨r1,g2,rfl,e2⟩:=L6 e1;obtain⟨r2,g3,rfl,e3⟩:=L6 e2;obtain⟨r3,g4,rfl,e4⟩:=L6 e3;obtain⟨r4,g5,rfl,e5⟩:=L6 e4;obtain⟨r5,g6,rfl,e6⟩:=L6 e5;obtain⟨r6,g7,rfl,e7⟩:=L6 e6;obtain⟨r7,g8,rfl,e8⟩:=L6 e7;obtain⟨r8,g9,rfl,e9⟩:=L6 e8;obtain⟨r9,g10,rfl,e10⟩:=L6 e9;obtain⟨r10,g11,rfl,e11⟩:=L6 e10;obtain⟨r11,g12,rfl,e12⟩:=L6 e11;obtain⟨r12,g13,rfl,e13⟩:=L6 e12;obtain⟨r13,g14,rfl,e14⟩:=L6 e13;obtain⟨r14,g15,rfl,e15⟩:=L6 e14;obtain⟨r15,g16,rfl,e16⟩:=L6 e15;obtain⟨r16,g17,rfl,e17⟩:=L6 e16;obtain⟨r17,g18,rfl,e18⟩:=L6 e17;obtain⟨r18,g19,rfl,e19⟩:=L6 e18;obtain⟨r19,g20,rfl,e20⟩:=L6 e19;obtain⟨r20,g21,rfl,e21⟩:=L6 e20;obtain⟨r21,g22,rfl,e22⟩:=L6 e21;obtain⟨r22,g23,rfl,e23⟩:=L6 e22;obtain⟨r23,g24,rfl,e24⟩:=L6 e23;obtain⟨r24,g25,rfl,e25⟩:=L6 e24;obtain⟨r25,g26,rfl,e26⟩:=L6 e25;obtain⟨r26,g27,rfl,e27⟩:=L6 e26;obtain⟨r27,g28,rfl,e28⟩:=L6 e27;obtain⟨r28,g29,rfl,e29⟩:=L6 e28;obtain⟨r29,g30,rfl,e30⟩:=L6 e29;obtain⟨r30,g31,rfl,e31⟩:=L6 e30;obtain⟨r31,g32,rfl,e32⟩:=L6 e31;obtain⟨r32,g33,rfl,e33⟩:=L6 e32;obtain⟨r33,g34,rfl,e34⟩:=L6 e33;obtain⟨r34,g35,rfl,e35⟩:=L6 e34;obtain⟨r35,g36,rfl,e36⟩:=L6 e35;obtain⟨r36,g37,rfl,e37⟩:=L6 e36;obtain⟨r37,g38,rfl,e38⟩:=L6 e37;obtain⟨r38,g39,rfl,e39⟩:=L6 e38;obtain⟨r39,g40,rfl,e40⟩:=L6 e39;obtain⟨r40,g41,rfl,e41⟩:=L6 e40;obtain rfl:=a0Q.1 e41;obtain rfl:=W6 h3;obtain rfl:=W6 h4;obtain rfl:=W6 h5;obtain rfl:=W6 h6;obtain rfl:=W6 h7;exact⟨⟨r0,r1,r2,r8,r9,r10,r11,r12,r13,r14,r15,r16,r17,r18,r19,r20,r21,r22,r23,r24,r25,r26,r27,r28,r29,r30,r31,r32,r33,r34,r35,r36,r37,r38,r39,r40⟩,rfl⟩
theorem b2Z{m:Nat}{L:List Row}(hl:h.length=41)(h3:h[3]?=some (1,.mp false (s.1.map HfQ) ((List.range s.1.length).map IN)))(h4:h[4]?=some (a3G F))(h5:h[5]?=some (1,.var (SVQ t s.1.length)))(h6:h[6]?=some (1,.arr 2 0 false (s.1.map HfQ)))(h7:h[7]?=some (1,.arr 1 v7 false (s.2.map OSQ)))
 (hL:(h.take 3++h.drop 8).take m=L):∃x,h=SH t s F v7 x∧x.l.take m=L:=by
 obtain⟨x,rfl⟩:=c0M hl h3 h4 h5 h6 h7;exact⟨x,rfl,hL⟩
def a0g(l:List Row):List Row:=l.take 15++l.drop 18
theorem a6s{L:List Row}(hl:h.length=41)(h3:h[3]?=some (1,.mp false (s.1.map HfQ) ((List.range s.1.length).map IN)))(h4:h[4]?=some (a3G F))(h5:h[5]?=some (1,.var (SVQ t s.1.length)))(h6:h[6]?=some (1,.arr 2 0 false (s.1.map HfQ)))(h7:h[7]?=some (1,.arr 1 v7 false (s.2.map OSQ)))
 (hL:a0g (h.take 3++h.drop 8)=L):∃x,h=SH t s F v7 x∧a0g x.l=L:=by
 obtain⟨x,rfl⟩:=c0M hl h3 h4 h5 h6 h7;exact⟨x,rfl,hL⟩
theorem b5J{α:Type} [DecidableEq α]{L:List α}{x:α}{n:Nat}(h:L.idxOf? x=some n):n<L.length:=by rw[List.idxOf?,a1V]at h;exact h.1
theorem c8I{h':l5}(n:Nat)(ha:agr hide h h')(hn:∀k,k<h.length→k≠n→hide.contains k=false):h'=h.set n (h'.getD n dd):=by
 apply a4F;intro k;by_cases hk:k<h.length
 . by_cases e:k=n
   . subst e;rw[D7 hk,u9,l9 (by rw[ha.1];exact hk)];rfl
   . rw[D9 (Ne.symm e),ha.2 k (hn k hk e)]
 . rw[a0f (by rw[ha.1];omega),a0f (by grind)]
theorem c3b{ks:List Nat}(h:∀y∈ws,y.1∈ks){ev:s8→PV}(h1:∀n∈hide,n∉ks)(h2:∀n∈hide,n<1000000∨∃k,k∉ks∧((∃g o,ev (avO (n-1000000))=.ptr k g o)∨∃g gl s i j,ev (avO (n-1000000))=.eptr k g gl s i j)):a2v hide ev ws=true:=by
 unfold a2v;rw[E6,A8,A8];refine⟨fun y hy=>?_,fun n hn=>?_⟩
 . grind
 . rcases h2 n hn with h2|⟨k,h3,h2⟩
   . simp[a1I,h2]
   . have hk:k∉ws.map (·.1):=fun hm=>by
      obtain⟨y,hy,rfl⟩:=E9.1 hm;exact h3 (h y hy)
     rcases h2 with⟨g,o,h2⟩|⟨g,gl,s,i,j,h2⟩<;>rw[h2]<;>
      simp only[a2b,a0P,a6C,List.contains_eq_mem,decide_eq_false_iff_not]<;>exact .inr hk
def b1r(h:l5):List (Nat×Row):=(List.range h.length).map fun k=>(k,h.getD k dd)
theorem b7C(h0 h:l5)(hl:h.length=h0.length):∀n,n≤h.length→m6 h0 ((List.range n).map fun k=>(k,h.getD k dd))=h.take n++h0.drop n
 |0,_=>by simp[m6]
 |n+1,hn=>by
  have ih:=b7C h0 h hl n i9;rw[a2F,S8,a3x,ih];show(h.take n++h0.drop n).set n (h.getD n dd)=_;have e1:h.getD n dd=h[n]:=by grind
  rw[e1,List.set_append_right _ _ (by grind),a1G,Nat.min_eq_left i9,a6B];rw[J2,l9 i9,a3u];congr 1;rw[b4M i9];rfl
theorem b1B(hl:h.length=h0.length):m6 h0 (b1r h)=h:=by unfold b1r;rw[b7C h0 h hl _ (m0 _),J7,b4H i9,a0E]
def T7(rs:List (Nat×Option (Bool×Nat)))(r:PV)(vs:List PV)(h:l5):Prop:=∃l,a2I (l8 h []) vs rs=some l∧(l.length==1||l.all a3d)=true∧a0e l=r
theorem a7A{P:Program}{φ:PV→l5→Prop}(hm:P.follows .mixedOrders=true){f:FuncId}{off s0:Nat}{X:A0}(hc:S0 P f off=some {X with sites:=s0,body:=strip X.body})(hns:a1W X.body=true){first cap:List PV}(hlen:(first++args++cap).length≤X.ntmps)(ho:(first.all one&&cap.all one)=true)(hnx:noX X.body=true)
 (h:∀Q:I9,(∀r vs h,φ r h→h.length=h0.length→T7 X.results r vs h→Q .ret vs h)→(∀r vs h,φ r h→h.length=h0.length→T7 X.results r vs h→Q .normal vs h)→Xw (fns P) X.body Q (X.vars.map fun s=>(first++args++cap).getD s .uu) h0):∃r ws,φ r (m6 h0 ws)∧FI P (.fn (.func f) first cap) args h0 r ws:=by
 refine a3L hm hc hns hlen ho hnx fun Q h1 h2=>h Q (fun r vs h a b c=>?_) fun r vs h a b c=>?_
 . obtain⟨l,c1,c2,c3⟩:=c;exact h1 r (b1r h) vs h (by rw[b1B b];exact a) ⟨l,c1,c2,c3,(b1B b).symm⟩
 . obtain⟨l,c1,c2,c3⟩:=c;exact h2 r (b1r h) vs h (by rw[b1B b];exact a) ⟨l,c1,c2,c3,(b1B b).symm⟩
theorem a2Q{f:PV}{l:List PV}{r:PV}{h1 h2:l5}(hf:FI Tryz.prog f args h1 r ws)(hu:m6 h1 ws=h2)(he:h=h1)
 (hk:Xr (fns Tryz.prog) xs ⟨l++[r],K6 vs var r,h2⟩ K):Xv (fns Tryz.prog) f args var xs ⟨l,vs,h⟩ K:=by
 subst he;subst hu;exact a2O hf hk
theorem c9q{f:PV}{l:List PV}{r:PV}{h1 h2:l5}(hf:∀h',agr hide h1 h'→FI Tryz.prog f args h' r ws)(hu:m6 h1 ws=h2)(he:h=h1)
 (ho:a2v hide (y9 l vs) ws=true) (hk:Xr (fns Tryz.prog) xs ⟨l++[r],K6 vs var r,h2⟩ K):Xvh (fns Tryz.prog) hide f args var xs ⟨l,vs,h⟩ K:=by
 subst he;subst hu;exact c5s hf ⟨ho,hk⟩
theorem b2b(t:j9)(s:I4)(F:FT)(v7:Nat)(x:RX)(h:Hf)(hs:s.1.length≤1000000)(hsl:s.2.length=s.1.length):
 ∃ws x',(∀y:RX,y.c36=x.c36→y.c37=x.c37→y.c39=x.c39→FI Tryz.prog (.fn (.func 88) [] []) [.ptr 5 1 0,HfQ h] (SH t s F v7 y) (IN (S3 s h).1) ws)∧m6 (SH t s F v7 x) ws=SH t (S3 s h).2 F v7 x'∧
  (∀y∈ws,y.1∈[3,5,6,7,36,37,39])∧{x' with c36:=x.c36,c37:=x.c37,c39:=x.c39}=x:=by
 obtain⟨a,r⟩:=h;unfold S3;cases hx:s.1.idxOf? ⟨a,r⟩with
 |some n=>
  have hn:=b5J hx;refine⟨[(36,(x.c36.1+1,.var [IN a,St r]))],{x with c36:=(x.c36.1+1,.var [IN a,St r])},fun y y1 y2 y3=>?_,rfl,k7,rfl⟩;rw[←y1];refine a3k mixed (X:=X88) c88 (by rfl) (by simp[X88]) k7 fun Q hR hN=>?_;simp[X88,SH,hx,hn];refine hR _ _ ?_;simp[P6,X88]
 |none=>
  obtain⟨H2,hH2⟩:=p8 (s.1++[⟨a,r⟩]);obtain⟨S2,hS2⟩:=p8 (s.2++[none]);rw[←hH2,←hS2];have e1:s.1.map HfQ++[.agg [IN a,St r]]=H2.map HfQ:=by grind
  have e2:(List.range s.1.length).map IN++[IN s.1.length]=(List.range H2.length).map IN:=by rw[hH2,a0u,a9E,a2F,S8];rfl
  have e3:s.2.map OSQ++[.nils]=S2.map OSQ:=by rw[hS2,S8];rfl
  have e4:s.1.length+1=H2.length:=by rw[hH2];simp
  have e5:S2.length=H2.length:=by grind
  have b1:H2.length*24≤140737488355328:=i9;have key:∃ws x',(∀y:RX,y.c36=x.c36→y.c37=x.c37→y.c39=x.c39→FI Tryz.prog (.fn (.func 88) [] []) [.ptr 5 1 0,HfQ ⟨a,r⟩] (SH t s F v7 y) (IN s.1.length) ws)∧m6 (SH t s F v7 x) ws=SH t (H2,S2) F v7 x'∧
   (∀y∈ws,y.1∈[3,5,6,7,36,37,39])∧{x' with c36:=x.c36,c37:=x.c37,c39:=x.c39}=x:=by
   refine⟨[(3,(1,.mp false (H2.map HfQ) ((List.range H2.length).map IN))),(5,(1,.var (SVQ t H2.length))),(6,(1,.arr 2 0 false (H2.map HfQ))),(7,(1,.arr 1 v7 false (S2.map OSQ))),(36,(x.c36.1+1,.var [IN a,St r])),(37,(x.c37.1+1,.dead)),(39,(x.c39.1+1,.dead))],{x with c36:=(x.c36.1+1,.var [IN a,St r]),c37:=(x.c37.1+1,.dead),c39:=(x.c39.1+1,.dead)},fun y y1 y2 y3=>?_,rfl,k7,rfl⟩;rw[←y1,←y2,←y3];refine a3k mixed (X:=X88) c88 (by rfl) (by simp[X88]) k7 fun Q hR hN=>?_;simp[X88,SH,hx,e1,e2,e3,e4,e5,b1,hsl];refine hR _ _ ?_;simp[P6,X88]
  exact key
theorem b3D{h:Hf}(hsl:s.2.length=s.1.length):(S3 s h).2.2.length=(S3 s h).2.1.length:=by
 unfold S3;split
 . exact hsl
 . simp[hsl]
theorem get_at(t:j9)(s:I4)(F:FT)(v7:Nat)(x:RX)(h:Hf)(hs:s.1.length≤1000000)(hsl:s.2.length=s.1.length){l:List PV}{r:By}(he:h0=SH t s F v7 x)(hr:r=h.r)
 (hn:∀k,k<41→k≠33→hide.contains k=false) (h1:∀n∈hide,n∉ [3,5,6,7,36,37,39]) (h2:∀n∈hide,n<1000000∨∃k,k∉ [3,5,6,7,36,37,39]∧((∃g o,y9 l vs (avO (n-1000000))=.ptr k g o)∨∃g gl s i j,y9 l vs (avO (n-1000000))=.eptr k g gl s i j))
 (hk:∀x':RX,{x' with c36:=x.c36,c37:=x.c37,c39:=x.c39}=x→Xr (fns Tryz.prog) xs ⟨l++[IN (S3 s h).1],K6 vs var (IN (S3 s h).1),SH t (S3 s h).2 F v7 x'⟩ K):
 Xvh (fns Tryz.prog) hide (.fn (.func 88) [] []) [.ptr 5 1 0,.agg [.int .i64 h.x,.str ⟨⟨r⟩⟩]] var xs ⟨l,vs,h0⟩ K:=by
 subst hr;obtain⟨w0,x0,hfi,hup,hks,hx0⟩:=b2b t s F v7 x h hs hsl;refine c9q (h1:=SH t s F v7 x) (r:=IN (S3 s h).1) (fun h' ha=>?_) hup he (c3b hks h1 h2) (hk x0 hx0);have e:=c8I 33 ha hn;rw[e];exact hfi {x with c33:=h'.getD 33 dd} rfl rfl rfl
end
def OV(k sz:Nat)(z tv:PV)(R:Row)(es:List PV):Prop:=(tv=z∧es=[])∨∃g,tv=.own k g es.length sz 0 es.length∧R=(g,.arr sz 0 false es)∧es≠ []
theorem b5I:∀l:List Nat,a1B (l.map UN)=some (cb l)
 | []=>rfl
 |c::l=>by have ih:=b5I l;rw[a0s];simp only[a1B,a7n,ih,if_true];rfl
theorem b0p{L:List J1}(h:L≠ []):SLQ L=.slc (L.map T3):=by
 cases L with
 |nil=>exact absurd rfl h
 |cons a l=>rfl
theorem b9O(L:List J1):∀x,x∈L.map T3→D4 x=true:=fun x hx=>by obtain⟨i,_,rfl⟩:=E9.1 hx;rfl
@[simp ↓] theorem d1L(L:List J1):(∀x,x∈L.map T3→D4 x=true)=True:=eq_true (b9O L)
@[simp ↓] theorem d1e(L:List J1):(L.map T3).all D4=true:=A8.2 (b9O L)
@[simp] theorem d0b(L:List J1):List.map (B3∘T3) L=L.map T3:=L9 fun _ _=>rfl
theorem c3k(s:I4)(h:Hf):s.2<+:(S3 s h).2.2∧(S3 s h).2.1.length≤s.1.length+1:=by
 unfold S3
 grind
theorem b6V(t:j9)(s:I4)(hsl:s.2.length=s.1.length):∀(A:List (Nat×Nat)) (st:I4×List J1),s.2<+:st.1.2→st.1.2.length=st.1.1.length→
 s.2<+:(A.foldl (V2 t) st).1.2∧(A.foldl (V2 t) st).1.2.length=(A.foldl (V2 t) st).1.1.length∧(A.foldl (V2 t) st).1.1.length≤st.1.1.length+A.length∧(A.foldl (V2 t) st).2.length≤st.2.length+A.length
 | [],st,h1,h2=>⟨h1,h2,m0 _,m0 _⟩
 |a::A,st,h1,h2=>by
  have hg:=c3k st.1 ⟨a.2,(cb (cls t a.1)).tail⟩;obtain⟨q1,q2,q3,q4⟩:=b6V t s hsl A (V2 t st a) (h1.trans hg.1) (b3D h2);refine⟨q1,q2,S7 q3 ?_,S7 q4 ?_⟩
  . rw[Z3];have:=hg.2;show(S3 st.1 ⟨a.2,(cb (cls t a.1)).tail⟩).2.1.length+_≤_;omega
  . rw[Z3];unfold V2
    grind
structure RF where
 (k:Nat)
 (x:RX)
 (tv w5 w6 w7 w8 w14 w15 w16 w17 w18 w19:PV)
structure RG where
 (j:Nat)
 (tv:PV)
 (c31 c32:Row)
 (w7 w18:PV)
theorem b4X(t:j9)(ht:s5 t)(s:I4)(F:FT)(v7:Nat)(x:RX)(n:Nat)(h:Hf)(hs:s.1.length≤900000)(hsl:s.2.length=s.1.length)(hn:s.1[n]?=some h)(hx:h.x<(j4 t).length):
 ∃ws x' v7',FI Tryz.prog (.fn (.func 114) [] []) [.ptr 5 1 0,IN n] (SH t s F v7 x) (SLQ (L0 t s n).2) ws∧m6 (SH t s F v7 x) ws=SH t (L0 t s n).1 F v7' x'∧x'.l.take 22=x.l.take 22:=by
 obtain⟨hn1,hn2⟩:=B4.1 hn;have hnl:n<s.2.length:=i9;cases hc:s.2.getD n none with
 |some L=>
  have e:L0 t s n=(s,L):=by unfold L0;rw[hc]
  have hg:s.2[n]=some L:=by grind
  rw[e];refine⟨[],x,v7,?_,rfl,rfl⟩;refine a3k mixed (X:=a1C) b4y (by rfl) (by simp[a1C]) k7 fun Q hR hN=>?_;cases L with
  |nil=>
   simp[a1C,SH,hn1,hsl,hg];refine hR _ _ ?_;simp[P6,a1C]
  |cons a L=>
   have h0:¬((L.length:Int)+1=0):=i9;simp[a1C,SH,hn1,hsl,hg];refine hR _ _ ?_;simp[P6,a1C]
 |none=>
  have e:L0 t s n=a9p t s n:=by unfold L0;rw[hc]
  have hg:s.2[n]=none:=by grind
  rw[e];unfold a9p;rw[getD_some hn];cases hr:h.r with
  |cons c r=>
   have hs1:a1w t s h=((S3 s ⟨h.x,r⟩).2,[⟨c,[],(S3 s ⟨h.x,r⟩).1⟩]):=(by unfold a1w;rw[hr]);rw[hs1];obtain⟨g,hgE⟩:=p8 (S3 s ⟨h.x,r⟩);rw[←hgE];have hgl:n<g.2.1.length∧n<g.2.2.length∧g.2.2[n]?=some none:=by
    rw[hgE];unfold S3;split
    . grind
    . grind
   have hgn:g.2.2[n]'(hgl.2.1)=none:=(by grind);have key:∃r ws,(r=SLQ [⟨c,[],g.1⟩]∧∃v7' x',m6 (SH t s F v7 x) ws=SH t (g.2.1,g.2.2.set n (some [⟨c,[],g.1⟩])) F v7' x'∧x'.l.take 22=x.l.take 22)∧FI Tryz.prog (.fn (.func 114) [] []) [.ptr 5 1 0,IN n] (SH t s F v7 x) r ws:=by
    refine a7A (φ:=fun r h=>r=SLQ [⟨c,[],g.1⟩]∧∃v7' x',h=SH t (g.2.1,g.2.2.set n (some [⟨c,[],g.1⟩])) F v7' x'∧x'.l.take 22=x.l.take 22) mixed (X:=a1C) b4y (by rfl) (by simp[a1C]) k7 (by kernel_rfl) fun Q hR hN=>?_;have hh:s.1[n]=h:=hn2;have f1:(1:Int)≤(r.length:Int)+1:=i9;have f2:¬((r.length:Int)+1=0):=i9;simp[a1C,SH,hg,hn1,hsl,hh,hr,f1,f2];refine get_at t s F v7 {x with c27:=(x.c27.1+1,.var [IN h.x,St (c::r)])} ⟨h.x,r⟩ i9 hsl rfl rfl (by grind) k7 (fun n hn=>?_) fun x' hx'=>?_
    . simp only[F7]at hn;subst hn;exact .inr ⟨27,k7,.inl ⟨_,1,rfl⟩⟩
    have hlo0:x'.l.take 22=x.l.take 22:=by have:=congrArg (fun z:RX=>z.l.take 22) hx';exact this
    rw[←hgE];obtain⟨S2,hS2⟩:=p8 (g.2.2.set n (some [⟨c,[],g.1⟩]));rw[←hS2]at hR hN;have eS:(g.2.2.map OSQ).set n (.slc [.agg [.int .u8 c.toNat,St [],IN g.1]])=S2.map OSQ:=(by rw[hS2,J8];rfl);have hgs:g.2.2.length=g.2.1.length:=(by rw[hgE];exact b3D hsl);simp[SH,hgl.1,hgn,hgs,eS];refine hR _ _ _ ⟨rfl,v7+1,b2Z rfl rfl rfl rfl rfl rfl hlo0⟩ rfl ?_;simp[T7,a1C]
   obtain⟨r1,ws,⟨rfl,v7',x',hu,hlo⟩,hf⟩:=key;exact⟨ws,x',v7',hf,hu,hlo⟩
  |nil=>
   obtain⟨A,hA⟩:=p8 (E8 t h.x);have hs1:a1w t s h=A.foldl (V2 t) (s,[]):=(by unfold a1w;rw[hr,hA]);rw[hs1];have hgl:(gL (E0 t) t).length=(j4 t).length:=(by simp[gL]);have hAx:(gL (E0 t) t)[h.x]'i9=A:=(by grind);obtain⟨E,hE⟩:=p8 (A.foldl (V2 t) (s,[]));rw[←hE];have key:∃r ws,(r=SLQ E.2∧∃v7' x',m6 (SH t s F v7 x) ws=SH t (E.1.1,E.1.2.set n (some E.2)) F v7' x'∧x'.l.take 22=x.l.take 22)∧FI Tryz.prog (.fn (.func 114) [] []) [.ptr 5 1 0,IN n] (SH t s F v7 x) r ws:=by
    refine a7A (φ:=fun r h=>r=SLQ E.2∧∃v7' x',h=SH t (E.1.1,E.1.2.set n (some E.2)) F v7' x'∧x'.l.take 22=x.l.take 22) mixed (X:=a1C) b4y (by rfl) (by simp[a1C]) k7 (by kernel_rfl) fun Q hR hN=>?_;have hh:s.1[n]=h:=hn2;simp[a1C,SH,hg,hn1,hsl,hh,hr,hgl,hx,hAx];refine E3 (fun(y:RF) vs h=>y.k≤A.length∧y.x.l.take 22=x.l.take 22∧OV 35 3 .ne y.tv y.x.c35 (((A.take y.k).foldl (V2 t) (s,[])).2.map T3)∧
     vs=[.ptr 5 1 0,IN n,.nils,y.tv,.ptr 27 (x.c27.1+1) 0,y.w5,y.w6,y.w7,y.w8,.bool false,.bool false,.slc (A.map (AG t)),IN A.length,IN y.k,y.w14,y.w15,y.w16,y.w17,y.w18,y.w19]∧h=SH t ((A.take y.k).foldl (V2 t) (s,[])).1 F v7 y.x) (fun y=>A.length-y.k)
     ⟨0,{x with c27:=(x.c27.1+1,.var [IN h.x,St []])},.ne,.uu,.uu,.uu,.uu,.uu,.uu,.uu,.uu,.uu,.uu⟩ ⟨C9 _,rfl,.inl ⟨rfl,rfl⟩,rfl,rfl⟩ ?_
    rintro⟨k,x1,tv,w5,w6,w7,w8,w14,w15,w16,w17,w18,w19⟩ vs h1 ⟨y1,ylo,y2,rfl,rfl⟩ Q2 hK2 hX2 hR2;dsimp only at y1 y2 ylo;obtain⟨st,hst⟩:=p8 ((A.take k).foldl (V2 t) (s,[]));rw[←hst]at y2⊢;obtain⟨q1,q2,q3,q4⟩:=b6V t s hsl (A.take k) (s,[]) (a5h _) hsl;rw[←hst]at q1 q2 q3 q4;have hkl:(A.take k).length≤64:=by rw[a1G];have:=a5n ht h.x;rw[←hA]at this;omega
    have hAl:A.length≤64:=(by rw[hA];exact a5n ht h.x);dsimp only at q3 q4;simp only[a7F]at q4;by_cases hk:k<A.length
    . have hwk:=wk1 k i9;obtain⟨a,ha⟩:=p8 (A[k]);have ham:a∈E8 t h.x:=(by grind);obtain⟨_,_,hl1,hl4⟩:=a3m ht hx ham;obtain⟨C,hC⟩:=p8 (cls t a.1);have hCl:C.length=s7 t a.1:=(by rw[hC];rfl);have hnx:(A.take (k+1)).foldl (V2 t) (s,[])=V2 t st a:=(by rw[a5F _ _ hk,←hst,ha]);simp[hk,←ha,←hC];refine E3 (fun(z:RG) vs h=>z.j≤C.length∧OV 32 1 .nils z.tv z.c32 ((C.take z.j).map UN)∧
       vs=[.ptr 5 1 0,IN n,.nils,tv,.ptr 27 (x.c27.1+1) 0,.ptr 30 (x1.c30.1+1) 0,z.tv,z.w7,w8,.bool false,.bool false,.slc (A.map (AG t)),IN A.length,IN k,.bool true,CL C,IN C.length,IN z.j,z.w18,w19]∧
       h=SH t st.1 F v7 {x1 with c30:=(x1.c30.1+1,.var [St (prt t a.1),CL C,IN a.2]),c31:=z.c31,c32:=z.c32}) (fun z=>C.length-z.j) ⟨0,.nils,x1.c31,x1.c32,_,_⟩ ⟨C9 _,.inl ⟨rfl,rfl⟩,rfl,rfl⟩ ?_
      rintro⟨j,tv6,c31,c32,w7,w18⟩ vs h1 ⟨z1,z2,rfl,rfl⟩ Q3 hK3 hX3 hR3;dsimp only at z1 z2;by_cases hj:j<C.length
      . have hwj:=wk1 j i9;obtain⟨C1,hC1⟩:=p8 (C.take j);obtain⟨C2,hC2⟩:=p8 (C.take (j+1));rw[←hC1]at z2;have e1:C1.map UN++[UN C[j]]=C2.map UN:=(by rw[hC2,J2,l9 hj,←hC1,S8];rfl);have e2:C1.length+1=C2.length:=(by grind);have hC2n:C2.map UN≠ []:=fun e=>(by have:=congrArg List.length e;simp at this;rw[this]at e2;simp at e2);rcases z2 with⟨rfl,z2⟩|⟨g,rfl,rfl,z2⟩
        . have z3:C1=[]:=(by simpa using z2);have e3:[UN C[j]]=C2.map UN:=(by grind);have e4:C2.length=1:=(by grind);have hO:OV 32 1 .nils (.own 32 (c32.1+1) 1 1 0 1) (c32.1+1,.arr 1 0 false [UN C[j]]) ((C.take (j+1)).map UN):=by
           rw[←hC2];exact .inr ⟨c32.1+1,by rw[I8,e4],by rw[e3],hC2n⟩
          simp[hj,hwj];exact hK3 ⟨j+1,.own 32 (c32.1+1) 1 1 0 1,_,(c32.1+1,.arr 1 0 false [UN C[j]]),_,_⟩ _ _ (by grind) ⟨m7,hO,rfl,rfl⟩
        . have hO:OV 32 1 .nils (.own 32 g C2.length 1 0 C2.length) (g,.arr 1 0 false (C2.map UN)) ((C.take (j+1)).map UN):=by
           rw[←hC2];exact .inr ⟨g,by rw[I8],rfl,hC2n⟩
          have hb:C2.length≤140737488355328:=(by grind);simp[hj,hwj,e1,e2,hb];exact hK3 ⟨j+1,.own 32 g C2.length 1 0 C2.length,_,(g,.arr 1 0 false (C2.map UN)),_,_⟩ _ _ (by grind) ⟨m7,hO,rfl,rfl⟩
      . obtain rfl:j=C.length:=i9;rw[J7]at z2;obtain⟨c0,Cr,hCr⟩:∃c0 Cr,C=c0::Cr:=by
         cases hX:C with
         |nil=>rw[hX]at hCl;simp at hCl;omega
         |cons c0 Cr=>exact⟨c0,Cr,rfl⟩
        obtain⟨g,rfl,rfl⟩:∃g,tv6=.own 32 g C.length 1 0 C.length∧c32=(g,.arr 1 0 false (C.map UN)):=by
         rcases z2 with⟨_,z2⟩|⟨g,z2,z3,_⟩
         . rw[hCr]at z2;simp at z2
         . grind
        subst hCr;have hc0:c0<256:=by
         obtain⟨lr,_,_,_⟩:=a3m ht hx ham;have hm:c0∈t.rules[a.1].cells:=by have:cls t a.1=t.rules[a.1].cells:=(by unfold cls;rw[u9,l9 lr];rfl);rw[←this,←hC];exact a2W
         have:=b3R ht (B7 lr) hm;omega
        obtain⟨c,rfl⟩:∃c:UInt8,c0=c.toNat:=⟨UInt8.ofNat c0,(ofNat_toNat hc0).symm⟩
        have f5:(1:Int)≤(Cr.length:Int)+1:=i9;have f6:1+Cr.length≤Cr.length+1:=i9;have hcb:cb (cls t a.1)=c::cb Cr:=(by rw[←hC];simp[cb]);obtain⟨G,hG⟩:=p8 (S3 st.1 ⟨a.2,cb Cr⟩);obtain⟨e,he⟩:∃e:J1,e=⟨c,prt t a.1,G.1⟩:=⟨_,rfl⟩
        have hGl:G.2.2.length=G.2.1.length:=(by rw[hG];exact b3D q2);have hnx2:V2 t st a=(G.2,if e∈st.2 then st.2 else st.2++[e]):=(by unfold V2 arE;rw[hcb,he,hG];rfl);rw[hnx2]at hnx;have hcf:=c6F st.2 e i9;rw[he]at hcf;simp;refine hX3 _ _ _ ?_;simp[SH,b5I,f5,f6];refine get_at t st.1 F v7 {x1 with c30:=(x1.c30.1+1,.var [St (prt t a.1),CL (c.toNat::Cr),IN a.2]),c31:=c31,c32:=(g,.arr 1 0 false ((c.toNat::Cr).map UN))} ⟨a.2,cb Cr⟩ i9 q2 rfl rfl (by grind) k7 (fun n hn=>?_) fun x' hx'=>?_
        . simp only[Z5,List.not_mem_nil,or_false]at hn;rcases hn with rfl|rfl|rfl
          . exact .inl i9
          . exact .inr ⟨32,k7,.inr ⟨_,_,_,_,_,rfl⟩⟩
          . exact .inr ⟨30,k7,.inl ⟨_,_,rfl⟩⟩
        have hlo':x'.l.take 22=x.l.take 22:=by have:=congrArg (fun z:RX=>z.l.take 22) hx';exact Eq.trans this ylo
        have h35:x'.c35=x1.c35:=(by grind);rw[←hG];rcases y2 with⟨rfl,y2⟩|⟨g35,rfl,h35',y2⟩
        . have hL:st.2=[]:=(by simpa using y2);rw[hL]at hcf hnx;have hO:OV 35 3 .ne (.own 35 (x'.c35.1+1) 1 3 0 1) (x'.c35.1+1,.arr 3 0 false [T3 e]) (((A.take (k+1)).foldl (V2 t) (s,[])).2.map T3):=by
           rw[hnx];exact .inr ⟨x'.c35.1+1,rfl,rfl,k7⟩
          rw[he]at hO;simp[SH];refine l7 hcf ?_;simp[hwk];refine hK2 ⟨k+1,{x' with c33:=(x'.c33.1+1,.var [.int .u8 c.toNat,St (prt t a.1),IN G.1]),c34:=(x'.c34.1+1,.dead),c35:=(x'.c35.1+1,.arr 3 0 false [T3 ⟨c,prt t a.1,G.1⟩])},.own 35 (x'.c35.1+1) 1 3 0 1,_,_,_,_,_,_,_,_,_,_⟩ _ _ (by grind) ⟨m7,hlo',hO,rfl,?_⟩;dsimp only;rw[hnx]
        . rw[I8]at*;by_cases hm:e∈st.2
          . have hO:OV 35 3 .ne (.own 35 g35 st.2.length 3 0 st.2.length) (g35,.arr 3 0 false (st.2.map T3)) (((A.take (k+1)).foldl (V2 t) (s,[])).2.map T3):=by
             rw[hnx,if_pos hm];exact .inr ⟨g35,by rw[I8],rfl,y2⟩
            have hm2:=hm;rw[he]at hm2;simp[SH,h35,h35'];refine l7 hcf ?_;simp[hwk,hm2];refine hK2 ⟨k+1,{x' with c33:=(x'.c33.1+1,.var [.int .u8 c.toNat,St (prt t a.1),IN G.1]),c35:=(g35,.arr 3 0 false (st.2.map T3))},.own 35 g35 st.2.length 3 0 st.2.length,_,_,_,_,_,_,_,_,_,_⟩ _ _ (by grind) ⟨m7,hlo',hO,rfl,?_⟩;dsimp only;rw[hnx]
          . obtain⟨L2,hL2⟩:=p8 (st.2++[e]);have hO:OV 35 3 .ne (.own 35 g35 L2.length 3 0 L2.length) (g35,.arr 3 0 false (L2.map T3)) (((A.take (k+1)).foldl (V2 t) (s,[])).2.map T3):=by
             rw[hnx,if_neg hm,←hL2];exact .inr ⟨g35,by rw[I8],rfl,by rw[hL2];simp⟩
            have hm2:=hm;rw[he]at hm2;have e1:st.2.map T3++[.agg [.int .u8 c.toNat,St (prt t a.1),IN G.1]]=L2.map T3:=(by grind);have e2:st.2.length+1=L2.length:=(by rw[hL2];simp);have hb:L2.length*32≤140737488355328:=i9;simp[SH,h35,h35'];refine l7 hcf ?_;simp[hwk,hm2,e1,e2,hb];refine hK2 ⟨k+1,{x' with c33:=(x'.c33.1+1,.var [.int .u8 c.toNat,St (prt t a.1),IN G.1]),c34:=(x'.c34.1+1,.dead),c35:=(g35,.arr 3 0 false (L2.map T3))},.own 35 g35 L2.length 3 0 L2.length,_,_,_,_,_,_,_,_,_,_⟩ _ _ (by grind) ⟨m7,hlo',hO,rfl,?_⟩;dsimp only;rw[hnx]
    . obtain rfl:k=A.length:=i9;rw[J7,←hE]at hst;subst hst;obtain⟨S2,hS2⟩:=p8 (st.1.2.set n (some st.2));rw[←hS2]at hR hN;have hnE:n<st.1.2.length:=a9z hnl q1.length_le;have hnE2:n<st.1.1.length:=i9;have hEn:st.1.2[n]=none:=by
       have:=Z6 q1 (by rw[l9 hnl]:s.2[n]?=some s.2[n]);rw[l9 hnE,hg]at this;exact W6 this
      have eS:(st.1.2.map OSQ).set n (SLQ st.2)=S2.map OSQ:=(by rw[hS2,J8];rfl);simp;refine hX2 _ _ _ ?_;rcases y2 with⟨rfl,y2⟩|⟨g35,rfl,h35',y2⟩
      . have hL:st.2=[]:=(by simpa using y2);rw[hL]at eS hR hN;simp only[c5d]at eS;simp[SH,hnE2,q2,hEn,eS];refine hR _ _ _ ⟨rfl,v7+1,b2Z rfl rfl rfl rfl rfl rfl ylo⟩ rfl ?_;simp[T7,a1C]
      . have hL:st.2≠ []:=fun e=>y2 (by rw[e];rfl);rw[b0p hL]at eS;simp[SH,h35',hnE2,q2,hEn,eS];refine hR _ _ _ ⟨(b0p hL).symm,v7+1,b2Z rfl rfl rfl rfl rfl rfl ylo⟩ rfl ?_;simp[T7,a1C]
   obtain⟨r1,ws,⟨rfl,v7',x',hu,hlo⟩,hf⟩:=key;exact⟨ws,x',v7',hf,hu,hlo⟩
@[simp] theorem d0D(a b:Nat)(F:FT):W9 (.agg [.int .i64 a,.int .i64 b]) (FKQ F) 0=some (@List.idxOf? (Nat×Nat) instBEqOfDecidableEq (a,b) (F.map (·.1))):=c1k a b _
theorem a9G{κ α:Type} [DecidableEq κ]{F:List (κ×List α)}{k:κ}{l:α}(h:(F.map (·.1)).idxOf? k=none):X1 F k l=F++[(k,[l])]∧C7 F k=[]:=by unfold X1 C7;rw[h];exact⟨rfl,rfl⟩
theorem a8z{κ α:Type} [DecidableEq κ]{F:List (κ×List α)}{k:κ}{l:α}{i:Nat}(h:(F.map (·.1)).idxOf? k=some i):∃hi:i<F.length,F[i]=(k,C7 F k)∧X1 F k l=F.set i (k,C7 F k++[l]):=by
 have h1:=b5J h;rw[I8]at h1;have h2:F[i].1=k:=by
  rw[List.idxOf?,a1V]at h
  grind
 have h3:C7 F k=F[i].2:=by unfold C7;rw[h];simp only;rw[l9 h1]
 refine⟨h1,by rw[h3,←h2],?_⟩;unfold X1;rw[h]
theorem c4s{F:FT}{i:Nat}{k:Nat×Nat}{ls:List Ld}(hi:i<F.length)(h:F[i].1=k):FKQ (F.set i (k,ls))=FKQ F:=by
 unfold FKQ;rw[J8];congr 1;show(F.map (·.1)).set i k=_;apply a0t k7
 grind
@[simp] theorem d2u{k g o s l:Nat}:isStr (.vsl k g o s l)=false:=rfl
theorem a4b{t:j9}{s:I4}{F:FT}{v7:Nat}{h:l5}{L:List Row}(hl:h.length=41)(h3:h[3]?=some (1,.mp false (s.1.map HfQ) ((List.range s.1.length).map IN)))(h4:h[4]?=some (1,.mp false (FKQ F) (F.map SeQ)))(h5:h[5]?=some (1,.var (SVQ t s.1.length)))(h6:h[6]?=some (1,.arr 2 0 false (s.1.map HfQ)))(h7:h[7]?=some (1,.arr 1 v7 false (s.2.map OSQ)))(hL:a0g (h.take 3++h.drop 8)=L):∃x,h=SH t s F v7 x∧a0g x.l=L:=a6s hl h3 h4 h5 h6 h7 hL
theorem ww1:IntKind.i64.wrap 1=1:=O5
theorem ww2:IntKind.i64.wrap 2=2:=O5
theorem b3L(t:j9)(s:I4)(F:FT)(v7:Nat)(x:RX)(n:Nd)(htw:∀e∈F,e.2.length≤2):
 ∃ws x',FI Tryz.prog (.fn (.func 89) [] []) [.ptr 5 1 0,NQ n] (SH t s F v7 x) (B (Y0 F n).1) ws∧m6 (SH t s F v7 x) ws=SH t s (Y0 F n).2 v7 x'∧a0g x'.l=a0g x.l:=by
 obtain⟨a,b,l⟩:=n;obtain⟨ls,hls⟩:=p8 (C7 F (a,b));have h2:ls.length≤2:=by
  rcases a8M (k:=(a,b)) (F:=F)with e|e
  . rw[hls,e];simp
  . rw[hls];exact htw _ e
 have key:∃r ws,(r=B (Y0 F ⟨a,b,l⟩).1∧∃x',m6 (SH t s F v7 x) ws=SH t s (Y0 F ⟨a,b,l⟩).2 v7 x'∧a0g x'.l=a0g x.l)∧FI Tryz.prog (.fn (.func 89) [] []) [.ptr 5 1 0,NQ ⟨a,b,l⟩] (SH t s F v7 x) r ws:=by
  refine a7A (φ:=fun r h=>r=B (Y0 F ⟨a,b,l⟩).1∧∃x',h=SH t s (Y0 F ⟨a,b,l⟩).2 v7 x'∧a0g x'.l=a0g x.l) mixed (X:=X89) c89 (by rfl) (by simp[X89]) k7 (by kernel_rfl) fun Q hR hN=>?_;unfold Y0 at hR hN;dsimp only[Nd.k]at hR hN;rw[←hls]at hR hN;cases hx:@List.idxOf? (Nat×Nat) instBEqOfDecidableEq (a,b) (F.map (·.1))with
  |none=>
   obtain⟨p1,p2⟩:=a9G (l:=l) hx;rw[p2]at hls;subst hls;rw[p1]at hR hN;have hb:P4 [] l=false:=rfl;obtain⟨F2,hF2⟩:=p8 (F++[((a,b),[l])]);rw[←hF2]at hR;have e1:FKQ F++[.agg [IN a,IN b]]=FKQ F2:=(by rw[hF2];unfold FKQ;rw[S8,S8];rfl);have e2:F.map SeQ++[.agg [.int .i64 1,IN l.s,St l.x,IN 0,St []]]=F2.map SeQ:=(by rw[hF2,S8];rfl);simp[X89,SH,a3G,hx,zLd];refine E3 (fun(y:Nat×Row×PV×PV×PV) vs h=>y.1≤0∧(([]:List Ld).take y.1).any (fun k=>k==l||k.s==3)=false∧vs=[.ptr 5 1 0,NQ ⟨a,b,l⟩,.ptr 20 (x.c20.1+1) 0,.bool false,.ptr 21 (x.c21.1+1) 0,y.2.2.1,.vsl 21 (x.c21.1+1) 1 2 0,IN 0,IN y.1,y.2.2.2.1,y.2.2.2.2,.uu]∧h=SH t s F v7 {x with c20:=(x.c20.1+1,.var [IN a,IN b,IN l.s,St l.x]),c21:=(x.c21.1+1,.var [IN 0,IN (zLd).s,St (zLd).x,IN (zLd).s,St (zLd).x]),c22:=y.2.1}) (fun y=>0-y.1) (0,x.c22,_,_,_) ⟨C9 _,rfl,rfl,rfl⟩ ?_;rintro⟨k,c22,w5,w9,w10⟩ vs h1 ⟨y1,y2,rfl,rfl⟩ Q2 hK2 hX2 hR2;dsimp only at y1 y2;obtain rfl:k=0:=i9;have hbl:P4 [] l=false:=(by unfold P4;simp);rw[hbl]at hR;simp only[a3W,if_false]at hR;simp[SH];refine hX2 _ _ _ ?_;simp[hx,e1,e2,a3G,zLd,ww1,ww2];refine hR _ _ _ ⟨rfl,a4b rfl rfl rfl rfl rfl rfl rfl⟩ rfl ?_;simp[T7,X89]
  |some i=>
   obtain⟨hi,hFi,hpu⟩:=a8z (l:=l) hx;rw[←hls]at hFi hpu;rw[hpu]at hR hN;obtain⟨F2,hF2⟩:=p8 (F.set i ((a,b),ls++[l]));rw[←hF2]at hR;have e1:FKQ F2=FKQ F:=by rw[hF2];exact c4s hi (by rw[hFi])
   match ls,h2 with
   | [],_=>
    have e2:(F.map SeQ).set i (.agg [.int .i64 1,IN l.s,St l.x,IN 0,St []])=F2.map SeQ:=(by rw[hF2,J8];rfl);simp[X89,SH,a3G,hx,hi,hFi,zLd];refine E3 (fun(y:Nat×Row×PV×PV×PV) vs h=>y.1≤0∧(([]:List Ld).take y.1).any (fun k=>k==l||k.s==3)=false∧vs=[.ptr 5 1 0,NQ ⟨a,b,l⟩,.ptr 20 (x.c20.1+1) 0,.bool false,.ptr 21 (x.c21.1+1) 0,y.2.2.1,.vsl 21 (x.c21.1+1) 1 2 0,IN 0,IN y.1,y.2.2.2.1,y.2.2.2.2,.uu]∧h=SH t s F v7 {x with c20:=(x.c20.1+1,.var [IN a,IN b,IN l.s,St l.x]),c21:=(x.c21.1+1,.var [IN 0,IN (zLd).s,St (zLd).x,IN (zLd).s,St (zLd).x]),c22:=y.2.1}) (fun y=>0-y.1) (0,x.c22,_,_,_) ⟨C9 _,rfl,rfl,rfl⟩ ?_;rintro⟨k,c22,w5,w9,w10⟩ vs h1 ⟨y1,y2,rfl,rfl⟩ Q2 hK2 hX2 hR2;dsimp only at y1 y2;obtain rfl:k=0:=i9;have hbl:P4 [] l=false:=(by unfold P4;simp);rw[hbl]at hR;simp only[a3W,if_false]at hR;simp[SH];refine hX2 _ _ _ ?_;simp[hx,hi,e2,a3G,zLd,ww1,ww2];refine hR _ _ _ ⟨rfl,a4b rfl rfl (by rw[e1];rfl) rfl rfl rfl rfl⟩ rfl ?_;simp[T7,X89]
   | [l0],_=>
    have e2:(F.map SeQ).set i (.agg [.int .i64 2,IN l0.s,St l0.x,IN l.s,St l.x])=F2.map SeQ:=(by rw[hF2,J8];rfl);simp[X89,SH,a3G,hx,hi,hFi,zLd];refine E3 (fun(y:Nat×Row×PV×PV×PV) vs h=>y.1≤1∧(([l0]:List Ld).take y.1).any (fun k=>k==l||k.s==3)=false∧vs=[.ptr 5 1 0,NQ ⟨a,b,l⟩,.ptr 20 (x.c20.1+1) 0,.bool false,.ptr 21 (x.c21.1+1) 0,y.2.2.1,.vsl 21 (x.c21.1+1) 1 2 1,IN 1,IN y.1,y.2.2.2.1,y.2.2.2.2,.uu]∧h=SH t s F v7 {x with c20:=(x.c20.1+1,.var [IN a,IN b,IN l.s,St l.x]),c21:=(x.c21.1+1,.var [IN 1,IN (l0).s,St (l0).x,IN (zLd).s,St (zLd).x]),c22:=y.2.1}) (fun y=>1-y.1) (0,x.c22,_,_,_) ⟨C9 _,rfl,rfl,rfl⟩ ?_;rintro⟨k,c22,w5,w9,w10⟩ vs h1 ⟨y1,y2,rfl,rfl⟩ Q2 hK2 hX2 hR2;dsimp only at y1 y2;by_cases hk0:k=0
    . subst hk0;by_cases he:(l0).s=l.s∧(l0).x=l.x
      . have hbl:P4 [l0] l=true:=by
         have:l0=l:=(by cases h0:l0;rw[h0]at he;cases l;simp only at he;rw[he.1,he.2]);unfold P4;simp[this]
        rw[hbl]at hR;simp only[if_true]at hR;simp[SH,he.1,he.2];refine hR2 _ _ ?_;refine hR _ _ _ ⟨rfl,a4b rfl rfl rfl rfl rfl rfl rfl⟩ rfl ?_;simp[T7,X89]
      . have he2:(decide ((l0).s=l.s)&&(l0).x==l.x)=false:=by
         rw[Bool.eq_false_iff];intro h;simp only[E6,decide_eq_true_eq,beq_iff_eq]at h;exact he h
        have hne:(l0==l)=false:=(by grind);by_cases h3:(l0).s=3
        . have hbl:P4 [l0] l=true:=(by unfold P4;simp[h3]);rw[hbl]at hR;simp only[if_true]at hR;have he3:=he2;rw[h3]at he3;simp[SH,he3,h3];refine hR2 _ _ ?_;refine hR _ _ _ ⟨rfl,a4b rfl rfl rfl rfl rfl rfl rfl⟩ rfl ?_;simp[T7,X89]
        . have h3':((l0).s==3)=false:=(by simp[h3]);have hy:(([l0]:List Ld).take 1).any (fun k=>k==l||k.s==3)=false:=(by grind);simp[SH,he2,h3];exact hK2 (1,_,_,_,_) _ _ i9 ⟨m7,hy,rfl,rfl⟩
    obtain rfl:k=1:=i9;have hbl:P4 [l0] l=false:=(by unfold P4;simpa using y2);rw[hbl]at hR;simp only[a3W,if_false]at hR;simp[SH];refine hX2 _ _ _ ?_;simp[hx,hi,e2,a3G,zLd,ww1,ww2];refine hR _ _ _ ⟨rfl,a4b rfl rfl (by rw[e1];rfl) rfl rfl rfl rfl⟩ rfl ?_;simp[T7,X89]
   | [l0,l1],_=>
    simp[X89,SH,a3G,hx,hi,hFi,zLd];refine E3 (fun(y:Nat×Row×PV×PV×PV) vs h=>y.1≤2∧(([l0,l1]:List Ld).take y.1).any (fun k=>k==l||k.s==3)=false∧vs=[.ptr 5 1 0,NQ ⟨a,b,l⟩,.ptr 20 (x.c20.1+1) 0,.bool false,.ptr 21 (x.c21.1+1) 0,y.2.2.1,.vsl 21 (x.c21.1+1) 1 2 2,IN 2,IN y.1,y.2.2.2.1,y.2.2.2.2,.uu]∧h=SH t s F v7 {x with c20:=(x.c20.1+1,.var [IN a,IN b,IN l.s,St l.x]),c21:=(x.c21.1+1,.var [IN 2,IN (l0).s,St (l0).x,IN (l1).s,St (l1).x]),c22:=y.2.1}) (fun y=>2-y.1) (0,x.c22,_,_,_) ⟨C9 _,rfl,rfl,rfl⟩ ?_;rintro⟨k,c22,w5,w9,w10⟩ vs h1 ⟨y1,y2,rfl,rfl⟩ Q2 hK2 hX2 hR2;dsimp only at y1 y2;by_cases hk0:k=0
    . subst hk0;by_cases he:(l0).s=l.s∧(l0).x=l.x
      . have hbl:P4 [l0,l1] l=true:=by
         have:l0=l:=(by cases h0:l0;rw[h0]at he;cases l;simp only at he;rw[he.1,he.2]);unfold P4;simp[this]
        rw[hbl]at hR;simp only[if_true]at hR;simp[SH,he.1,he.2];refine hR2 _ _ ?_;refine hR _ _ _ ⟨rfl,a4b rfl rfl rfl rfl rfl rfl rfl⟩ rfl ?_;simp[T7,X89]
      . have he2:(decide ((l0).s=l.s)&&(l0).x==l.x)=false:=by
         rw[Bool.eq_false_iff];intro h;simp only[E6,decide_eq_true_eq,beq_iff_eq]at h;exact he h
        have hne:(l0==l)=false:=(by grind);by_cases h3:(l0).s=3
        . have hbl:P4 [l0,l1] l=true:=(by unfold P4;simp[h3]);rw[hbl]at hR;simp only[if_true]at hR;have he3:=he2;rw[h3]at he3;simp[SH,he3,h3];refine hR2 _ _ ?_;refine hR _ _ _ ⟨rfl,a4b rfl rfl rfl rfl rfl rfl rfl⟩ rfl ?_;simp[T7,X89]
        . have h3':((l0).s==3)=false:=(by simp[h3]);have hy:(([l0,l1]:List Ld).take 1).any (fun k=>k==l||k.s==3)=false:=(by grind);simp[SH,he2,h3];exact hK2 (1,_,_,_,_) _ _ i9 ⟨m7,hy,rfl,rfl⟩
    by_cases hk1:k=1
    . subst hk1;by_cases he:(l1).s=l.s∧(l1).x=l.x
      . have hbl:P4 [l0,l1] l=true:=by
         have:l1=l:=(by cases h0:l1;rw[h0]at he;cases l;simp only at he;rw[he.1,he.2]);unfold P4;simp[this]
        rw[hbl]at hR;simp only[if_true]at hR;simp[SH,he.1,he.2];refine hR2 _ _ ?_;refine hR _ _ _ ⟨rfl,a4b rfl rfl rfl rfl rfl rfl rfl⟩ rfl ?_;simp[T7,X89]
      . have he2:(decide ((l1).s=l.s)&&(l1).x==l.x)=false:=by
         rw[Bool.eq_false_iff];intro h;simp only[E6,decide_eq_true_eq,beq_iff_eq]at h;exact he h
        have hne:(l1==l)=false:=(by grind);by_cases h3:(l1).s=3
        . have hbl:P4 [l0,l1] l=true:=(by unfold P4;simp[h3]);rw[hbl]at hR;simp only[if_true]at hR;have he3:=he2;rw[h3]at he3;simp[SH,he3,h3];refine hR2 _ _ ?_;refine hR _ _ _ ⟨rfl,a4b rfl rfl rfl rfl rfl rfl rfl⟩ rfl ?_;simp[T7,X89]
        . have h3':((l1).s==3)=false:=(by simp[h3]);have hy:(([l0,l1]:List Ld).take 2).any (fun k=>k==l||k.s==3)=false:=(by grind);simp[SH,he2,h3];exact hK2 (2,_,_,_,_) _ _ i9 ⟨m7,hy,rfl,rfl⟩
    obtain rfl:k=2:=i9;have hbl:P4 [l0,l1] l=true:=(by unfold P4;simp);rw[hbl]at hR;simp only[if_true]at hR;simp[SH];refine hX2 _ _ _ ?_;simp;refine hR _ _ _ ⟨rfl,a4b rfl rfl rfl rfl rfl rfl rfl⟩ rfl ?_;simp[T7,X89]
 obtain⟨r1,ws,⟨rfl,x',hu,hlo⟩,hf⟩:=key;exact⟨ws,x',hf,hu,hlo⟩
theorem b7J(t:j9)(s:I4)(F:FT)(v7:Nat)(x:RX)(n:Nd)(ha hb:Hf)(hna:s.1[n.a]?=some ha)(hnb:s.1[n.b]?=some hb)(hxa:ha.x<(j4 t).length)(hxb:hb.x<(j4 t).length):
 ∃(c:Bool) (ws:List (Nat×Row)) (x':RX),(c=true↔Cls t s.1 n)∧FI Tryz.prog (.fn (.func 91) [] []) [.ptr 5 1 0,NQ n] (SH t s F v7 x) (B c) ws∧m6 (SH t s F v7 x) ws=SH t s F v7 x'∧a0g x'.l=a0g x.l:=by
 obtain⟨na1,na2⟩:=B4.1 hna;obtain⟨nb1,nb2⟩:=B4.1 hnb;have hla:(O4 t).length=(j4 t).length:=by simp[O4]
 have acc:∀y,(hy:y<(j4 t).length)→(O4 t)[y]'i9=B6 t ((j4 t).getD y B9):=fun y hy=>by simp only[O4,a1e];rw[u9,l9 hy];rfl
 have hcl:Cls t s.1 n↔n.l.s≠0∧HE t ha∧HE t hb:=by
  constructor
  . rintro⟨h1,xa,xb,h2,h3,h4,h5⟩;rw[hna]at h2;cases h2;rw[hnb]at h3;cases h3;exact⟨h1,h4,h5⟩
  . rintro⟨h1,h2,h3⟩;exact⟨h1,ha,hb,hna,hnb,h2,h3⟩
 have key:∃r ws,(∃c:Bool,r=B c∧(c=true↔Cls t s.1 n)∧∃x',m6 (SH t s F v7 x) ws=SH t s F v7 x'∧a0g x'.l=a0g x.l)∧FI Tryz.prog (.fn (.func 91) [] []) [.ptr 5 1 0,NQ n] (SH t s F v7 x) r ws:=by
  refine a7A (φ:=fun r h=>∃c:Bool,r=B c∧(c=true↔Cls t s.1 n)∧∃x',h=SH t s F v7 x'∧a0g x'.l=a0g x.l) mixed (X:=X91) c91 (by rfl) (by simp[X91]) k7 (by kernel_rfl) fun Q hR hN=>?_;obtain⟨a,b,l⟩:=n;dsimp only at na1 nb1 na2 nb2;by_cases h1:l.s=0
  . simp[X91,SH,na1,nb1,na2,nb2,h1];refine hR _ _ _ ⟨false,rfl,by simp[hcl,h1],a6s rfl rfl rfl rfl rfl rfl rfl⟩ rfl ?_;simp[T7,X91]
  . by_cases h2:ha.r=[]
    . by_cases h3:hb.r=[]
      . cases h4:B6 t ((j4 t).getD ha.x B9)with
        |false=>
         have e:=acc ha.x hxa;rw[h4]at e;simp[X91,SH,na1,nb1,na2,nb2,h1,h2,h3,hla,hxa,e];refine hR _ _ _ ⟨false,rfl,?_,a6s rfl rfl rfl rfl rfl rfl rfl⟩ rfl ?_
         . rw[hcl];unfold HE;rw[h4];simp
         simp[T7,X91]
        |true=>
         have e:=acc ha.x hxa;rw[h4]at e;cases h5:B6 t ((j4 t).getD hb.x B9)with
         |false=>
          have e2:=acc hb.x hxb;rw[h5]at e2;simp[X91,SH,na1,nb1,na2,nb2,h1,h2,h3,hla,hxa,hxb,e,e2];refine hR _ _ _ ⟨false,rfl,?_,a6s rfl rfl rfl rfl rfl rfl rfl⟩ rfl ?_
          . rw[hcl];unfold HE;rw[h5];simp
          simp[T7,X91]
         |true=>
          have e2:=acc hb.x hxb;rw[h5]at e2;simp[X91,SH,na1,nb1,na2,nb2,h1,h2,h3,hla,hxa,hxb,e,e2];refine hR _ _ _ ⟨true,rfl,?_,a6s rfl rfl rfl rfl rfl rfl rfl⟩ rfl ?_
          . rw[hcl];unfold HE;rw[h4,h5];simp[h1,h2,h3]
          simp[T7,X91]
      . have h3e:hb.r.isEmpty=false:=by cases hq:hb.r with|nil=>exact absurd hq h3|cons=>rfl
        simp[X91,SH,na1,nb1,na2,nb2,h1,h2,h3e];refine hR _ _ _ ⟨false,rfl,?_,a6s rfl rfl rfl rfl rfl rfl rfl⟩ rfl ?_
        . rw[hcl];unfold HE;simp[h3]
        simp[T7,X91]
    . have h2e:ha.r.isEmpty=false:=by cases hq:ha.r with|nil=>exact absurd hq h2|cons=>rfl
      simp[X91,SH,na1,nb1,na2,nb2,h1,h2e];refine hR _ _ _ ⟨false,rfl,?_,a6s rfl rfl rfl rfl rfl rfl rfl⟩ rfl ?_
      . rw[hcl];unfold HE;simp[h2]
      simp[T7,X91]
 obtain⟨r1,ws,⟨c,rfl,hc,x',hu,hlo⟩,hf⟩:=key;exact⟨c,ws,x',hc,hf,hu,hlo⟩
def BKQ(B:BM):List PV:=(B.map (·.1)).map UB
def BVQ(B:BM):List PV:=B.map fun e=>.uslc (e.2.map NQ)
@[simp] theorem d1V(c:UInt8)(B:BM):W9 (.int .u8 c.toNat) (BKQ B) 0=some ((B.map (·.1)).idxOf? c):=by have:=a7g c1p c (B.map (·.1)) 0;unfold BKQ;simpa using this
@[simp] theorem c8X(B:BM):(BVQ B).length=B.length:=by simp[BVQ]
def Y7(M:Nat)(B:BM):Prop:=∀e∈B,e.2≠ []∧e.2.length≤M
theorem Y7.put{M:Nat}{B:BM}(h:Y7 M B)(c:UInt8)(m:Nd):Y7 (M+1) (X1 B c m):=fun e he=>by
 rcases b1n he with he|rfl
 . obtain⟨h1,h2⟩:=h e he;exact⟨h1,i9⟩
 . refine⟨k7,?_⟩;rw[a0u,a9E];rcases a8M (k:=c) (F:=B)with e|e
   . rw[e];simp
   . have:=(h _ e).2;simp only at this;omega
theorem Y7.up{M M':Nat}{B:BM}(h:Y7 M B)(hM:M≤M'):Y7 M' B:=fun e he=>⟨(h e he).1,S7 (h e he).2 hM⟩
theorem Y7.a0r{M:Nat}{B:BM}(h:Y7 M B)(l:Ld)(X y:J1):Y7 (M+1) (T.a0r l X B y):=by
 unfold T.a0r;split
 . exact h.put _ _
 . exact h.up (Nat.le_succ _)
theorem Y7.b4p{l:Ld}{X:J1}:∀{L:List J1} {M:Nat} {B:BM},Y7 M B→Y7 (M+L.length) (L.foldl (T.a0r l X) B)
 | [],_,_,h=>h
 |y::L,M,B,h=>by
  have:=Y7.b4p (l:=l) (X:=X) (L:=L) (h.a0r l X y)
  grind
theorem Y7.b3q{l:Ld}{Lb:List J1}:∀{La:List J1} {M:Nat} {B:BM},Y7 M B→Y7 (M+La.length*Lb.length) (La.foldl (a1J l Lb) B)
 | [],_,_,h=>by simpa using h
 |y::La,M,B,h=>by
  have h1:Y7 (M+Lb.length) (a1J l Lb B y):=h.b4p;have:=Y7.b3q (l:=l) (Lb:=Lb) (La:=La) h1
  grind
theorem c3O{B:BM}{c:UInt8}{m:Nd}:(∀{i},(B.map (·.1)).idxOf? c=some i→BKQ (X1 B c m)=BKQ B∧BVQ (X1 B c m)=(BVQ B).set i (.uslc ((C7 B c++[m]).map NQ))∧i<B.length∧(BVQ B)[i]?=some (.uslc ((C7 B c).map NQ))∧(c,C7 B c)∈B)∧
 ((B.map (·.1)).idxOf? c=none→BKQ (X1 B c m)=BKQ B++[UB c]∧BVQ (X1 B c m)=BVQ B++[.uslc [NQ m]]):=by
 constructor
 . intro i hx;obtain⟨hi,h1,h2⟩:=a8z (l:=m) hx;rw[h2];refine⟨?_,?_,hi,?_,?_⟩
   . unfold BKQ;congr 1;rw[J8];apply a0t k7;intro j g1 g2;rw[a4a];split
     . rename_i e;subst e;simp[h1]
     . rfl
   . unfold BVQ;rw[J8]
   . unfold BVQ;rw[H5,l9 hi,h1];rfl
   . rw[←h1];exact B7 hi
 . intro hx;obtain⟨h1,_⟩:=a9G (l:=m) hx;rw[h1];unfold BKQ BVQ;simp
theorem c5l(L:List Nd):∀x,x∈L.map NQ→D4 x=true:=fun x hx=>by obtain⟨i,_,rfl⟩:=E9.1 hx;rfl
@[simp ↓] theorem d0m(L:List Nd):(L.map NQ).all D4=true:=A8.2 (c5l L)
@[simp] theorem d0E(L:List Nd):List.map (B3∘NQ) L=L.map NQ:=L9 fun _ _=>rfl
theorem c8L(L:List Nd):a2w 4 (L.map NQ)=true:=A8.2 fun x hx=>by obtain⟨i,_,rfl⟩:=E9.1 hx;rfl
theorem Stp.A7{t:j9}(ht:s5 t){h h':Hf}{c:UInt8}{p:By}(hs:Stp t h c p h'):p.length≤4:=by
 rcases hs with⟨_,rfl,_⟩|⟨_,a,_,_,rfl,_⟩
 . simp
 . exact b0C ht _
structure RH where
 (k:Nat)
 (x:RX)
 (v7:Nat)
 (w4 w5 w6 w10 w11 w12 w13 w14 w15:PV)
abbrev BR(B:BM):Row:=(1,.mp false (BKQ B) (BVQ B))
theorem b5g(t:j9)(ht:s5 t)(hsm:Sm t)(s:I4)(hi:HSI t s)(F:FT)(v7:Nat)(x:RX)(n:Nd)(w:By)(hn:NS t s.1 w n)(B:BM)(hB:Y7 2000000000000 B)(h11:x.K4=BR B)(h24:x.c24.2=.dead)(hlx:n.l.x.length≤1000000000000):
 ∃(ws:List (Nat×Row)) (x':RX) (v7':Nat),FI Tryz.prog (.fn (.func 90) [] []) [.ptr 5 1 0,NQ n,.mapv 11 1] (SH t s F v7 x) (.tup []) ws∧m6 (SH t s F v7 x) ws=SH t (a0D t s B n).1 F v7' x'∧x'.K4=BR (a0D t s B n).2∧{x' with K4:=x.K4}.l.take 15=x.l.take 15∧x'.c24.2=.dead:=by
 have key:∃r ws,(r=.tup []∧∃x' v7',m6 (SH t s F v7 x) ws=SH t (a0D t s B n).1 F v7' x'∧x'.K4=BR (a0D t s B n).2∧{x' with K4:=x.K4}.l.take 15=x.l.take 15∧x'.c24.2=.dead)∧FI Tryz.prog (.fn (.func 90) [] []) [.ptr 5 1 0,NQ n,.mapv 11 1] (SH t s F v7 x) r ws:=by
  refine a7A (φ:=fun r h=>r=.tup []∧∃x' v7',h=SH t (a0D t s B n).1 F v7' x'∧x'.K4=BR (a0D t s B n).2∧{x' with K4:=x.K4}.l.take 15=x.l.take 15∧x'.c24.2=.dead) mixed (X:=X90) c90 (by rfl) (first:=[]) (cap:=[]) (args:=[.ptr 5 1 0,NQ n,.mapv 11 1]) (h0:=SH t s F v7 x) (by simp[X90]) k7 (by kernel_rfl) fun Q hR hN=>?_;obtain⟨u,v,ha,hb,n1,n2,n3,n4,n5⟩:=id hn;have hhl:=a4k ht hsm hi.nd hi.hb;obtain⟨a1,a2,a3,a4,a5⟩:=a7e ht hsm hi n1;have hal:=a4k ht hsm a1.nd a1.hb;obtain⟨b1,b2,b3,b4,b5⟩:=a7e ht hsm a1 (Z6 a2 n2);have hbl:=a4k ht hsm b1.nd b1.hb;simp[X90,SH];obtain⟨ws1,x1,v1,hf1,hu1,hl1⟩:=b4X t ht s F v7 {x with c20:=(x.c20.1+1,.var [IN n.a,IN n.b,IN n.l.s,St n.l.x])} n.a ha i9 hi.sl n1 (hi.hb ha (C8 n1)).1;obtain⟨sa,hsa⟩:=p8 ((L0 t s n.a).1);obtain⟨La,hLa⟩:=p8 ((L0 t s n.a).2);rw[←hLa]at hf1 a3 a4;rw[←hsa]at hu1 a1 a2 a3 hal b1 b2 b3 b4 b5 hbl;refine a2Q hf1 hu1 rfl ?_;unfold a0D at hR hN;rw[←hLa,←hsa]at hR hN;by_cases hLn:La=[]
  . rw[if_pos hLn]at hR hN;have hx1:=hl1;simp[RX.l]at hx1;rw[hLn];simp[SH];refine E3 (fun(_:Unit) vs h=>vs=[.ptr 5 1 0,NQ n,.mapv 11 1,.ptr 20 (x.c20.1+1) 0,.uu,.uu,.uu,.ne,IN 0,IN 0,.uu,.uu,.uu,.uu,.uu,.uu]∧h=SH t sa F v1 x1) (fun _=>0) () ⟨rfl,rfl⟩ ?_;rintro _ vs h1 ⟨rfl,rfl⟩ Q2 hK2 hX2 hR2;simp[SH];refine hX2 _ _ _ ?_;simp;refine hN _ _ _ ⟨rfl,x1,v1,rfl,?_,?_,?_⟩ rfl ?_
    . rw[hx1.2.2.2.2.2.2.1];exact h11
    . simp[RX.l,hx1]
    . grind
    simp[T7,X90]
  . rw[if_neg hLn]at hR hN;rw[b0p hLn];obtain⟨sb,hsb⟩:=p8 ((L0 t sa n.b).1);obtain⟨Lb,hLb⟩:=p8 ((L0 t sa n.b).2);rw[←hLb,←hsb]at hR hN;rw[←hLb]at b3 b4;rw[←hsb]at b1 b2 b3 b5 hbl;have hfab:L0 t sa n.b=(sb,Lb):=(by rw[hsb,hLb]);rw[hfab]at b5;have hx1:=hl1;simp[RX.l]at hx1;simp[SH];refine E3 (fun(y:RH) vs h=>y.k≤La.length∧y.x.c20=(x.c20.1+1,.var [IN n.a,IN n.b,IN n.l.s,St n.l.x])∧y.x.K4=BR ((La.take y.k).foldl (a1J n.l Lb) B)∧{y.x with K4:=x.K4}.l.take 15=x.l.take 15∧y.x.c24.2=.dead∧
     vs=[.ptr 5 1 0,NQ n,.mapv 11 1,.ptr 20 (x.c20.1+1) 0,y.w4,y.w5,y.w6,.slc (La.map T3),IN La.length,IN y.k,y.w10,y.w11,y.w12,y.w13,y.w14,y.w15]∧h=SH t (if y.k=0 then sa else sb) F y.v7 y.x) (fun y=>La.length-y.k)
     ⟨0,x1,v1,.uu,.uu,.uu,.uu,.uu,.uu,.uu,.uu,.uu⟩ ⟨C9 _,hx1.2.2.2.2.2.2.2.2.2.2.2.2.2.2.2.1,hx1.2.2.2.2.2.2.1.trans h11,by simp[RX.l,hx1],(congrArg Prod.snd hx1.2.2.2.2.2.2.2.2.2.2.2.2.2.2.2.2.2.2.2.1).trans h24,rfl,rfl⟩ ?_
    rintro⟨k,x2,v2,w4,w5,w6,w10,w11,w12,w13,w14,w15⟩ vs h1 ⟨y1,y2,y3,y4,y5,rfl,rfl⟩ Q2 hK2 hX2 hR2;dsimp only at y1 y2 y3 y4 y5;by_cases hk:k<La.length
    . have hwk:=wk1 k i9;obtain⟨X,hX⟩:=p8 (La[k]);have hXm:X∈La:=(by grind);obtain⟨sk,hsk⟩:∃sk,sk=if k=0 then sa else sb:=⟨_,rfl⟩
      obtain⟨Bk,hBk⟩:=p8 ((La.take k).foldl (a1J n.l Lb) B);have hskp:L0 t sk n.b=(sb,Lb)∧HSI t sk∧sk.1[n.b]?=some hb∧sk.1.length≤16128:=by
       rw[hsk];split
       . exact⟨hfab,a1,Z6 a2 n2,hal⟩
       . exact⟨b5,b1,Z6 (a2.trans b2) n2,hbl⟩
      obtain⟨p1,p2,p3,p4⟩:=hskp;rw[←hBk]at y3;have hnx:(La.take (k+1)).foldl (a1J n.l Lb) B=Lb.foldl (a0r n.l X) Bk:=(by rw[a5F _ _ hk,←hBk,←hX];rfl);obtain⟨ws3,x3,v3,hf3,hu3,hl3⟩:=b4X t ht sk F v2 {x2 with c21:=(x2.c21.1+1,.var [.int .u8 X.c.toNat,St X.p,IN X.to])} n.b hb i9 p2.sl p3 (p2.hb hb (C8 p3)).1;rw[p1]at hf3 hu3;have hx3:=hl3;simp[RX.l]at hx3;rw[←hsk];simp[SH,hk,←hX,y2];refine a2Q hf3 hu3 (by rw[←y2]) ?_;have q20:x3.c20=(x.c20.1+1,.var [IN n.a,IN n.b,IN n.l.s,St n.l.x]):=hx3.2.2.2.2.2.2.2.2.2.2.2.2.2.2.2.1.trans y2;have q21:x3.c21=(x2.c21.1+1,.var [.int .u8 X.c.toNat,St X.p,IN X.to]):=hx3.2.2.2.2.2.2.2.2.2.2.2.2.2.2.2.2.1;have q11:x3.K4=BR Bk:=hx3.2.2.2.2.2.2.1.trans y3;have q24:x3.c24.2=.dead:=(congrArg Prod.snd hx3.2.2.2.2.2.2.2.2.2.2.2.2.2.2.2.2.2.2.2.1).trans y5;have qlo:{x3 with K4:=x.K4}.l.take 15=x.l.take 15:=by refine Eq.trans ?_ y4;simp[RX.l,hx3]
      by_cases hLbn:Lb=[]
      . have hnx':(La.take (k+1)).foldl (a1J n.l Lb) B=Bk:=(by rw[hnx,hLbn];rfl);rw[show SLQ (sb,Lb).2=.ne from by show SLQ Lb=_;rw[hLbn];rfl];simp[SH];refine E3 (fun(_:Unit) vs h=>vs=[.ptr 5 1 0,NQ n,.mapv 11 1,.ptr 20 (x.c20.1+1) 0,.ptr 21 (x2.c21.1+1) 0,w5,w6,.slc (La.map T3),IN La.length,IN k,.bool true,.ne,IN 0,IN 0,w14,w15]∧h=SH t sb F v3 x3) (fun _=>0) () ⟨rfl,rfl⟩ ?_;rintro _ vs h1 ⟨rfl,rfl⟩ Q3 hK3 hX3 hR3;simp[SH];refine hX3 _ _ _ ?_;simp[hwk];refine hK2 ⟨k+1,x3,v3,_,_,_,_,_,_,_,_,_⟩ _ _ (by grind) ⟨m7,q20,?_,qlo,q24,rfl,rfl⟩;dsimp only;rw[hnx'];exact q11
      . rw[b0p hLbn];simp[SH];refine E3 (fun(z:Nat×RX×PV×PV×PV×PV) vs h=>z.1≤Lb.length∧z.2.1.c20=(x.c20.1+1,.var [IN n.a,IN n.b,IN n.l.s,St n.l.x])∧z.2.1.c21=(x2.c21.1+1,.var [.int .u8 X.c.toNat,St X.p,IN X.to])∧z.2.1.K4=BR ((Lb.take z.1).foldl (a0r n.l X) Bk)∧{z.2.1 with K4:=x.K4}.l.take 15=x.l.take 15∧z.2.1.c24.2=.dead∧
         vs=[.ptr 5 1 0,NQ n,.mapv 11 1,.ptr 20 (x.c20.1+1) 0,.ptr 21 (x2.c21.1+1) 0,z.2.2.1,z.2.2.2.1,.slc (La.map T3),IN La.length,IN k,.bool true,.slc (Lb.map T3),IN Lb.length,IN z.1,z.2.2.2.2.1,z.2.2.2.2.2]∧h=SH t sb F v3 z.2.1) (fun z=>Lb.length-z.1)
         (0,x3,_,_,_,_) ⟨C9 _,q20,q21,q11,qlo,q24,rfl,rfl⟩ ?_
        rintro⟨j,x4,w5,w6,w14,w15⟩ vs h1 ⟨z1,z2,z3,z4,z5,z6,rfl,rfl⟩ Q3 hK3 hX3 hR3;dsimp only at z1 z2 z3 z4 z5 z6;obtain⟨g24,hg24⟩:∃g24,x4.c24=(g24,.dead):=⟨x4.c24.1,Prod.ext rfl z6⟩
        by_cases hj:j<Lb.length
        . have hwj:=wk1 j i9;obtain⟨Y,hY⟩:=p8 (Lb[j]);have hYm:Y∈Lb:=(by grind);obtain⟨Bj,hBj⟩:=p8 ((Lb.take j).foldl (a0r n.l X) Bk);rw[←hBj]at z4;have hnj:(Lb.take (j+1)).foldl (a0r n.l X) Bk=a0r n.l X Bj Y:=(by rw[a5F _ _ hj,←hBj,←hY]);have hBjB:Y7 2000000005000 Bj:=by
           have h1:Y7 (2000000000000+(La.take k).length*Lb.length) Bk:=(by rw[hBk];exact hB.b3q);have h2:Y7 (2000000000000+(La.take k).length*Lb.length+(Lb.take j).length) Bj:=(by rw[hBj];exact h1.b4p);refine h2.up ?_;have h3:(La.take k).length*Lb.length≤64*64:=a3w (by grind) b4;have h4:(Lb.take j).length≤64:=(by grind);omega
          by_cases hc:X.c=Y.c
          . have hYc:Y.c=X.c:=hc.symm;have hl3:n.l.s≤3:=(by rw[n5];exact b3i u v);obtain⟨_,_,hX2⟩:=a3.1 X hXm;obtain⟨_,_,hY2⟩:=b3.1 Y hYm;have hXp:=hX2.A7 ht;have hYp:=hY2.A7 ht;obtain⟨l2,hl2⟩:=p8 (n.l.aft X.p Y.p);have hl2s:l2.s≤3:=(by rw[hl2,n5,a3A];exact b3i _ _);have haf:=c4v n.l hl3 X.p Y.p hlx i9 i9;rw[←hl2]at haf;obtain⟨m2,hm2⟩:=p8 (Nd.ord ⟨X.to,Y.to,l2⟩);have hof:=c1J ⟨X.to,Y.to,l2⟩ hl2s;rw[←hm2]at hof;have hnj2:a0r n.l X Bj Y=X1 Bj X.c m2:=(by unfold a0r;rw[if_pos hc,hm2,hl2]);obtain⟨B2,hB2⟩:=p8 (X1 Bj X.c m2);obtain⟨k1,k2⟩:=c3O (B:=Bj) (c:=X.c) (m:=m2);rw[←hB2]at k1 k2 hnj2;cases hx:(Bj.map (·.1)).idxOf? X.c with
            |none=>
             obtain⟨e1,e2⟩:=k2 hx;simp[SH,hj,←hY,z2,z3,hYc];refine l7 haf ?_;simp[z4,hx,hg24];refine l7 hof ?_;simp[hx,←e1,←e2,hwj];refine hK3 (j+1,{x4 with K4:=BR B2,c20:=(x.c20.1+1,.var [IN n.a,IN n.b,IN n.l.s,St n.l.x]),c21:=(x2.c21.1+1,.var [.int .u8 X.c.toNat,St X.p,IN X.to]),c22:=(x4.c22.1+1,.var [.int .u8 X.c.toNat,St Y.p,IN Y.to]),c23:=(x4.c23.1+1,.var [IN X.to,IN Y.to,IN l2.s,St l2.x]),c24:=(g24,.dead),c25:=(x4.c25.1+1,.dead),c26:=(x4.c26.1+1,.dead)},_,_,_,_) _ _ i9 ⟨m7,rfl,rfl,?_,?_,rfl,rfl,?_⟩
             . dsimp only;rw[hnj,hnj2]
             . exact z5
             . rfl
            |some i=>
             obtain⟨e1,e2,e3,e4,e5⟩:=k1 hx;have hns:=hBjB _ e5;simp only at hns;obtain⟨ns,hnsE⟩:=p8 (C7 Bj X.c);rw[←hnsE]at e2 e4 hns;have g1:(BVQ Bj)[i]'(by rw[c8X];exact e3)=.uslc (ns.map NQ):=(by grind);have g2:0<ns.length:=a2k.2 hns.1;obtain⟨n2s,hn2s⟩:=p8 (ns++[m2]);rw[←hn2s]at e2;have g3:ns.map NQ++[.agg [IN m2.a,IN m2.b,IN m2.l.s,St m2.l.x]]=n2s.map NQ:=(by grind);have g4:ns.length+1=n2s.length:=(by rw[hn2s];simp);have g5:n2s.length*40≤140737488355328:=i9;simp[SH,hj,←hY,z2,z3,hYc];refine l7 haf ?_;simp[z4,hx,e3,g1,g2,c8L,hg24];refine l7 hof ?_;simp[hx,e3,g1,g2,g3,g4,g5,←e2,hwj];refine hK3 (j+1,{x4 with K4:=BR B2,c20:=(x.c20.1+1,.var [IN n.a,IN n.b,IN n.l.s,St n.l.x]),c21:=(x2.c21.1+1,.var [.int .u8 X.c.toNat,St X.p,IN X.to]),c22:=(x4.c22.1+1,.var [.int .u8 X.c.toNat,St Y.p,IN Y.to]),c23:=(x4.c23.1+1,.var [IN X.to,IN Y.to,IN l2.s,St l2.x]),c24:=(g24+1,.dead),c25:=(x4.c25.1+1,.dead),c26:=x4.c26},_,_,_,_) _ _ i9 ⟨m7,rfl,rfl,?_,?_,rfl,rfl,?_⟩
             . dsimp only;rw[hnj,hnj2]
             . exact z5
             . rw[←e1]
               all_goals rfl
          . have hnj2:a0r n.l X Bj Y=Bj:=(by unfold a0r;rw[if_neg hc]);have hcn:¬X.c.toNat=Y.c.toNat:=fun e=>hc (a6F.1 e);have hcn2:¬((X.c.toNat:Int)=(Y.c.toNat:Int)):=i9;simp[SH,hj,←hY,z2,z3,hcn,hcn2,hwj];refine hK3 (j+1,{x4 with c20:=(x.c20.1+1,.var [IN n.a,IN n.b,IN n.l.s,St n.l.x]),c21:=(x2.c21.1+1,.var [.int .u8 X.c.toNat,St X.p,IN X.to]),c22:=(x4.c22.1+1,.var [.int .u8 Y.c.toNat,St Y.p,IN Y.to])},_,_,_,_) _ _ i9 ⟨m7,rfl,rfl,?_,?_,z6,rfl,rfl⟩
            . dsimp only;rw[hnj,hnj2];exact z4
            . exact z5
        . obtain rfl:j=Lb.length:=i9;rw[J7]at z4;simp[SH];refine hX3 _ _ _ ?_;simp[hwk];refine hK2 ⟨k+1,x4,v3,_,_,_,_,_,_,_,_,_⟩ _ _ (by grind) ⟨m7,z2,?_,z5,z6,rfl,rfl⟩;dsimp only;rw[hnx];exact z4
    . obtain rfl:k=La.length:=i9;rw[J7]at y3;have hLl:La.length≠0:=fun e=>hLn (a0Q.1 e);simp[SH];refine hX2 _ _ _ ?_;simp;refine hN _ _ _ ⟨rfl,x2,v2,?_,y3,y4,y5⟩ rfl ?_
      . rw[if_neg hLn]
      simp[T7,X90]
 obtain⟨r1,ws,⟨rfl,x',v7',hu,h1,h2,h3⟩,hf⟩:=key;exact⟨ws,x',v7',hf,hu,h1,h2,h3⟩
abbrev O0:=List (List Nd×UInt8)
def GP:O0→PV
 | []=>.lit (.pointer none)
 |(ns,c)::g=>.fptr [.slc (ns.map NQ),GP g,.int .u8 c.toNat]
@[simp] theorem d1S:GP []=.lit (.pointer none):=rfl
@[simp] theorem b5F(ns:List Nd)(c:UInt8)(g:O0):GP ((ns,c)::g)=.fptr [.slc (ns.map NQ),GP g,.int .u8 c.toNat]:=rfl
def W8:O0→By
 | []=>[]
 | [_]=>[]
 |(_,c)::g::gs=>W8 (g::gs)++[c]
def a5T(l m:By)(k:Nat):Prop:=m.length=l.length∧∀i,i<l.length→m[i]?=if i<k∨l.length≤i+k then l[l.length-1-i]? else l[i]?
theorem a5T.fin{l m:By}{k:Nat}(h:a5T l m k)(hk:l.length≤2*k+1):m=l.reverse:=by
 apply a4F;intro i;by_cases hi:i<l.length
 . rw[h.2 i hi,List.getElem?_reverse hi];split
   . rfl
   . congr 1;omega
 . rw[a0f (by rw[h.1];omega),a0f (by grind)]
theorem a5T.next{l m:By}{k:Nat}(h:a5T l m k)(hk:2*k+1<l.length)(h1:k<m.length)(h2:l.length-1-k<m.length):a5T l ((m.set k m[l.length-1-k]).set (l.length-1-k) m[k]) (k+1):=by
 refine⟨by simp[h.1],fun i hi=>?_⟩;have e1:m[k]?=l[k]?:=by rw[h.2 k i9,if_neg i9]
 have e2:m[l.length-1-k]?=l[l.length-1-k]?:=by rw[h.2 _ i9,if_neg i9]
 rw[l9 h1,l9 i9]at e1;rw[l9 h2,l9 i9]at e2;rw[W6 e1,W6 e2];by_cases hi1:i=l.length-1-k
 . grind
 . rw[D9 (Ne.symm hi1)];by_cases hi2:i=k
   . grind
   . rw[D9 (Ne.symm hi2),h.2 i hi];by_cases hc:i<k∨l.length≤i+k
     . rw[if_pos hc,if_pos i9]
     . rw[if_neg hc,if_neg i9]
theorem c5w(l:By)(R0:Row)(hl:l.length≤4000000000):FI Tryz.prog (.fn (.func 117) [] []) [.own 1 1 l.length 1 0 l.length] [R0,(1,.arr 1 0 false (l.map UB))] (.tup []) [(1,(1,.arr 1 0 false (l.reverse.map UB)))]:=by
 refine a3k mixed (X:=a7o) c117 (by rfl) (by simp[a7o]) k7 fun Q hR hN=>?_;have hw:IntKind.i64.wrap ((l.length:Int)-1)=(l.length:Int)-1:=O5;simp[a7o,hw];refine E3 (fun(y:Nat×By×PV) vs h=>y.1≤l.length∧a5T l y.2.1 y.1∧(2*y.1≤l.length+1)∧vs=[.own 1 1 l.length 1 0 l.length,IN y.1,I ((l.length:Int)-1-y.1),y.2.2]∧h=[R0,(1,.arr 1 0 false (y.2.1.map UB))]) (fun y=>l.length-y.1) (0,l,.uu) ⟨C9 _,⟨rfl,fun i hi=>by rw[if_neg i9]⟩,m7,k7,rfl⟩ ?_;rintro⟨k,m,w3⟩ vs h1 ⟨y1,y2,y3,rfl,rfl⟩ Q2 hK2 hX2 hR2;dsimp only at y1 y2 y3;have hml:=y2.1;by_cases hk:2*k+1<l.length
 . have h0:(k:Int)<(l.length:Int)-1-(k:Int):=i9;obtain⟨j,hj⟩:=p8 (l.length-1-k);have hji:(l.length:Int)-1-(k:Int)=(j:Int):=i9;have hkm:k<m.length:=i9;have hjm:j<m.length:=i9;have hkl:k<l.length:=i9;have hjl:j<l.length:=i9;have hne:j≠k:=i9;have hwk:=wk1 k i9;have hwj:IntKind.i64.wrap ((j:Int)-1)=(l.length:Int)-1-((k+1:Nat):Int):=(by rw[wrap_ok i9 i9];omega);have hnx:=y2.next hk hkm i9;obtain⟨m1,hm1⟩:=p8 (m.set k m[j]);obtain⟨m2,hm2⟩:=p8 (m1.set j m[k]);have e0:(m.map UB).set k (.int .u8 m[j].toNat)=m1.map UB:=(by rw[hm1,J8]);have e1:(m1.map UB).set j (.int .u8 m[k].toNat)=m2.map UB:=(by rw[hm2,J8]);have hm1l:m1.length=l.length:=(by grind);have hnx2:a5T l m2 (k+1):=by
    subst hj;rw[hm2,hm1];exact hnx
   rw[hji]at h0⊢;simp[h0,hkl,hjl,hml,hm1l,hwk,hwj,e0,e1];exact hK2 (k+1,m2,_) _ _ i9 ⟨m7,hnx2,m7,rfl,rfl⟩
 . have h0:¬((k:Int)<(l.length:Int)-1-(k:Int)):=i9;have hf:=y2.fin i9;simp[h0];refine hX2 _ _ _ ?_;simp;refine hN _ _ ?_;simp[P6,a7o,hf]
theorem c0j(g:O0)(hg:g≠ [])(hl:g.length≤3000000000):F0 92 [1] [GP g] (.uslc ((W8 g).map UB)):=by
 refine E7 c92 2 (by simp[X92]) fun Q hR hN=>?_;simp[X92];refine E3 (fun(y:O0×By×Nat×PV) vs h=>y.1≠ []∧y.1.length+y.2.1.length=g.length∧W8 g=W8 y.1++y.2.1.reverse∧vs=[GP y.1,.nils,.own 1 1 y.2.1.length 1 0 y.2.1.length,y.2.2.2]∧h=[(y.2.2.1,.dead),(1,.arr 1 0 false (y.2.1.map UB))]) (fun y=>y.1.length) (g,[],0,.uu) ⟨hg,k7,k7,rfl,rfl⟩ ?_;rintro⟨g1,acc,g0,w3⟩ vs h1 ⟨y0,y1,y2,rfl,rfl⟩ Q2 hK2 hX2 hR2;dsimp only at y0 y1 y2
 match g1,y0 with
 | [(ns,c)],_=>
  have hrl:acc.length≤4000000000:=i9;simp;refine hX2 _ _ _ ?_;simp;refine a2O (c5w acc _ hrl) ?_;simp;refine hR _ _ ?_;simp[X92,y2,W8]
 |(ns,c)::(ns2,c2)::g2,_=>
  obtain⟨acc2,hacc2⟩:=p8 (acc++[c]);have e1:acc.map UB++[.int .u8 c.toNat]=acc2.map UB:=by grind
  have e2:acc.length+1=acc2.length:=by rw[hacc2];simp
  have hb:acc2.length≤140737488355328:=by simp at y1;omega
  simp[e1,e2,hb];refine hK2 ((ns2,c2)::g2,acc2,g0+1,_) _ _ k7 ⟨k7,?_,?_,rfl,rfl⟩
  . simp at y1⊢;omega
  . dsimp only;rw[y2,hacc2,W8];simp
def gn(g:O0):List Nd:=match g with
 | []=>[]
 |(ns,_)::_=>ns
section
variable{t:j9}
def GOk(t:j9)(Hs:List Hf)(F:FT)(d:Nat)(g:O0):Prop:=g.length=d+1∧∀n∈gn g,NS t Hs (W8 g) n∧Rec F n
theorem GOk.mono{Hs Hs':List Hf}{F F':FT}{d:Nat}{g:O0}(hp:Hs<+:Hs')(hf:FLe F F')(h:GOk t Hs F d g):GOk t Hs' F' d g:=
 ⟨h.1,fun n hn=>⟨(h.2 n hn).1.mono hp,hf _ _ (h.2 n hn).2⟩⟩
theorem GOk.word{Hs:List Hf}{F:FT}{d:Nat}{g:O0}(h:GOk t Hs F d g)(ns:List Nd)(c:UInt8):W8 ((ns,c)::g)=W8 g++[c]:=by
 cases g with
 |nil=>cases h.1
 |cons a g=>rfl
def a8G(t:j9)(Hs:List Hf)(B:BM)(n:Nd):Prop:=∀c p q ha hb ha' hb',Hs[n.a]?=some ha→Hs[n.b]?=some hb→Stp t ha c p ha'→Stp t hb c q hb'→∃i j,Hs[i]?=some ha'∧Hs[j]?=some hb'∧Nd.ord ⟨i,j,n.l.aft p q⟩∈C7 B c
theorem a8G.mono{Hs Hs':List Hf}{B B':BM}{n:Nd}{w:By}(hn:NS t Hs w n)(hp:Hs<+:Hs')(hB:∀c m,m∈C7 B c→m∈C7 B' c)(h:a8G t Hs B n):a8G t Hs' B' n:=fun c p q ha hb ha' hb' h1 h2 h3 h4=>by obtain⟨u,v,xa,xb,n1,n2,_⟩:=hn;rw[Z6 hp n1]at h1;cases h1;rw[Z6 hp n2]at h2;cases h2;obtain⟨i,j,a,b,e⟩:=h c p q _ _ ha' hb' n1 n2 h3 h4;exact⟨i,j,Z6 hp a,Z6 hp b,hB _ _ e⟩
structure FoI(t:j9)(s0 s:I4)(w:By)(B:BM)(ns:List Nd)(j:Nat):Prop where
 hs:HSI t s
 pre:s0.1<+:s.1
 snd:∀c m,m∈C7 B c→NS t s.1 (w++[c]) m∧m.a≤m.b
 fol:∀n∈ns.take j,a8G t s.1 B n
 bd:Y7 (4096*j) B
theorem FoI.start{s:I4}(hs:HSI t s)(w:By)(ns:List Nd):FoI t s s w [] ns 0:=
 ⟨hs,a5h _,fun c m h=>(by cases h),fun n hn=>(by simp at hn),fun e he=>(by cases he)⟩
theorem c1g(ht:s5 t)(hs:Sm t){s:I4}(hi:HSI t s){B:BM}{n:Nd}{w:By}(hn:NS t s.1 w n){M:Nat}(hB:Y7 M B):Y7 (M+4096) (a0D t s B n).2:=by
 obtain⟨u,v,ha,hb,n1,n2,_⟩:=hn;obtain⟨a1,a2,_,a4,_⟩:=a7e ht hs hi n1;obtain⟨_,_,_,b4,_⟩:=a7e ht hs a1 (Z6 a2 n2);unfold a0D;split
 . exact hB.up i9
 . refine hB.b3q.up ?_;have:(L0 t s n.a).2.length*(L0 t (L0 t s n.a).1 n.b).2.length≤64*64:=a3w a4 b4;omega
theorem FoI.next(ht:s5 t)(hsm:Sm t){s0 s:I4}{w:By}{B:BM}{ns:List Nd}{j:Nat}(h:FoI t s0 s w B ns j)(hns:∀n∈ns,NS t s0.1 w n)(hj:j<ns.length):FoI t s0 (a0D t s B ns[j]).1 w (a0D t s B ns[j]).2 ns (j+1):=by
 have hn:NS t s.1 w ns[j]:=(hns _ (B7 hj)).mono h.pre;obtain⟨f1,f2,f3,f4,_,f6⟩:=c3Z ht hsm h.hs (B:=B) hn;refine⟨f1,h.pre.trans f2,fun c m hm=>?_,fun n hnm=>?_,?_⟩
 . rcases f4 c m hm with g|g
   . exact⟨(h.snd c m g).1.mono f2,(h.snd c m g).2⟩
   . exact g
 . rw[J2,l9 hj]at hnm;rcases G7.1 hnm with hnm|hnm
   . exact(h.fol n hnm).mono ((hns n (List.mem_of_mem_take hnm)).mono h.pre) f2 f3
   . simp only[a5P,F7]at hnm;subst hnm;intro c p q ha hb ha' hb' g1 g2 g3 g4;obtain⟨u,v,xa,xb,n1,n2,_⟩:=hn;rw[Z6 f2 n1]at g1;cases g1;rw[Z6 f2 n2]at g2;cases g2
     grind
 . have:=c1g ht hsm h.hs hn h.bd;omega
structure CI(t:j9)(Hs:List Hf)(Q:Nd→Prop)(B:BM)(d c0:Nat)(F:FT)(next:List O0)(c:Nat):Prop where
 sr:SrI t Hs F fun n=>Q n∨∃g∈next,n∈gn g
 hd:∀c':UInt8,c'.toNat<c→∀m∈C7 B c',Hdl F m
 nx:∀g∈next,GOk t Hs F (d+1) g∧(gn g).length≤K9 F
 ct:c0+next.length≤K9 F
structure NI(t:j9)(Hs:List Hf)(Q:Nd→Prop)(B:BM)(d c0:Nat)(next:List O0)(w:By)(c:UInt8)(L:List Nd)(F:FT)(nodes:List Nd)(j:Nat):Prop where
 sr:SrI t Hs F fun n=>(Q n∨∃g∈next,n∈gn g)∨n∈nodes
 hd:∀c':UInt8,c'.toNat<c.toNat→∀m∈C7 B c',Hdl F m
 hj:∀m∈L.take j,Hdl F m
 nx:∀g∈next,GOk t Hs F (d+1) g∧(gn g).length≤K9 F
 nd:∀m∈nodes,NS t Hs (w++[c]) m∧Rec F m
 ct:c0+next.length+nodes.length≤K9 F
theorem CI.enter{Hs:List Hf}{Q:Nd→Prop}{B:BM}{d c0:Nat}{F:FT}{next:List O0}{c:UInt8}(h:CI t Hs Q B d c0 F next c.toNat)(w:By)(L:List Nd):NI t Hs Q B d c0 next w c L F [] 0:=
 ⟨h.sr.mono fun n _ hp=>.inl (.inl hp),h.hd,fun m hm=>(by simp at hm),h.nx,fun m hm=>(by cases hm),by simpa using h.ct⟩
theorem b9v{α:Type}{L:List α}{j:Nat}(hj:j<L.length){m:α}(hm:m∈L.take (j+1)):m∈L.take j∨m=L[j]:=by
 rw[J2,l9 hj]at hm
 grind
theorem NI.skip{Hs:List Hf}{Q:Nd→Prop}{B:BM}{d c0:Nat}{F:FT}{next:List O0}{w:By}{c:UInt8}{L nodes:List Nd}{j:Nat}(h:NI t Hs Q B d c0 next w c L F nodes j)(hj:j<L.length)(hb:(Y0 F L[j]).1=false):
 (Y0 F L[j]).2=F∧NI t Hs Q B d c0 next w c L F nodes (j+1):=by
 unfold Y0 at hb⊢;split at hb
 . rename_i hbl;rw[if_pos hbl];exact⟨rfl,h.sr,h.hd,fun m hm=>(b9v hj hm).elim (h.hj m) fun e=>by rw[e];exact c4k h.sr hbl,h.nx,h.nd,h.ct⟩
 . cases hb
theorem NI.add{Hs:List Hf}{Q:Nd→Prop}{B:BM}{d c0:Nat}{F:FT}{next:List O0}{w:By}{c:UInt8}{L nodes:List Nd}{j:Nat}(h:NI t Hs Q B d c0 next w c L F nodes j)(hj:j<L.length)(hb:(Y0 F L[j]).1=true)(hn:NS t Hs (w++[c]) L[j]∧L[j].a≤L[j].b)(hc:¬Cls t Hs L[j]):
 NI t Hs Q B d c0 next w c L (Y0 F L[j]).2 (nodes++[L[j]]) (j+1):=by
 have hle:=FLe.rec F L[j];unfold Y0 at hb hle⊢;split at hb
 . cases hb
 . rename_i hbl;rw[if_neg hbl]at hle⊢;simp only at hle⊢;have hct:K9 (X1 F (L[j]).k (L[j]).l)=K9 F+1:=b2l _ _ _;refine⟨(c2C h.sr hn.1 hn.2 hc hbl).mono fun m _ hm=>?_,fun c' hc' m hm=>hle.hdl (h.hd c' hc' m hm),fun m hm=>(b9v hj hm).elim (fun g=>hle.hdl (h.hj m g)) fun e=>by rw[e];exact .inl b8r,fun g hg=>⟨(h.nx g hg).1.mono (a5h _) hle,by have:=(h.nx g hg).2;omega⟩,fun m hm=>?_,?_⟩
   . grind
   . rcases G7.1 hm with hm|hm
     . exact⟨(h.nd m hm).1,hle _ _ (h.nd m hm).2⟩
     . rw[F7]at hm;subst hm;exact⟨hn.1,b8r⟩
   . rw[a0u,a9E];have:=h.ct;omega
theorem b0x(F:FT)(n:Nd):K9 F≤K9 (Y0 F n).2:=by
 unfold Y0;split
 . exact m0 _
 . show K9 F≤K9 (X1 F n.k n.l);rw[b2l];omega
theorem c6N{c c':UInt8}(h:c'.toNat<c.toNat+1):c'.toNat<c.toNat∨c'=c:=by
 rcases a5M c'.toNat c.toNat with g|g
 . exact .inl g
 . exact .inr (a6F.1 i9)
theorem NI.leave{Hs Hs0:List Hf}{Q:Nd→Prop}{B:BM}{d c0:Nat}{F F0:FT}{next:List O0}{c:UInt8}{g:O0}{nodes:List Nd}(hg:GOk t Hs0 F0 d g)(h:NI t Hs Q B d c0 next (W8 g) c (C7 B c) F nodes (C7 B c).length):
 CI t Hs Q B d c0 F (if nodes=[]then next else next++[(nodes,c)::g]) (c.toNat+1):=by
 have hj:=h.hj;rw[J7]at hj;have hd:∀c':UInt8,c'.toNat<c.toNat+1→∀m∈C7 B c',Hdl F m:=fun c' hc' m hm=>by
  rcases c6N hc' with g1|rfl
  . exact h.hd c' g1 m hm
  . exact hj m hm
 split
 . rename_i he;subst he;exact⟨h.sr.mono fun n _ hp=>.inl (hp.elim id fun e=>by cases e),hd,h.nx,by have:=h.ct;omega⟩
 . rename_i he;have hnl:0<nodes.length:=a2k.2 he;refine⟨h.sr.mono fun n _ hp=>.inl ?_,hd,fun g' hg'=>?_,?_⟩
   . rcases hp with(hp|⟨g',h1,h2⟩)|hp
     . exact .inl hp
     . grind
     . exact .inr ⟨(nodes,c)::g,k7,hp⟩
   . rcases G7.1 hg' with hg'|hg'
     . exact h.nx g' hg'
     . rw[F7]at hg';subst hg';refine⟨⟨by rw[Z3,hg.1],fun m hm=>?_⟩,?_⟩
       . rw[hg.word];exact h.nd m hm
       . have:=h.ct;show nodes.length≤_;omega
   . rw[a0u,a9E];have:=h.ct;omega
theorem Stp.cell(ht:s5 t){h h':Hf}{c:UInt8}{p:By}(hb:HfB t h)(hs:Stp t h c p h'):c.toNat<63:=by
 have key:∀r∈t.rules,∀c∈cb r.cells,c.toNat<63:=fun r hr c hc=>by unfold cb at hc;obtain⟨k,hk,rfl⟩:=E9.1 hc;have:=b3R ht hr hk;rw[ofNat_toNat i9];exact this
 rcases hs with⟨h1,_,_⟩|⟨_,a,ha,h1,_,_⟩
 . have hm:=hb.2;rw[h1]at hm;rcases Z5.1 hm with e|e
   . cases e
   . obtain⟨r,hr,e⟩:=a2V.1 e;refine key r hr c ?_;rcases Z5.1 e with e|e
     . exact List.mem_of_mem_drop (by rw[←e];exact a2W)
     . exact List.mem_of_mem_drop (by rw[←F7.1 e];exact a2W)
 . obtain⟨l1,_,_,_⟩:=a3m ht hb.1 ha;have e:cls t a.1=t.rules[a.1].cells:=by unfold cls;rw[u9,l9 l1];rfl
   grind
theorem CI.done(ht:s5 t){s:I4}(hi:HSI t s){Q:Nd→Prop}{B:BM}{d c0:Nat}{F:FT}{next:List O0}{ns:List Nd}(h:CI t s.1 Q B d c0 F next 63)(hf:∀n∈ns,a8G t s.1 B n){Q':Nd→Prop}(hQ:∀n,Q n→Q' n∨n∈ns):CI t s.1 Q' B d c0 F next 0:=by
 refine⟨h.sr.mono fun n hn hp=>?_,fun c' hc'=>i9,h.nx,h.ct⟩;rcases hp with hp|hp
 . rcases hQ n hp with hp|hp
   . exact .inl (.inl hp)
   . right
     intro c p q ha hb ha' hb' h1 h2 h3 h4;obtain⟨i,j,a,b,e⟩:=hf n hp c p q ha hb ha' hb' h1 h2 h3 h4;exact⟨i,j,a,b,h.hd c (h3.cell ht (hi.hb ha (C8 h1))) _ e⟩
 . exact .inl (.inr hp)
theorem c0X(ht:s5 t){Hs:List Hf}{w:By}{n:Nd}(hn:NS t Hs w n)(hc:Cls t Hs n):∃x y,M7 t (w.map UInt8.toNat) x∧M7 t (w.map UInt8.toNat) y∧x≠y:=by obtain⟨u,v,ha,hb,n1,n2,n3,n4,n5⟩:=hn;obtain⟨h1,xa,xb,h2,h3,h4,h5⟩:=hc;rw[n1]at h2;cases h2;rw[n2]at h3;cases h3;exact⟨u,v,n3.lng ht h4,n4.lng ht h5,fun e=>h1 (by rw[n5,a5G];exact e)⟩
end
end Go.Proofs.YtbhfgadikmfjdaaGreat.T
