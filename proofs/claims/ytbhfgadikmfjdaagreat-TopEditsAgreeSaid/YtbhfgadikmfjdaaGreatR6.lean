/-
  The plain machine, that it is sound, and walks: part 6 (joined and shortened by a program of the prover's).
-/
import Derived.Test.YtbhfgadikmfjdaaGreatR5
import Derived.Test.YtbhfgadikmfjdaaGreatProg
import Derived.KernelRfl
set_option linter.unusedSimpArgs false
set_option linter.unusedVariables false
set_option linter.unusedSectionVars false
namespace Go.Proofs.YtbhfgadikmfjdaaGreat.T
open Go.Proofs.YtbhfgadikmfjdaaGreat.Am
def X57:u7:=
 ⟨51,[0,1,4,5,6,7,8,9,28,29,30],10,[(2,some (true,3))],sq [.reg [odc 2 5],.reg [oa 0,D9 0,ou 0 1,ob 1 2,E0 3,oa 1,Q8 5,oae 6 1,oc 3 4,oc 4 7],.reg [⟨.mv (.v 1),none,none,[6,7,8]⟩,obr 4 7 8,⟨.makeSlice 6 1 24 .nils (.l 1) (.l 1),none,none,[7,8]⟩,obr 4 6 8,⟨.makeSlice 7 1 8 (.int .i64 0) (.l 3) (.l 3),none,none,[6,8]⟩,⟨.build [.str ⟨#[]⟩,.nils,.nils] [(0,1,.l 0),(1,1,.l 2),(2,1,.l 4)],none,none,[8]⟩,⟨.alloc 8 [.str ⟨#[]⟩,.nils,.nils],some 5,none,[6,7]⟩,ok 3 6 5],.reg [oa 3,oa 4,ogb 0 1,oq (.makeSlice 9 1 8 (.int .i64 0) (.l 2) (.l 2)),oc 6 3],sq [.reg [ocf 8 4,ox 9 0],.block 0 (.loop (sq [kh 10 9 8,B6 10 0,.block 1 (sq [kg 9 7 0,.reg [od 1 5,ob 1 0,oa 7,oa 6,oa 7,oa 3,ogb 4 5,oa 7,oae 7 1,oa 3,ogb 8 9,oa 7,oae 11 1,oa 3,ogb 12 13,oq (.slice false 1 (.l 3) (some (.l 6)) (some (.l 10)) (some (.l 14))),oj 1 1 2,ok 1 16 15]]),kd 9 1 9 0]))],kam 3 5 3 2 0,ko]⟩
def X58:u7:=
 ⟨6,[0,1,2,3,4],12,[(4,none)],sq [.reg [F5 2 10 0,F5 3 11 1,ow 4 (.mv (.c (.lit .nilFunc)))],kao 96 3 2 4 0,ko]⟩
def X60:u7:=
 ⟨41,[0,1,3,4,6,24,26,27,28,29,39],1,[(3,none)],sq [kab 2 0 1 3,sq [.reg [od 1 2,ob 1 0,E0 1,od 0 2,ob 1 3,Q8 4,oae 5 1,odz 2 6,os 7,ov 2 2 8,ot 1 9 8,obi 10 8,ov 0 2 8,ot 1 12 8,⟨.len true (.l 13),none,some (.l 8,false),[]⟩,⟨.bin .add false (.l 14) (oi 1),none,some (.l 8,false),[]⟩,⟨.bin .neq false (.l 11) (.l 15),none,some (.l 8,false),[]⟩,U0 5 8 16],.cond (.v 5) (U4 3) kc],sq [.reg [od 1 2,V8 6 1 0,L9 7 1,ox 8 0],.block 0 (.loopS [0,6,7,8] 1 (sq [kh 9 8 7,B6 9 0,.block 1 (sq [kap 1 6 8 1 0 4 1,.reg [oa 4,E0 0,oa 0,D9 2,ou 0 3,ob 1 4,E0 5,obx 10 1 6],.cond (.v 10) (U4 3) kc]),kd 8 1 8 0]))],kz 3,ko]⟩
def X61:u7:=
 ⟨64,[0,1,2,3,4,6,7,8,9,10,11,16,30,44,61],2,[(5,none),(6,none)],sq [.reg [F5 3 0 0,F5 4 1 1,ox 5 0,oo 6],.reg [ox 7 0,oo 8],sq [kg 2 9 0,.block 0 (.loopS [2,3,4,7,8,9] 2 (sq [sq [.reg [oa 9,oa 2,oae 1 3,ow 11 (.bin .leq false (.l 0) (.l 2))],B6 11 0],.block 1 (sq [sq [.reg [od 1 3,ob 1 0,oa 9,oj 1 1 2,ob 1 3,od 1 4,ob 1 5,oa 9,oj 1 6 7,ob 1 8,U2 100 4 9 0 0,Z3 12 10],.cond (.v 12) (sq [.reg [ox 5 0,oo 6],ko]) kc],sq [.reg [od 2 3,ob 1 0,oa 9,oj 1 1 2,ob 1 3,ocb 4 0,os 5,ov 2 4 6,ot 1 7 6,L4 9 6,oci 1 8 9 6,ot 1 10 6,obt 11 0 6,U0 13 6 12],kav 13 1],.reg [od 2 4,ob 1 0,oa 9,oj 1 1 2,ob 1 3,od 2 3,ob 1 5,oa 9,oj 1 6 7,ob 1 8,ofz 4 9,oc 10 10],sq [.reg [oa 8,os 0,og 10 1,og 7 1,⟨.bin .neq false (.l 2) (.l 3),none,some (.l 1,true),[]⟩,P3 14 1 4],.cond (.v 14) (sq [.reg [ox 5 0,oo 6],ko]) kc],.reg [oa 10,oc 7 0,oba 8]]),ki 9 0 1 9 1]))],.reg [oa 7,oc 5 0,oba 6],ko]⟩
def X96:u7:=
 ⟨129,[0,1,2,4,5,6,7,8,9,11,12,13,14,16,23,24,25,43,52,53,54,55,59,60,61,62,76,93,97,98,99,100,104,105,106,107,124],15,[(3,none)],sq [kk 3 0,.reg [od 1 1,ob 1 0,oa 0,oj 1 1 2,ob 1 3,ow 4 (.alloc 12 [.nils]),ok 1 5 4],sq [.reg [E7 1 4,L9 14 0,ox 15 0],.block 0 (.loop (sq [kh 16 15 14,B6 16 0,.block 1 (sq [kg 15 5 0,.reg [E7 1 4,oa 5,oj 1 0 1,oq (.store 1 (.l 2) (oi (-1)))],.reg [oa 0,od 0 1,ob 1 1,Q8 2,ocj 0 3,os 4,ocg 1 2 5,obk 6 5,obc 1 7 5,oe 1 8 5,og 5 5,oas 1 9 10 5,oe 1 11 5,P3 17 5 12],.cond (.v 17) (.reg [E7 1 4,oa 5,oj 1 0 1,oq (.store 1 (.l 2) (oi 0))]) kc]),kd 15 1 15 0]))],.reg [oq (.mkfn (.func 97) [] [.v 4]),oc 6 0],sq [.reg [E7 1 2,D9 0,ou 0 1,V8 18 1 2,L9 19 3,ox 20 0],.block 2 (.loop (sq [kh 21 20 19,B6 21 2,.block 3 (sq [.reg [oa 20,U9 1 18 20,ob 1 1,oc 7 0,oc 8 2],ks 22 8 23 0 24 0,.block 4 (.loop (sq [kh 25 24 23,B6 25 4,.block 5 (sq [.reg [U9 3 22 24,L6 3 0,ow 9 (.alloc 13 [.str ⟨#[]⟩,.int .i64 0,.int .i64 0]),ok 3 2 1],.reg [od 0 9,ob 1 0,oeq 1,os 2,om 0 1 3,oe 1 4 3,og 0 3,⟨.slice true 0 (.l 5) (some (.l 6)) none none,none,some (.l 3,true),[]⟩,om 0 9 3,oe 1 8 3,⟨.call 95 [.l 7,.l 9] [(0,0)] true,none,some (.l 3,true),[]⟩,P3 26 3 10],.cond (.v 26) (.reg [oa 6,oa 7,oh 3 1,oa 0,od 0 9,ob 1 4,Q8 5,X2 3 6,od 2 9,ob 1 8,oq (.call 98 [.l 2,.l 7,.l 9] [(0,0)] false),od 1 9,ob 1 11,oq (.cally (.l 0) [.l 1,.l 10,.l 12])]) kc]),kd 24 1 24 0]))]),kd 20 1 20 0]))],sq [kz 10,.block 6 (.loop (sq [sq [.reg [ocf 27 10],B6 27 6],.block 7 (sq [kj 10,.reg [E7 1 2,D9 0,ou 0 1,V8 28 1 2,L9 29 3,ox 30 0],.block 8 (.loop (sq [kh 31 30 29,B6 31 8,.block 9 (sq [.reg [oa 30,U9 1 28 30,ob 1 1,oc 11 0,oc 12 2],ks 32 12 33 0 34 0,.block 10 (.loop (sq [kh 35 34 33,B6 35 10,.block 11 (sq [.reg [U9 3 32 34,L6 3 0,ow 13 (.alloc 14 [.str ⟨#[]⟩,.int .i64 0,.int .i64 0]),ok 3 2 1],.reg [od 0 13,ob 1 0,oq (.bin .eql false (.l 1) (.c (.str ⟨#[]⟩))),os 2,og 6 3,og 11 3,ocg 1 4 3,om 2 13 3,oe 1 7 3,oas 1 6 8 3,oe 1 9 3,om 1 13 3,oe 1 11 3,⟨.cally (.l 4) [.l 5,.l 10,.l 12],none,some (.l 3,true),[]⟩,P3 36 3 13],.cond (.v 36) (kz 10) kc]),kd 34 1 34 0]))]),kd 30 1 30 0]))])]))],.reg [E7 1 4,oce 99 0,oc 3 1],ko]⟩
def X97:u7:=
 ⟨33,[0,1,2,3,7,26],15,[(4,none)],sq [kj 4,sq [.reg [oa 1,ocb 0 0,os 1,⟨.load false 1 (.v 3),none,some (.l 2,false),[]⟩,L4 0 2,oci 1 3 4 2,ot 1 5 2,⟨.bin .geq false (.l 6) (oi 0),none,some (.l 2,false),[]⟩,ofo 7 2,ocg 1 3 8,og 0 8,oas 1 9 10 8,oe 1 11 8,og 1 8,og 2 8,⟨.bin .add false (.l 13) (.l 14),none,some (.l 8,true),[]⟩,oca 12 15 8,odn 8 16 2,U0 5 2 17],.cond (.v 5) (U4 4) kc],.reg [E7 1 3,oa 0,oa 1,oa 2,X2 2 3,oj 1 0 1,ok 1 5 4],kz 4,ko]⟩
def X98:u7:=
 ⟨30,[0,1,2,3,6,15],1,[(4,none)],sq [.reg [F5 3 0 0,ox 4 0],sq [.reg [od 1 3,ob 1 0,oa 1,oj 1 1 2,ob 1 3,oa 2,oj 1 4 5,ob 1 6,ofh 5 7 0],.cond (.v 5) (sq [.reg [odk 4],ko]) kc],.reg [od 2 3,ob 1 0,oa 1,oj 1 1 2,ob 1 3,od 1 3,ob 1 5,oa 1,oj 1 6 7,ob 1 8,oa 2,oj 1 9 10,ob 1 11,X2 4 12,oc 4 13],ko]⟩
def X99:u7:=
 ⟨44,[0,2,3,5,6,7,8,9,10,11,24,27,28,29,30,35],15,[(1,none)],sq [kk 1 0,.reg [odk 2],sq [ks 6 0 7 0 8 0,.block 0 (.loop (sq [kh 9 8 7,B6 9 0,.block 1 (sq [kap 1 6 8 1 0 3 1,.reg [oa 3,oea 0 0,os 1,og 2 2,obf 3 0 2,ofu 4 2,L4 3 5,L4 2 5,oda 6 7 5,odp 5 8 2,P3 10 2 9],.cond (.v 10) (kg 3 2 0) kc]),kd 8 1 8 0]))],sq [ks 11 0 12 0 13 0,.block 2 (.loop (sq [kh 14 13 12,B6 14 2,.block 3 (sq [.reg [oa 13,U9 1 11 13,ob 1 1,oc 4 0,oc 5 2],.reg [oa 5,odu 15 0 0],.cond (.v 15) (.reg [oa 0,oa 4,oa 5,oa 2,ofz 2 3,oj 1 0 1,ok 1 5 4]) kc]),kd 13 1 13 0]))],kg 2 1 0,ko]⟩
def a6l:u7:=
 ⟨26,[0,1,4,5,10,12,13,14,24],0,[(2,none)],sq [kj 2,sq [.reg [oa 0,E0 0,oa 1,E0 2,obx 4 1 3],.cond (.v 4) (U4 2) kc],sq [.reg [oa 0,L9 5 0,ox 6 0],.block 0 (.loopS [0,1,5,6] 0 (sq [kh 7 6 5,B6 7 0,.block 1 (sq [kg 6 3 0,.reg [oa 0,oa 3,oj 1 0 1,ob 1 2,oa 1,oa 3,oj 1 4 5,ob 1 6,obx 8 3 7],.cond (.v 8) (U4 2) kc]),kd 6 1 6 0]))],kz 2,ko]⟩
theorem c57:O1 Tryz.prog 57 5=some X57:=by kernel_rfl
theorem c58:O1 Tryz.prog 58 10=some X58:=by kernel_rfl
theorem c60:C4 60 X60:=C6
theorem c61:C4 61 X61:=C6
theorem c96:O1 Tryz.prog 96 12=some X96:=by kernel_rfl
theorem c97:O1 Tryz.prog 97 15=some X97:=by kernel_rfl
theorem c98:C4 98 X98:=C6
theorem c99:O1 Tryz.prog 99 15=some X99:=by kernel_rfl
theorem c100:C4 100 a6l:=C6
set_option maxHeartbeats 16000000
theorem d0p(a b:List Int)(p:a.length≤1100000000):F0 100 [0] [S3 a,S3 b] (B (decide (a=b))):=by
 refine E4 c100 0 (by simp[a6l]) fun Q d q=>?_;by_cases c:a.length=b.length
 . simp[a6l,c];refine I6 (fun(k:Nat) vs h=>k≤b.length∧(∀j,(hj:j<b.length)→j<k→a[j]'i9=b[j])∧vs=[S3 a,S3 b,.uu,.uu,.uu,IN b.length,IN k,.uu,.uu]∧h=[]) (fun k=>b.length-k) 0 ?_ ?_
   . simp
   . rintro k vs h ⟨g1,g2,rfl,rfl⟩ Q' m n o;by_cases g:k<b.length
     . have hw:=wk1 k i9;have i:k<a.length:=i9;by_cases f:a[k]=b[k]
       . simp[g,i,f,hw];refine m (k+1) _ _ i9 ?_;simp
         grind
       . have:¬a=b:=fun e=>f (by subst e;rfl);simp[g,i,f];refine o _ _ ?_;simp;refine d _ _ ?_;simp[a6l,this]
     . obtain rfl:k=b.length:=i9;have:a=b:=W3 c fun j h1 l=>g2 j l l;simp;refine n _ _ _ ?_;simp;refine d _ _ ?_;simp[a6l,this]
 . simp[a6l,c];refine d _ _ ?_;have:¬a=b:=fun e=>c (by rw[e]);simp[a6l,this]
theorem c4W(m:Mem)(p k:Nat)(r:List Int)(c x:Int)(hr:m.rows[p]?=some r)(a:r[k]?=some c)(b:m.least[p]?=some x)(hb:Bnd 4611686018427387904 r x):
 F0 98 [0] [MM m,IN p,IN k] (I (if c<0 then-1 else x+c)):=by
 refine E4 c98 1 (by simp[X98]) fun Q d l=>?_;have e:=(B8.1 hr).1;have f:=(B8.1 a).1;have i:=(B8.1 b).1;have g:m.rows[p]=r:=(B8.1 hr).2;have h:r[k]=c:=(B8.1 a).2;have j:m.least[p]=x:=(B8.1 b).2;by_cases h0:c<0
 . simp[X98,e,f,g,h,h0];refine d _ _ ?_;simp[X98];omega
 . have h1:=hb.sum c (D4 a) i9;have n:=hb.lo;have hw:IntKind.i64.wrap (x+c)=x+c:=I9;simp[X98,e,f,i,g,h,j,h0,hw];refine d _ _ ?_;simp[X98];omega
theorem c4U(t:j9)(m:Mem)(L:Int)(h:MOk (j4 t).length L m)(hs:m.text.length≤1100000000)(acc:PV):F0 60 [0] [.fptr [.slc ((gL (L1 t) t).map (SV t)),acc],MM m] (B true):=by
 have b:(gL (L1 t) t).length=(j4 t).length:=by simp[gL]
 have hw:=wk1 m.text.length i9;have c:=h.rl;have d:=h.ll;refine E4 c60 1 (by simp[X60]) fun Q e n=>?_;have o:((m.rows.length:Nat):Int)=(m.text.length:Int)+1:=i9;simp[X60,c,d,hw];refine I6 (fun(k:Nat) vs h=>k≤m.text.length+1∧vs=[.fptr [.slc ((gL (L1 t) t).map (SV t)),acc],.uu,.uu,.uu,.uu,.uu,.slc (m.rows.map S3),IN (m.text.length+1),IN k,.uu,.uu]∧h=[dd]) (fun k=>m.text.length+1-k) 0 ?_ ?_
 . simp
 . rintro k vs h ⟨g1,rfl,rfl⟩ Q' f g p;by_cases q:k<m.text.length+1
   . have i:(k:Int)<(m.text.length:Int)+1:=i9;have j:=wk1 k i9;have a:k<m.rows.length:=i9;have l:m.rows[k].length=(j4 t).length:=h.cl _ (B7 a);simp[i,a,l,b,j];refine f (k+1) _ _ i9 ?_;simp;omega
   . obtain rfl:k=m.text.length+1:=i9;simp;refine g _ _ _ ?_;simp;refine e _ _ ?_;simp[X60]
theorem c5C(m w:Mem)(S:Nat)(L:Int)(i:Nat)(h1:MOk S L m)(l:MOk S L w)(hi:i+3≤m.text.length)(K:i+3≤w.text.length)(M:m.text.length≤1100000000)(N:w.text.length≤1100000000)(O:0≤L)(P:L≤1000000000000000)(hS:S≤3072):
 ∃r,(∃d b,r=.tup [I d,B b]∧ -(J5 L m.text.length 0+J5 L w.text.length 0)≤d∧d≤J5 L m.text.length 0+J5 L w.text.length 0)∧F0 61 [0,0] [MM m,MM w,IN i] r:=by
 have s:IntKind.i64.wrap ((i:Int)+3)=(i:Int)+3:=I9;have y:0≤J5 L m.text.length 0∧J5 L m.text.length 0≤100000000000000000:=by unfold J5 Wd;omega
 have z:0≤J5 L w.text.length 0∧J5 L w.text.length 0≤100000000000000000:=by unfold J5 Wd;omega
 obtain⟨A,t⟩:=p7 (J5 L m.text.length 0);obtain⟨C,u⟩:=p7 (J5 L w.text.length 0);rw[←t]at y⊢;rw[←u]at z⊢;have R:=h1.rl;have T:=h1.ll;have U:=l.rl;have V:=l.ll;have D:∀j,(hj:j<m.least.length)→ -A≤m.least[j]∧m.least[j]≤A:=fun j hj=>by
  have h:=h1.bd j i9;have e:m.least.getD j 0=m.least[j]:=by grind
  rw[e]at h;have E:=h.lo;have F:=h.up;have:J5 L m.text.length j≤A:=by rw[t];unfold J5 Wd;omega
  omega
 have G:∀j,(hj:j<w.least.length)→ -C≤w.least[j]∧w.least[j]≤C:=fun j hj=>by
  have h:=l.bd j i9;have e:w.least.getD j 0=w.least[j]:=by grind
  rw[e]at h;have E:=h.lo;have F:=h.up;have:J5 L w.text.length j≤C:=by rw[u];unfold J5 Wd;omega
  omega
 refine a1C mixed (X:=X61) c61 4 (by simp[X61]) (by kernel_rfl) fun Q n W=>?_;simp[X61];refine I6 (fun(q:Nat×Int×Bool) vs h=>q.1≤i+4∧i≤q.1∧(-(A+C)≤q.2.1∧q.2.1≤A+C)∧vs=[.uu,.uu,IN i,.ptr 2 1 0,.ptr 3 1 0,.uu,.uu,I q.2.1,B q.2.2,IN q.1,.uu,.uu,.uu,.uu,.uu]∧h=[dd,dd,(1,.var [St m.text,.slc (m.rows.map S3),.slc (m.least.map I)]),(1,.var [St w.text,.slc (w.rows.map S3),.slc (w.least.map I)])]) (fun q=>i+4-q.1) (i,0,false) ?_ ?_
 . simp;omega
 . rintro⟨j,d,b⟩ vs h ⟨g1,g2,⟨g3,g4⟩,rfl,rfl⟩ Q' g H v;dsimp only at g1 g2 g3 g4;by_cases hj:j≤i+3
   . have o:(j:Int)≤(i:Int)+3:=i9;have c:=wk1 j i9;have x:j<m.rows.length:=i9;have J:j<w.rows.length:=i9;have a:j<m.least.length:=i9;have f:j<w.least.length:=i9;have heq:=d0p m.rows[j] w.rows[j] (by have:=h1.cl _ (B7 x);omega);have Y:=D j a;have Z:=G j f;have p:IntKind.i64.wrap (w.least[j]-m.least[j])=w.least[j]-m.least[j]:=I9;simp[s,o,x,J];refine m6 heq ?_;by_cases he:m.rows[j]=w.rows[j]
     . by_cases h0:m.least[j]<0
       . simp[he,a,h0,c];refine g (j+1,d,b) _ _ i9 ?_;simp;omega
       . by_cases k:w.least[j]<0
         . simp[he,a,f,h0,k,c];refine g (j+1,d,b) _ _ i9 ?_;simp;omega
         . cases b with
           |false=>
            simp[he,a,f,h0,k,c,p];refine g (j+1,w.least[j]-m.least[j],true) _ _ i9 ?_;simp;omega
           |true=>
            by_cases hd:w.least[j]-m.least[j]=d
            . subst hd;simp[he,a,f,h0,k,c,p];refine g (j+1,w.least[j]-m.least[j],true) _ _ i9 ?_;simp;omega
            . simp[he,a,f,h0,k,c,p,hd];refine v _ _ ?_;simp;refine n (.tup [I 0,B false]) _ _ ⟨0,false,rfl,i9,i9⟩ ?_;simp[X61]
     . simp[he];refine v _ _ ?_;simp;refine n (.tup [I 0,B false]) _ _ ⟨0,false,rfl,i9,i9⟩ ?_;simp[X61]
   . have o:¬(j:Int)≤(i:Int)+3:=i9;simp[s,o];refine H _ _ _ ?_;simp;refine n (.tup [I d,B true]) _ _ ⟨d,true,rfl,i9,i9⟩ ?_;simp[X61]
abbrev OE(S n p:Nat):PV:=.osl 9 1 (S*(n+1)) 1 (p*S) S
def M5(S n i:Nat):List PV:=(List.range (n+1)).map fun p=>if p<i then OE S n p else .nils
theorem d0d(S n:Nat):M5 S n 0=List.replicate (n+1) .nils:=by refine W3 (by simp[M5]) fun i h1 a=>?_;simp[M5]
@[simp] theorem d1T(S n i:Nat):(M5 S n i).length=n+1:=by simp[M5]
theorem a5X{S n i p:Nat}(hp:p≤n)(h:p<i):(M5 S n i)[p]?=some (OE S n p):=by simp only[M5,H6,List.getElem?_range (show p<n+1 by omega),a2o,if_pos h]
theorem c2o{S n i p:Nat}(hp:p≤n)(h:i≤p):(M5 S n i)[p]?=some .nils:=by simp only[M5,H6,List.getElem?_range (show p<n+1 by omega),a2o,if_neg (show¬p<i by omega)]
theorem c3N{S n i:Nat}(hi:i≤n):(M5 S n i).set i (OE S n i)=M5 S n (i+1):=by
 refine W3 l5 fun j h1 a=>?_;rw[a3w];simp only[M5,a0b,a3Y];by_cases h:i=j
 . subst h;simp
 . grind
abbrev GVP(t:j9):PV:=.fptr [.slc ((gL (L1 t) t).map (SV t)),.slc ((N6 t).map B)]
abbrev MC(s:By):List PV:=[St s,.own 6 1 (s.length+1) 1 0 (s.length+1),.own 7 1 (s.length+1) 1 0 (s.length+1)]
theorem b5I(t:j9)(s:By)(hs:s.length≤1100000000)(c:(j4 t).length≤3072)(r0 r1 r2 r3 r4 R10 R11 R12 R13 R14:Row):
 FI Tryz.prog (.fn (.func 57) [] []) [GVP t,St s] [r0,r1,r2,r3,r4,dd,dd,dd,dd,dd,R10,R11,R12,R13,R14] (.agg (MC s))
  [(5,(1,.var (MC s))),(6,(1,.arr 1 (s.length+1) false (M5 (j4 t).length s.length (s.length+1)))),(7,(1,.arr 1 0 false (List.replicate (s.length+1) (I 0)))),(8,(1,.var (MC s))),(9,(1,.arr 1 0 false (List.replicate ((j4 t).length*(s.length+1)) (I 0))))]:=by
 have d:(gL (L1 t) t).length=(j4 t).length:=by simp[gL]
 obtain⟨S,hS⟩:=p7 ((j4 t).length);rw[←hS]at d c⊢;have hw:=wk1 s.length i9;obtain⟨N,a⟩:=p7 (S*(s.length+1));have K:N≤3072*1100000001:=a▸a5S c i9;have e:(S:Int)*((s.length:Int)+1)=(N:Int):=by rw[a];simp
 have f:IntKind.i64.wrap ((S:Int)*((s.length:Int)+1))=(N:Int):=by rw[e];exact wrap_ok i9 i9
 have g:(0:Int)≤(s.length:Int)+1:=i9;have j:((s.length:Int)+1)*24≤140737488355328:=i9;have k:((s.length:Int)+1)≤9223372036854775807:=i9;have l:((s.length:Int)+1)*8≤140737488355328:=i9;have m:(N:Int)*8≤140737488355328:=i9;have q:N≤9223372036854775807:=i9;have r:s.length+1≤9223372036854775807:=i9;refine b1l mixed (X:=X57) c57 (by simp[X57]) l5 fun Q u L=>?_;simp[X57,d,hw,g,j,k,l,m,q,r,f];rw[←d0d S];refine E3 (fun(x:Nat×PV×PV) vs h=>x.1≤s.length+1∧vs=[GVP t,St s,.ptr 5 1 0,IN S,.int .i64 ((s.length:Int)+1),.ptr 8 1 0,.own 9 1 N 1 0 N,x.2.1,.int .i64 ((s.length:Int)+1),IN x.1,x.2.2]∧
  h=[r0,r1,r2,r3,r4,(1,.var [St [],.nils,.nils]),(1,.arr 1 x.1 false (M5 S s.length x.1)),(1,.arr 1 0 false (List.replicate (s.length+1) (I 0))),(1,.var (MC s)),(1,.arr 1 0 false (List.replicate N (I 0))),R10,R11,R12,R13,R14]) (fun x=>s.length+1-x.1) (0,.uu,.uu) ⟨D6 _,rfl,rfl⟩ ?_
 rintro⟨i,w7,w10⟩ vs h ⟨g1,rfl,rfl⟩ Q' v w M;dsimp only at g1;by_cases hi:i<s.length+1
 . have y:(i:Int)<(s.length:Int)+1:=i9;have z:=wk1 i i9;have hm:=a5p (S:=S) (n:=s.length) (p:=i) i9;rw[←a]at hm;obtain⟨o,b⟩:=p7 (i*S);rw[←b]at hm;have A:(i:Int)*(S:Int)=(o:Int):=(by rw[b];simp);have B:((i:Int)+1)*(S:Int)=((o+S:Nat):Int):=(by grind);have C:IntKind.i64.wrap (o:Int)=(o:Int):=I9;have D:IntKind.i64.wrap ((o:Int)+(S:Int))=(o:Int)+(S:Int):=I9;have l1:(o:Int)≤(o:Int)+(S:Int):=i9;have E:(o:Int)+(S:Int)≤(N:Int):=i9;have F:((o:Int)+(S:Int)).toNat=o+S:=i9;have G:o+S-o=S:=i9;have H:(M5 S s.length i)[i]'I2=.nils:=by
    have:=c2o (S:=S) (n:=s.length) (i:=i) (p:=i) i9 (m9 _);exact(B8.1 this).2
   have J:(M5 S s.length i).set i (.osl 9 1 N 1 o S)=M5 S s.length (i+1):=(by rw[a,b];exact c3N i9);simp[y,hi,z,A,B,C,D,l1,E,F,G,H,J];exact v (i+1,_,_) _ _ i9 ⟨s5,rfl,rfl⟩
 . obtain rfl:i=s.length+1:=i9;simp;refine w _ _ _ ?_;simp;refine u _ _ ?_;simp[M6,X57,←a]
theorem b5K(t:j9)(s:By)(r0 r1 r2 r3 r4 r5 r6 a b c R12 R13 R14:Row):
 FI Tryz.prog (.fn (.func 58) [] []) [GVP t,.agg (MC s)] [r0,r1,r2,r3,r4,r5,r6,a,b,c,dd,dd,R12,R13,R14] (.fn (.func 96) [] [.ptr 11 1 0,.ptr 10 1 0]) [(10,(1,.var [GVP t])),(11,(1,.var (MC s)))]:=by
 refine b1l mixed (X:=X58) c58 (by simp[X58]) l5 fun Q d e=>?_;simp[X58];refine d _ _ ?_;simp[M6,X58]
theorem c0c(N:Nat)(G:List Int)(o S k g12 v9:Nat)(rest:Int)(cells:Nat)(r0 r1 r2 r3 r4 r5 r6 j l r10 m R13 R14:Row)(d:G.length=N)(q:o+S≤N)(e:k<S)(hr:rest≤4611686018427387904)(r:cells≤4)(n:N≤4611686018427387904):
 FI Tryz.prog (.fn (.func 97) [] [.ptr 12 g12 0]) [IN k,I rest,IN cells] [r0,r1,r2,r3,r4,r5,r6,j,l,(1,.arr 1 v9 false (G.map I)),r10,m,(g12,.var [.osl 9 1 N 1 o S]),R13,R14] (B (a1a G (o+k) rest cells).2) [(9,(1,.arr 1 v9 false ((a1a G (o+k) rest cells).1.map I)))]:=by
 have f:o+k<N:=i9;have p:G.getD (o+k) 0=G[o+k]:=by grind
 refine b1l mixed (X:=X97) c97 (by simp[X97]) l5 fun Q b n=>?_;by_cases h0:rest<0
 . have a:a1a G (o+k) rest cells=(G,false):=if_neg (fun h=>by omega);simp[X97,h0,a];refine b _ _ ?_;simp[M6,X97,a,H9]
 . have hw:IntKind.i64.wrap (rest+(cells:Int))=rest+(cells:Int):=I9;by_cases h1:G[o+k]<0
   . have c:¬0≤G[o+k]:=i9;have a:a1a G (o+k) rest cells=(G.set (o+k) (rest+cells),true):=if_pos ⟨i9,.inl i9⟩;simp[X97,h0,a,e,f,d,h1,c,hw];refine b _ _ ?_;simp[M6,X97,a,H9]
   . have c:0≤G[o+k]:=i9;by_cases i:rest+(cells:Int)<G[o+k]
     . have g:¬G[o+k]≤rest+(cells:Int):=i9;have a:a1a G (o+k) rest cells=(G.set (o+k) (rest+cells),true):=if_pos ⟨i9,.inr i9⟩;simp[X97,h0,a,e,f,d,h1,c,i,g,hw];refine b _ _ ?_;simp[M6,X97,a,H9]
     . have g:G[o+k]≤rest+(cells:Int):=i9;have a:a1a G (o+k) rest cells=(G,false):=if_neg (fun h=>by rw[p]at h;omega);simp[X97,h0,a,e,f,d,h1,c,i,g,hw];refine b _ _ ?_;simp[M6,X97,a,H9]
theorem c7C(N:Nat)(G:List Int)(o S v9:Nat)(r0 r1 r2 r3 r4 r5 r6 n p r10 s R12 R13 R14:Row)(e:G.length=N)(U:o+S≤N)(H:N≤4611686018427387904)(hb:∀c∈F4 G o S,c≤4611686018427387904):
 ∃r ws,(∃G',r=I (a1A (F4 G o S))∧ws=[(9,(1,.arr 1 v9 false (G'.map I)))]∧Els o S G G'∧F4 G' o S=a9V (F4 G o S))∧
 FI Tryz.prog (.fn (.func 99) [] []) [.osl 9 1 N 1 o S] [r0,r1,r2,r3,r4,r5,r6,n,p,(1,.arr 1 v9 false (G.map I)),r10,s,R12,R13,R14] r ws:=by
 obtain⟨C,g⟩:=p7 (F4 G o S);have J:C.length=S:=g▸a2V i9;have K:∀k,(a:k<S)→C[k]'i9=G[o+k]'i9:=fun k a=>by subst g;exact b9k i9 a
 have L:∀k,k<S→G.getD (o+k) 0=C.getD k 0:=fun k a=>by rw[g,b0s a]
 obtain⟨ls,t⟩:=p7 (a1A C);have y:=c0k C;rw[←g]at hb⊢;rw[←t]at y⊢;refine b5q mixed (X:=X99) c99 (by simp[X99]) l5 (by kernel_rfl) fun Q M H=>?_;simp[X99];refine E3 (fun(x:Nat×PV×PV×PV) vs h=>x.1≤S∧vs=[.osl 9 1 N 1 o S,I 0,I (a1A (C.take x.1)),x.2.1,.uu,.uu,.osl 9 1 N 1 o S,IN S,IN x.1,x.2.2.1,x.2.2.2,.uu,.uu,.uu,.uu,.uu]∧h=[r0,r1,r2,r3,r4,r5,r6,n,p,(1,.arr 1 v9 false (G.map I)),r10,s,R12,R13,R14]) (fun x=>S-x.1) (0,.uu,.uu,.uu) ⟨D6 _,rfl,rfl⟩ ?_;rintro⟨k,w3,w9,w10⟩ vs h ⟨g1,rfl,rfl⟩ Q' f O V;dsimp only at g1;by_cases a:k<S
 . have i:=wk1 k i9;have l:o+k<N:=i9;have P:=K k a;have b:a1A (C.take (k+1))=if 0≤G[o+k]∧(a1A (C.take k)<0∨G[o+k]<a1A (C.take k))then G[o+k]else a1A (C.take k):=by
    unfold a1A;rw[L3,m7 i9,P,b1J];rfl
   generalize a1A (C.take k)=m at b f⊢;by_cases h0:0≤G[o+k]
   . by_cases h1:m<0
     . rw[if_pos ⟨h0,.inl h1⟩]at b;simp[a,l,e,h0,h1,i];exact f (k+1,_,_,_) _ _ i9 ⟨s5,by rw[b];rfl,rfl⟩
     . by_cases d:G[o+k]<m
       . rw[if_pos ⟨h0,.inr d⟩]at b;simp[a,l,e,h0,h1,d,i];exact f (k+1,_,_,_) _ _ i9 ⟨s5,by rw[b];rfl,rfl⟩
       . rw[if_neg (fun h=>h.2.elim h1 d)]at b;simp[a,l,e,h0,h1,d,i];exact f (k+1,_,_,_) _ _ i9 ⟨s5,by rw[b];rfl,rfl⟩
   . rw[if_neg (fun h=>h0 h.1)]at b;simp[a,l,e,h0,i];exact f (k+1,_,_,_) _ _ i9 ⟨s5,by rw[b];rfl,rfl⟩
 . obtain rfl:k=S:=i9;rw[S7 i9,←t];simp;refine O _ _ _ ?_;simp;refine E3 (fun(x:Nat×List Int×PV×PV×PV×PV) vs h=>x.1≤k∧Els o k G x.2.1∧(∀j,j<k→x.2.1.getD (o+j) 0=if j<x.1∧0≤C.getD j 0 then C.getD j 0-ls else C.getD j 0)∧
    vs=[.osl 9 1 N 1 o k,I 0,I ls,w3,x.2.2.1,x.2.2.2.1,.osl 9 1 N 1 o k,IN k,IN k,.bool false,w10,.osl 9 1 N 1 o k,IN k,IN x.1,x.2.2.2.2.1,x.2.2.2.2.2]∧h=[r0,r1,r2,r3,r4,r5,r6,n,p,(1,.arr 1 v9 false (x.2.1.map I)),r10,s,R12,R13,R14]) (fun x=>k-x.1) (0,G,.uu,.uu,.uu,.uu) ⟨D6 _,.refl _ _ _,fun j hj=>by rw[if_neg i9];exact L j hj,rfl,rfl⟩ ?_
   rintro⟨q,A,w4,w5,w14,w15⟩ vs h ⟨g2,g3,g4,rfl,rfl⟩ Q2 z R W;dsimp only at g2 g3 g4;have B:A.length=N:=g3.1.trans e;by_cases u:q<k
   . have D:=wk1 q i9;have E:o+q<N:=i9;have F:A[o+q]=C.getD q 0:=(by grind);have Y:C.getD q 0≤4611686018427387904:=hb _ (by rw[u9,m7 i9];exact B7 _);by_cases h0:0≤C.getD q 0
     . have Z: -1≤ls∧ls≤4611686018427387904:=by
        rcases y with⟨h1,_⟩|⟨h1,d,_⟩
        . omega
        . have:=hb _ d;omega
       have T:IntKind.i64.wrap (C.getD q 0-ls)=C.getD q 0-ls:=I9;generalize C.getD q 0=c at*;simp[u,E,B,F,h0,D,T];refine z (q+1,A.set (o+q) (c-ls),_,_,_,_) _ _ i9 ⟨s5,g3.trans (.set u),fun j hj=>?_,rfl,by rw[H9]<;>rfl⟩;dsimp only;rw[a3x];have v:=g4 j hj;by_cases w:j=q
       . subst w
         grind
       . rw[if_neg i9,v]
         grind
     . generalize C.getD q 0=c at*;simp[u,E,B,F,h0,D];refine z (q+1,A,_,_,_,_) _ _ i9 ⟨s5,g3,fun j hj=>?_,rfl,rfl⟩;dsimp only;rw[g4 j hj];by_cases w:j=q
       . subst w
         grind
       . grind
   . obtain rfl:q=k:=i9;simp;refine R _ _ _ ?_;simp;refine M (I ls) [(9,(1,.arr 1 v9 false (A.map I)))] _ _ ⟨A,rfl,rfl,g3,?_⟩ ?_
     . refine W3 (by rw[a2V i9];simp[a9V,J]) fun j h1 d=>?_;rw[a2V i9]at h1;have v:=g4 j h1;rw[←b0s h1,u9,m7 (by rw[a2V i9];exact h1)]at v;simp only[a9V,a0b,←t];have aa:C.getD j 0=C[j]:=by grind
       grind
     . simp[M6,X99]
theorem b6G{S n N v6 v9:Nat}{A:List Int}{r0 r1 r2 r3 r4 r5 R7 b R10 R11 R12 R13 R14:Row}(f:N=S*(n+1))(g:A.length=N):
 fzC (l8 [r0,r1,r2,r3,r4,r5,(1,.arr 1 v6 false (M5 S n (n+1))),R7,b,(1,.arr 1 v9 false (A.map I)),R10,R11,R12,R13,R14] []) (.own 6 1 (n+1) 1 0 (n+1))=.slc ((U1 S n A).map S3):=by
 have j:(A.map I).all D5=true:=B0.2 fun x a=>by obtain⟨c,_,rfl⟩:=E5.1 a;rfl
 have he:∀p,p≤n→fzO (l8 [r0,r1,r2,r3,r4,r5,(1,.arr 1 v6 false (M5 S n (n+1))),R7,b,(1,.arr 1 v9 false (A.map I)),R10,R11,R12,R13,R14] []) (OE S n p)=S3 (F4 A (p*S) S):=fun p hp=>by
  have hm:=a5p (S:=S) hp;show(if _ then _ else _)=_;rw[if_pos ⟨rfl,by rw[N5,g,f],rfl,hm,j⟩];have e:(A.map I).map B4=A.map I:=by rw[a1w];exact K3 fun _ _=>rfl
  simp only[F4,S3,a1X,a1J,e]
 have k:∀x∈M5 S n (n+1),∃p,p≤n∧x=OE S n p:=fun x a=>by obtain⟨p,hp,rfl⟩:=E5.1 a;have:=a1v.1 hp;exact⟨p,i9,if_pos i9⟩
 have l:¬((M5 S n (n+1)).all D5=true):=fun h=>by have h1:=a5X (S:=S) (n:=n) (i:=n+1) (p:=0) i9 i9;have:=B0.1 h _ (D4 h1);cases this
 show(if _ then(if _ then _ else if _ then _ else _)else _)=_;rw[if_pos ⟨rfl,l5,rfl,i9⟩,if_neg l,if_pos ⟨rfl,B0.2 fun x a=>by obtain⟨p,hp,rfl⟩:=k x a;rw[he p hp];rfl⟩];congr 1;rw[a9C,S7 l5];refine W3 (by simp[U1]) fun p h1 m=>?_;have hp:p≤n:=by simp at h1;omega
 have d:=a5X (S:=S) (n:=n) (i:=n+1) (p:=p) hp i9;rw[m7 I2]at d;rw[a0b,a0c d,he p hp,a0b,b0r hp]
theorem b5C{S n v6 v7 v9:Nat}{A:List PV}{Ls:List Int}{r0 r1 r2 r3 r4 r5 b R10 R11 R12 R13 R14:Row}(a:Ls.length=n+1):
 fzC (l8 [r0,r1,r2,r3,r4,r5,(1,.arr 1 v6 false (M5 S n (n+1))),(1,.arr 1 v7 false (Ls.map I)),b,(1,.arr 1 v9 false A),R10,R11,R12,R13,R14] []) (.own 7 1 (n+1) 1 0 (n+1))=.slc (Ls.map I):=by
 have d:(Ls.map I).all D5=true:=B0.2 fun x e=>by obtain⟨c,_,rfl⟩:=E5.1 e;rfl
 show(if _ then(if _ then _ else _)else _)=_;rw[if_pos ⟨rfl,by rw[N5,a],rfl,i9⟩,if_pos d];congr 1;rw[a9C,S7 (by simp[a]),a1w];exact K3 fun _ _=>rfl
structure CWv where
 (w0 w1 w2 w3 w4 w5 w6 w7 w8 w9 w10 w11 w12 w13 w14 w15 w16 w17 w18 w19 w20 w21:PV)
abbrev HV(S n:Nat)(s:By)(v6 v7 v9 g12:Nat)(Ls A:List Int)(a:PV)(o N:Nat)(r0 r1 r2 r3 r4 r5 b R13 R14:Row):l7:=
 [r0,r1,r2,r3,r4,r5,(1,.arr 1 v6 false (M5 S n (n+1))),(1,.arr 1 v7 false (Ls.map I)),b,(1,.arr 1 v9 false (A.map I)),(1,.var [a]),(1,.var [St s,.own 6 1 (n+1) 1 0 (n+1),.own 7 1 (n+1) 1 0 (n+1)]),(g12,.var [.osl 9 1 N 1 o S]),R13,R14]
theorem b5B(t:j9)(y:s8 t)(s:By)(hs:s.length≤1100000000)(Ls G:List Int)(aQ:Ls.length=s.length+1)(z:G.length=(j4 t).length*(s.length+1))(L:Int)(bx:0≤L)(bz:L≤1000000000000000)(i:Nat)(hi:i≤s.length)
 (hb:∀p,i<p→p≤s.length→Bnd (J5 L s.length p) (F4 G (p*(j4 t).length) (j4 t).length) (Ls.getD p 0)) (v6 v7 v9:Nat) (r0 r1 r2 r3 r4 r5 f R12 R13 R14:Row):
 ∃r ws,(∃x G' R12' R13' R14',r=I x∧ws=[(9,(1,.arr 1 v9 false (G'.map I))),(12,R12'),(13,R13'),(14,R14')]∧Els (i*(j4 t).length) (j4 t).length G G'∧Bnd (J5 L s.length i) (F4 G' (i*(j4 t).length) (j4 t).length) x)∧
 FI Tryz.prog (.fn (.func 96) [] [.ptr 11 1 0,.ptr 10 1 0]) [IN i] [r0,r1,r2,r3,r4,r5,(1,.arr 1 v6 false (M5 (j4 t).length s.length (s.length+1))),(1,.arr 1 v7 false (Ls.map I)),f,(1,.arr 1 v9 false (G.map I)),(1,.var [GVP t]),(1,.var (MC s)),R12,R13,R14] r ws:=by
 have aA:=a0G y;have af:(gL (L1 t) t).length=(j4 t).length:=by simp[gL]
 have aR:(N6 t).length=(j4 t).length:=by simp[N6]
 obtain⟨S,hS⟩:=p7 ((j4 t).length);have aB:∀k,(d:k<S)→∀a∈(gL (L1 t) t)[k]'i9,a.1<t.rules.length∧a.2<S:=fun k d a C=>by simp only[gL,a0b]at C;rw[hS];exact b1U y (B7 i9) (n:=t.rules.length) C (m9 _)
 have aC:∀k,(d:k<S)→((gL (L1 t) t)[k]'i9).length≤64:=fun k d=>by simp only[gL,a0b];have:=a8j (g:=L1 t) ((j4 t)[k]'i9) t.rules.length;have:=y.l64;omega
 rw[←hS]at aA af aR z hb⊢;obtain⟨N,E⟩:=p7 (S*(s.length+1));have bA:N≤3072*1100000001:=E▸a5S aA i9;rw[←E]at z;obtain⟨o,Y⟩:=p7 (i*S);have hm:=a5p (S:=S) hi;rw[←Y,←E]at hm;have aS:(i:Int)<(s.length:Int)+1:=i9;have aT:i<s.length+1:=i9;have aU:(M5 S s.length (s.length+1))[i]'I2=.osl 9 1 N 1 o S:=by have:=a5X (S:=S) (n:=s.length) (i:=s.length+1) (p:=i) i9 i9;rw[E,Y];exact(B8.1 this).2
 rw[←Y];obtain⟨b,ag⟩:=p7 (J5 L s.length i);have bB:Wd≤b∧b≤100000000000000000:=by rw[ag];unfold J5 Wd;omega
 rw[←ag];refine b5q mixed (X:=X96) c96 (by simp[X96]) l5 (by kernel_rfl) fun Q aV bC=>?_;simp[X96,aS,aT,aU];refine E3 (fun(x:Nat×List Int×PV×PV×PV) vs h=>x.1≤S∧Els o S G x.2.1∧(∀j,j<x.1→x.2.1.getD (o+j) 0≤0)∧
  vs=[IN i,.ptr 11 1 0,.ptr 10 1 0,I 0,.ptr 12 (R12.1+1) 0,x.2.2.1,.uu,.uu,.uu,.uu,.uu,.uu,.uu,.uu,IN S,IN x.1,x.2.2.2.1,x.2.2.2.2,.uu,.uu,.uu,.uu,.uu,.uu,.uu,.uu,.uu,.uu,.uu,.uu,.uu,.uu,.uu,.uu,.uu,.uu,.uu]∧
  h=HV S s.length s v6 v7 v9 (R12.1+1) Ls x.2.1 (GVP t) o N r0 r1 r2 r3 r4 r5 f R13 R14) (fun x=>S-x.1) (0,G,.uu,.uu,.uu) ⟨D6 _,.refl _ _ _,fun j hj=>i9,rfl,rfl⟩ ?_
 rintro⟨k,A,w5,w16,w17⟩ vs h ⟨g1,g2,g3,rfl,rfl⟩ Q' ah aW bD;dsimp only at g1 g2 g3;have ai:A.length=N:=g2.1.trans z;by_cases d:k<S
 . have K:=wk1 k i9;have aj:o+k<N:=i9;have hle:∀v:Int,v≤0→∀j,j<k+1→(A.set (o+k) v).getD (o+j) 0≤0:=fun v aX j hj=>by
    rw[a3x];split
    . exact aX
    . exact g3 j i9
   have aD:k<(N6 t).length:=i9;by_cases bE:i=s.length
   . have Z:(i:Int)=(s.length:Int):=i9;cases aE:(N6 t)[k]with
     |true=>
      simp[d,aj,ai,K,Z,aD,aE];exact ah (k+1,(A.set (o+k) (-1)).set (o+k) 0,_,_,_) _ _ i9 ⟨s5,g2.trans ((Els.set d).trans (.set d)),by dsimp only;rw[List.set_set];exact hle 0 i9,rfl,by simp[H9]⟩
     |false=>
      simp[d,aj,ai,K,Z,aD,aE];exact ah (k+1,A.set (o+k) (-1),_,_,_) _ _ i9 ⟨s5,g2.trans (.set d),hle (-1) i9,rfl,by simp[H9]⟩
   . have Z:¬(i:Int)=(s.length:Int):=i9;simp[d,aj,ai,K,Z];exact ah (k+1,A.set (o+k) (-1),_,_,_) _ _ i9 ⟨s5,g2.trans (.set d),hle (-1) i9,rfl,by simp[H9]⟩
 . obtain rfl:k=S:=i9;simp;refine aW _ _ _ ?_;simp[af];obtain⟨M0,aY⟩:=p7 (b-Wd);have bF:Wd=12300:=rfl;have bG:0≤M0:=i9;have aZ:Bd M0 (F4 A o k):=fun x ak=>by
    obtain⟨j,hj,rfl⟩:=a1t ak;have aF:j<k:=(by rw[a2V i9]at hj;exact hj);have:=g3 j aF;rw[←b0s aF,u9,m7 hj]at this;simp at this;omega
   refine E3 (fun(x:Nat×List Int×Row×CWv) vs h=>x.1≤k∧Els o k G x.2.1∧Bd M0 (F4 x.2.1 o k)∧
    vs=[IN i,.ptr 11 1 0,.ptr 10 1 0,I 0,.ptr 12 (R12.1+1) 0,w5,.fn (.func 97) [] [.ptr 12 (R12.1+1) 0],x.2.2.2.w0,x.2.2.2.w1,x.2.2.2.w2,.uu,.uu,.uu,.uu,IN k,IN k,.bool false,w17,.slc ((gL (L1 t) t).map (SV t)),IN k,IN x.1,x.2.2.2.w3,x.2.2.2.w4,x.2.2.2.w5,x.2.2.2.w6,x.2.2.2.w7,x.2.2.2.w8,.uu,.uu,.uu,.uu,.uu,.uu,.uu,.uu,.uu,.uu]∧
    h=HV k s.length s v6 v7 v9 (R12.1+1) Ls x.2.1 (GVP t) o N r0 r1 r2 r3 r4 r5 f x.2.2.1 R14) (fun x=>k-x.1) (0,A,R13,⟨.uu,.uu,.uu,.uu,.uu,.uu,.uu,.uu,.uu,.uu,.uu,.uu,.uu,.uu,.uu,.uu,.uu,.uu,.uu,.uu,.uu,.uu⟩) ⟨D6 _,g2,aZ,rfl,rfl⟩ ?_
   rintro⟨q,A2,Ra,⟨w7,w8,w9,w21,w22,w23,w24,w25,w26,_,_,_,_,_,_,_,_,_,_,_,_,_⟩⟩ vs h ⟨f1,f2,f3,rfl,rfl⟩ Q2 a0 a1 bH;dsimp only at f1 f2 f3;by_cases F:q<k
   . have a2:=wk1 q i9;have a3:q<(gL (L1 t) t).length:=i9;obtain⟨ar,l⟩:=p7 ((gL (L1 t) t)[q]);have a4:ar.length≤64:=l▸aC q F;have al:∀a∈ar,a.1<t.rules.length∧a.2<k:=fun a C=>aB q F a (l▸C);simp[F,a3,←l];refine E3 (fun(x:Nat×List Int×Row×CWv) vs h=>x.1≤ar.length∧Els o k G x.2.1∧Bd M0 (F4 x.2.1 o k)∧
      vs=[IN i,.ptr 11 1 0,.ptr 10 1 0,I 0,.ptr 12 (R12.1+1) 0,w5,.fn (.func 97) [] [.ptr 12 (R12.1+1) 0],IN q,SV t ar,x.2.2.2.w2,.uu,.uu,.uu,.uu,IN k,IN k,.bool false,w17,.slc ((gL (L1 t) t).map (SV t)),IN k,IN q,.bool true,SV t ar,IN ar.length,IN x.1,x.2.2.2.w7,x.2.2.2.w8,.uu,.uu,.uu,.uu,.uu,.uu,.uu,.uu,.uu,.uu]∧
      h=HV k s.length s v6 v7 v9 (R12.1+1) Ls x.2.1 (GVP t) o N r0 r1 r2 r3 r4 r5 f x.2.2.1 R14) (fun x=>ar.length-x.1) (0,A2,Ra,⟨.uu,.uu,w9,.uu,.uu,.uu,.uu,w25,w26,.uu,.uu,.uu,.uu,.uu,.uu,.uu,.uu,.uu,.uu,.uu,.uu,.uu⟩) ⟨D6 _,f2,f3,rfl,rfl⟩ ?_
     rintro⟨j,A3,Rb,⟨_,_,w9,_,_,_,_,w25,w26,_,_,_,_,_,_,_,_,_,_,_,_,_⟩⟩ vs h ⟨a5,m,O,rfl,rfl⟩ Q3 P am a6;dsimp only at a5 m O;have aG:A3.length=N:=m.1.trans z;by_cases hj:j<ar.length
     . have u:=wk1 j i9;obtain⟨a,w⟩:=p7 (ar[j]);obtain⟨H,an⟩:=al a (w▸B7 hj);have R:(cls t a.1).length≤4:=by
        have:=(a2w (y.sound _ (B7 H))).c4;unfold cls;rw[u9,m7 H];exact this
       have bI:=b2w y a.1 H;by_cases hp:prt t a.1=[]
       . simp[hj,←w,hp,u];exact P (j+1,A3,_,⟨.uu,.uu,_,.uu,.uu,.uu,.uu,_,_,.uu,.uu,.uu,.uu,.uu,.uu,.uu,.uu,.uu,.uu,.uu,.uu,.uu⟩) _ _ i9 ⟨s5,m,O,rfl,rfl⟩
       . have T:(prt t a.1).isEmpty=false:=(by simpa using hp);have a7:=b8A (s.drop i) (prt t a.1);have a8:List.take (s.length-i) (List.drop i s)=s.drop i:=S7 l5;simp[hj,←w,T,hi,a8];refine m6 a7 ?_;cases bJ:(prt t a.1).isPrefixOf (s.drop i)with
         |false=>
          simp[u];exact P (j+1,A3,_,⟨.uu,.uu,_,.uu,.uu,.uu,.uu,_,_,.uu,.uu,.uu,.uu,.uu,.uu,.uu,.uu,.uu,.uu,.uu,.uu,.uu⟩) _ _ i9 ⟨s5,m,O,rfl,rfl⟩
         |true=>
          have bK:0<(prt t a.1).length:=a2p.2 hp;have bL:i+(prt t a.1).length≤s.length:=(by grind);obtain⟨p,a9⟩:=p7 (i+(prt t a.1).length);have ba:IntKind.i64.wrap ((i:Int)+((prt t a.1).length:Int))=(p:Int):=(by rw[a9];exact wrap_ok i9 i9);have f6:=@b6G k s.length N v6 v9 A3;have f7:=@b5C k s.length v6 v7 v9 (A3.map I) Ls;have bb:i<p:=i9;have ao:p≤s.length:=i9;have aH:=a8Z (S:=k) (p:=p) (i:=i) i9;rw[←Y]at aH;have aa:=hb p bb ao;rw[←a8Q m aH]at aa;have bM:J5 L s.length p≤M0:=(by rw[aY,ag];unfold J5 Wd;omega);have bc:(U1 k s.length A3)[p]?=some (F4 A3 (p*k) k):=(by rw[m7 (by rw[a6O];omega),b0r ao]);have bd:=a5p (S:=k) ao;rw[←E]at bd;have bN:(F4 A3 (p*k) k).length=k:=a2V i9;have be:Ls.getD p 0=Ls[p]:=(by grind);rw[be]at aa;have aI:=c4W ⟨s,U1 k s.length A3,Ls⟩ p a.2 (F4 A3 (p*k) k) ((F4 A3 (p*k) k)[a.2]'i9) (Ls[p]'i9) bc (m7 _) (m7 _) (aa.mono i9);obtain⟨rest,U⟩:=p7 (if(F4 A3 (p*k) k)[a.2]'i9<0 then-1 else(Ls[p]'i9)+(F4 A3 (p*k) k)[a.2]'i9);have bf:rest≤M0:=by
           rw[U];by_cases ap:(F4 A3 (p*k) k)[a.2]'i9<0
           . rw[if_pos ap];omega
           . rw[if_neg ap];have:=aa.sum _ (B7 i9) (Int.not_lt.1 ap);omega
          rw[←U]at aI;have aq:=c0c N A3 o k q (R12.1+1) v9 rest (cls t a.1).length r0 r1 r2 r3 r4 r5 (1,.arr 1 v6 false (M5 k s.length (s.length+1))) (1,.arr 1 v7 false (Ls.map I)) f (1,.var [GVP t]) (1,.var (MC s)) (Rb.1+1,.var [St (prt t a.1),IN (cls t a.1).length,IN a.2]) R14 aG hm F i9 R i9;obtain⟨V,aJ,aK⟩:=c1n (o:=o) (S:=k) (k:=q) (G:=A3) (rest:=rest) (cells:=(cls t a.1).length) (M0:=M0) i9 F O i9 R;have ab:=b7b (o:=o) (S:=k) (G:=A3) (rest:=rest) (cells:=(cls t a.1).length) F;simp[ba,↓f6 E aG,↓f7 aQ];refine m6 aI ?_;simp;refine a4w aq rfl rfl ?_;simp[u];exact P (j+1,_,_,⟨.uu,.uu,_,.uu,.uu,.uu,.uu,_,_,.uu,.uu,.uu,.uu,.uu,.uu,.uu,.uu,.uu,.uu,.uu,.uu,.uu⟩) _ _ i9 ⟨s5,m.trans ab,V,rfl,rfl⟩
     . obtain rfl:j=ar.length:=i9;simp;refine am _ _ _ ?_;simp[a2];exact a0 (q+1,A3,Rb,⟨_,_,_,_,_,_,_,_,_,.uu,.uu,.uu,.uu,.uu,.uu,.uu,.uu,.uu,.uu,.uu,.uu,.uu⟩) _ _ i9 ⟨s5,m,O,rfl,rfl⟩
   . obtain rfl:q=k:=i9;simp;refine a1 _ _ _ ?_;simp;obtain⟨Mx,bO⟩:=p7 (b.toNat);have bg:∀D:List Int,Bd M0 D→D.length=q→∀x∈D,x≤(Mx:Int):=fun D bh bi x ak=>by
      have:=b4v bh bi x ak;omega
     refine E3 (fun(x:List Int×Bool×Row×CWv) vs h=>Els o q G x.1∧Bd M0 (F4 x.1 o q)∧
      vs=[IN i,.ptr 11 1 0,.ptr 10 1 0,I 0,.ptr 12 (R12.1+1) 0,w5,.fn (.func 97) [] [.ptr 12 (R12.1+1) 0],w7,w8,w9,B x.2.1,x.2.2.2.w0,x.2.2.2.w1,x.2.2.2.w2,IN q,IN q,.bool false,w17,.slc ((gL (L1 t) t).map (SV t)),IN q,IN q,.bool false,w22,w23,w24,w25,w26,x.2.2.2.w3,x.2.2.2.w4,x.2.2.2.w5,x.2.2.2.w6,x.2.2.2.w7,x.2.2.2.w8,x.2.2.2.w9,x.2.2.2.w10,x.2.2.2.w11,x.2.2.2.w12]∧
      h=HV q s.length s v6 v7 v9 (R12.1+1) Ls x.1 (GVP t) o N r0 r1 r2 r3 r4 r5 f Ra x.2.2.1) (fun x=>2*V2 Mx (F4 x.1 o q)+(if x.2.1 then 1 else 0)) (A2,true,R14,⟨.uu,.uu,.uu,.uu,.uu,.uu,.uu,.uu,.uu,.uu,.uu,.uu,.uu,.uu,.uu,.uu,.uu,.uu,.uu,.uu,.uu,.uu⟩) ⟨f2,f3,rfl,rfl⟩ ?_
     rintro⟨A4,bt,Rc,⟨w11,w12,w13,w27,w28,w29,w30,aL,aM,aN,aO,ac,ad,_,_,_,_,_,_,_,_,_⟩⟩ vs h ⟨d1,d2,rfl,rfl⟩ Q3 P am a6;dsimp only at d1 d2;cases bt with
     |false=>
      simp;refine am _ _ _ ?_;simp;have bj:A4.length=N:=d1.1.trans z;obtain⟨r,ws,⟨G',rfl,rfl,bk,z2⟩,bl⟩:=c7C N A4 o q v9 r0 r1 r2 r3 r4 r5 (1,.arr 1 v6 false (M5 q s.length (s.length+1))) (1,.arr 1 v7 false (Ls.map I)) f (1,.var [GVP t]) (1,.var (MC s)) (R12.1+1,.var [.osl 9 1 N 1 o q]) Ra Rc bj hm i9 (fun c au=>by have:=b4v d2 (a2V i9) c au;omega);refine a2H bl ?_;simp;refine aV (I (a1A (F4 A4 o q))) [(9,(1,.arr 1 v9 false (G'.map I))),(12,(R12.1+1,.var [.osl 9 1 N 1 o q])),(13,Ra),(14,Rc)] _ _ ⟨_,G',_,_,_,rfl,rfl,d1.trans bk,?_⟩ ?_
      . rw[z2];exact c9l i9 fun c au=>by
         have:=b4v d2 (a2V i9) c au;omega
      . simp[M6,X96]
     |true=>
      simp[af];refine E3 (fun(x:Nat×List Int×Bool×Row×CWv) vs h=>x.1≤q∧Els o q G x.2.1∧Bd M0 (F4 x.2.1 o q)∧V2 Mx (F4 x.2.1 o q)≤V2 Mx (F4 A4 o q)∧(x.2.2.1=true→V2 Mx (F4 x.2.1 o q)<V2 Mx (F4 A4 o q))∧
       vs=[IN i,.ptr 11 1 0,.ptr 10 1 0,I 0,.ptr 12 (R12.1+1) 0,w5,.fn (.func 97) [] [.ptr 12 (R12.1+1) 0],w7,w8,w9,B x.2.2.1,x.2.2.2.2.w0,x.2.2.2.2.w1,x.2.2.2.2.w2,IN q,IN q,.bool false,w17,.slc ((gL (L1 t) t).map (SV t)),IN q,IN q,.bool false,w22,w23,w24,w25,w26,.bool true,.slc ((gL (L1 t) t).map (SV t)),IN q,IN x.1,x.2.2.2.2.w7,x.2.2.2.2.w8,x.2.2.2.2.w9,x.2.2.2.2.w10,x.2.2.2.2.w11,x.2.2.2.2.w12]∧
       h=HV q s.length s v6 v7 v9 (R12.1+1) Ls x.2.1 (GVP t) o N r0 r1 r2 r3 r4 r5 f Ra x.2.2.2.1) (fun x=>q-x.1) (0,A4,false,Rc,⟨w11,w12,w13,.uu,.uu,.uu,.uu,aL,aM,aN,aO,ac,ad,.uu,.uu,.uu,.uu,.uu,.uu,.uu,.uu,.uu⟩) ⟨D6 _,d1,d2,m9 _,fun e=>(by cases e),rfl,rfl⟩ ?_
      rintro⟨k,A5,av,Rd,⟨w11,w12,w13,_,_,_,_,aL,aM,aN,aO,ac,ad,_,_,_,_,_,_,_,_,_⟩⟩ vs h ⟨c1,c2,c3,c4,c5,rfl,rfl⟩ Q4 bm bn bP;dsimp only at c1 c2 c3 c4 c5;by_cases d:k<q
      . have K:=wk1 k i9;have bo:k<(gL (L1 t) t).length:=i9;obtain⟨ar,l⟩:=p7 ((gL (L1 t) t)[k]);have a4:ar.length≤64:=l▸aC k d;have al:∀a∈ar,a.1<t.rules.length∧a.2<q:=fun a C=>aB k d a (l▸C);simp[d,bo,←l];refine E3 (fun(x:Nat×List Int×Bool×Row×CWv) vs h=>x.1≤ar.length∧Els o q G x.2.1∧Bd M0 (F4 x.2.1 o q)∧V2 Mx (F4 x.2.1 o q)≤V2 Mx (F4 A4 o q)∧(x.2.2.1=true→V2 Mx (F4 x.2.1 o q)<V2 Mx (F4 A4 o q))∧
         vs=[IN i,.ptr 11 1 0,.ptr 10 1 0,I 0,.ptr 12 (R12.1+1) 0,w5,.fn (.func 97) [] [.ptr 12 (R12.1+1) 0],w7,w8,w9,B x.2.2.1,IN k,SV t ar,x.2.2.2.2.w2,IN q,IN q,.bool false,w17,.slc ((gL (L1 t) t).map (SV t)),IN q,IN q,.bool false,w22,w23,w24,w25,w26,.bool true,.slc ((gL (L1 t) t).map (SV t)),IN q,IN k,.bool true,SV t ar,IN ar.length,IN x.1,x.2.2.2.2.w11,x.2.2.2.2.w12]∧
         h=HV q s.length s v6 v7 v9 (R12.1+1) Ls x.2.1 (GVP t) o N r0 r1 r2 r3 r4 r5 f Ra x.2.2.2.1) (fun x=>ar.length-x.1) (0,A5,av,Rd,⟨.uu,.uu,w13,.uu,.uu,.uu,.uu,.uu,.uu,.uu,.uu,ac,ad,.uu,.uu,.uu,.uu,.uu,.uu,.uu,.uu,.uu⟩) ⟨D6 _,c2,c3,c4,c5,rfl,rfl⟩ ?_
        rintro⟨j,A6,aw,Re,⟨_,_,w13,_,_,_,_,_,_,_,_,ac,ad,_,_,_,_,_,_,_,_,_⟩⟩ vs h ⟨bp,J,W,ax,ae,rfl,rfl⟩ Q5 ay bq bQ;dsimp only at bp J W ax ae;have aP:A6.length=N:=J.1.trans z;by_cases hj:j<ar.length
        . have u:=wk1 j i9;obtain⟨a,w⟩:=p7 (ar[j]);obtain⟨H,an⟩:=al a (w▸B7 hj);have R:(cls t a.1).length≤4:=by
           have:=(a2w (y.sound _ (B7 H))).c4;unfold cls;rw[u9,m7 H];exact this
          by_cases hp:prt t a.1=[]
          . have T:(prt t a.1).isEmpty=true:=(by simpa using hp);have br:o+a.2<N:=i9;obtain⟨rest,U⟩:=p7 (A6[o+a.2]'i9);have bs:rest∈F4 A6 o q:=by
             rw[U,←b9k (o:=o) (S:=q) i9 an];exact B7 _
            have bf:=W rest bs;have bu:=b2C (F4 A6 o q);rw[a2V i9]at bu;have aq:=c0c N A6 o q k (R12.1+1) v9 rest (cls t a.1).length r0 r1 r2 r3 r4 r5 (1,.arr 1 v6 false (M5 q s.length (s.length+1))) (1,.arr 1 v7 false (Ls.map I)) f (1,.var [GVP t]) (1,.var (MC s)) Ra (Re.1+1,.var [St (prt t a.1),IN (cls t a.1).length,IN a.2]) aP hm d i9 R i9;obtain⟨V,aJ,aK⟩:=c1n (o:=o) (S:=q) (k:=k) (G:=A6) (rest:=rest) (cells:=(cls t a.1).length) (M0:=M0) i9 d W i9 R;have ab:=b7b (o:=o) (S:=q) (G:=A6) (rest:=rest) (cells:=(cls t a.1).length) d;obtain⟨bR,bv⟩:=b3d (M:=Mx) aJ (bg _ V (a2V (by rw[c9n];omega)));simp[hj,←w,T,an,br,aP,←U];refine a4w aq rfl rfl ?_;cases az:(a1a A6 (o+k) rest (cls t a.1).length).2 with
            |true=>
             have bw:=aK az;simp[az,u];exact ay (j+1,(a1a A6 (o+k) rest (cls t a.1).length).1,true,_,⟨.uu,.uu,_,.uu,.uu,.uu,.uu,.uu,.uu,.uu,.uu,_,_,.uu,.uu,.uu,.uu,.uu,.uu,.uu,.uu,.uu⟩) _ _ i9 ⟨s5,J.trans ab,V,s5,fun _=>by
              dsimp only;have:V2 Mx (F4 (a1a A6 (o+k) rest (cls t a.1).length).1 o q)≠V2 Mx (F4 A6 o q):=fun e=>bw (bv e);omega,rfl,rfl⟩
            |false=>
             simp[az,u];exact ay (j+1,(a1a A6 (o+k) rest (cls t a.1).length).1,aw,_,⟨.uu,.uu,_,.uu,.uu,.uu,.uu,.uu,.uu,.uu,.uu,_,_,.uu,.uu,.uu,.uu,.uu,.uu,.uu,.uu,.uu⟩) _ _ i9 ⟨s5,J.trans ab,V,s5,fun e=>by have:=ae e;dsimp only;omega,rfl,rfl⟩
          . have T:(prt t a.1).isEmpty=false:=(by simpa using hp);simp[hj,←w,T,u];exact ay (j+1,A6,aw,_,⟨.uu,.uu,_,.uu,.uu,.uu,.uu,.uu,.uu,.uu,.uu,_,_,.uu,.uu,.uu,.uu,.uu,.uu,.uu,.uu,.uu⟩) _ _ i9 ⟨s5,J,W,ax,ae,rfl,rfl⟩
        . obtain rfl:j=ar.length:=i9;simp;refine bq _ _ _ ?_;simp[K];exact bm (k+1,A6,aw,Re,⟨_,_,_,.uu,.uu,.uu,.uu,_,_,_,_,_,_,.uu,.uu,.uu,.uu,.uu,.uu,.uu,.uu,.uu⟩) _ _ i9 ⟨s5,J,W,ax,ae,rfl,rfl⟩
      . obtain rfl:k=q:=i9;simp;refine bn _ _ _ ?_;simp;exact P (A5,av,Rd,⟨_,_,_,_,_,_,_,_,_,_,_,_,_,.uu,.uu,.uu,.uu,.uu,.uu,.uu,.uu,.uu⟩) _ _ (by
         dsimp only;cases av with
         |true=>have:=c5 rfl;simp;omega
         |false=>simp;omega) ⟨c2,c3,rfl,rfl⟩
def X19:u7:=
 ⟨43,[0,1,2,4,5,7,8,9,10,11,18,32],3,[(3,some (true,3)),(4,none)],sq [.reg [F5 2 0 0,odc 3 1,ox 4 0],sq [.reg [oa 1,ocr 35 0 0 0 0 0,os 1,oy 2 0,oy 2 1,os 3,oc 5 4],.reg [oa 5,odr 10 0 0],.cond (.v 10) (sq [.reg [oez,oa 5,M1 3 3 0,oc 4 1],ko]) kc],.reg [oh 3 2,T9 56 0 0 0,oc 6 1],.reg [oa 6,oa 1,obv 57 0 1,odc 7 2,ok 3 3 2],.reg [oa 6,oh 3 7,obv 58 0 1,oc 8 2],sq [.reg [oa 1,Q8 0,oc 9 1],.block 0 (.loop (sq [sq [.reg [oa 9,odu 11 0 0],B6 11 0],.block 1 (.reg [od 2 7,ob 1 0,oa 9,oa 8,oa 9,⟨.callv (.l 3) [.l 4],none,none,[1000000]⟩,oj 1 1 2,ok 1 6 5]),.reg [oa 9,obh 0 1,oc 9 1]]))],.G7 [(9,true),(6,false),(6,true),(7,true)] (.reg [oh 3 7,M1 3 3 0,ox 4 0]),ko]⟩
def X23:u7:=
 ⟨204,[0,1,2,3,4,5,6,7,8,9,10,12,13,14,15,16,17,18,19,20,21,22,23,24,25,51,76,84,99,136,152,160,163,164,165,192],5,[(6,some (true,3)),(7,none),(8,none)],sq [.reg [F5 3 0 0,F5 4 1 1,F5 5 2 2,odc 6 3,ox 7 0,ox 8 0],.reg [od 0 4,ob 1 0,Q8 1,oc 9 2],sq [.reg [od 0 5,ob 1 0,ocb 1 0,os 2,ov 1 5 3,ot 1 4 3,obt 5 0 3,P5 3 6,os 7,ov 0 5 8,ot 1 9 8,L4 9 8,⟨.bin .gtr false (.l 10) (.l 11),none,some (.l 8,false),[]⟩,P5 8 12,os 13,ov 1 5 14,ot 1 15 14,L4 9 14,ov 0 5 14,ot 1 18 14,⟨.bin .sub false (.l 17) (.l 19),none,some (.l 14,false),[]⟩,⟨.bin .gtr false (.l 16) (.l 20),none,some (.l 14,false),[]⟩,U0 25 14 21],.cond (.v 25) (sq [.reg [oez,M1 3 6 0,ox 7 0,ox 8 1],ko]) kc],.reg [od 0 4,ob 1 0,od 0 5,ob 1 2,oq (.slice true 0 (.l 1) none (some (.l 3)) none),od 2 5,ob 1 5,X2 4 6,od 0 4,ob 1 8,od 0 5,ob 1 10,od 1 5,ob 1 12,X2 11 13,oq (.slice true 0 (.l 9) (some (.l 14)) none none),X2 7 15,oc 10 16],sq [.reg [oa 10,ocr 35 0 0 0 0 0,os 1,oy 2 0,oy 2 1,os 3,oc 11 4],.reg [oa 11,odr 26 0 0],.cond (.v 26) (sq [.reg [oez,oa 11,M1 3 6 0,ox 7 0,oc 8 1],ko]) kc],.reg [oh 3 3,T9 56 0 0 0,oc 12 1],sq [.reg [oa 12,oh 3 4,U2 60 0 1 0 0,Z3 27 2],.cond (.v 27) (sq [.reg [oez,M1 3 6 0,ox 7 0,ox 8 1],ko]) kc],.reg [oa 12,oa 10,obv 57 0 1,odc 13 4,ok 3 3 2],.reg [od 0 5,ob 1 0,od 2 5,ob 1 2,Q8 3,X2 1 4,oc 14 5],sq [kg 14 15 0,.block 0 (.loop (sq [sq [.reg [oa 15,oa 10,Q8 1,ow 28 (.bin .leq false (.l 0) (.l 2))],B6 28 0],.block 1 (sq [.reg [oa 15,od 2 5,ob 1 1,Q8 2,ofz 0 3,od 1 5,ob 1 5,X2 4 6,oc 16 7],.reg [od 1 13,ob 1 0,oa 15,oj 1 1 2,ob 1 3,od 1 4,ob 1 5,oa 16,oj 1 6 7,ob 1 8,oq (.copy 1 (.l 4) (.l 9))],.reg [od 2 13,ob 1 0,oa 15,od 2 4,ob 1 3,oa 16,oj 1 4 5,ob 1 6,oj 1 1 2,ok 1 8 7]]),ki 15 0 1 15 1]))],.reg [oa 12,oh 3 13,obv 58 0 1,oc 17 2],.reg [ox 18 0,ox 19 0,ox 20 0],kc,sq [.reg [oa 14,obh 0 1,oc 21 1],.block 2 (.loop (sq [sq [.reg [oa 21,odu 29 0 0],B6 29 2],.block 3 (sq [.reg [od 2 13,ob 1 0,oa 21,oa 17,oa 21,⟨.callv (.l 3) [.l 4],none,none,[1000000]⟩,oj 1 1 2,ok 1 6 5],ki 18 0 1 18 1,sq [.reg [oa 21,oae 0 3,od 0 5,ob 1 2,ow 30 (.bin .gtr false (.l 1) (.l 3))],kav 30 3],.reg [oh 3 4,oh 3 13,oa 21,oq (.call 61 [.l 0,.l 1,.l 2] [(0,0),(0,0)] false),os 3,oy 4 0,oy 4 1,oc 22 5,oc 23 6],.reg [ocf 31 23],.cond (.v 31) (sq [.reg [oa 21,oa 22,oc 19 0,oc 20 1],kl 2]) kc]),.reg [oa 21,obh 0 1,oc 21 1]]))],sq [.reg [ocf 32 19,ox 33 0],.block 4 (.loop (sq [kh 34 33 32,B6 34 4,.block 5 (sq [kg 33 24 0,.reg [od 1 13,ob 1 0,oa 24,oj 1 1 2,ob 1 3,od 1 4,ob 1 5,oa 24,oj 1 6 7,ob 1 8,oq (.copy 1 (.l 4) (.l 9))],.reg [od 2 13,ob 1 0,oa 24,od 2 4,ob 1 3,oa 24,oj 1 4 5,ob 1 6,oj 1 1 2,ok 1 8 7],.reg [od 2 4,ob 1 0,oa 24,oj 1 1 2,ob 1 3,odu 35 4 0],.cond (.v 35) (.reg [od 2 13,ob 1 0,oa 24,oj 1 1 2,ob 1 3,oa 20,X2 4 5,oj 1 1 2,ok 1 7 6]) kc]),kd 33 1 33 0]))],.G7 [(9,true),(6,false),(6,true),(7,true)] (.reg [oh 3 13,oa 18,M1 3 6 0,oc 7 1,ox 8 0]),ko]⟩
theorem T4:C4 19 X19:=C6
theorem c23:C4 23 X23:=C6
theorem c2l{h h':l7}(a:agr [1000000] h h')(b:h.length≤1000000):h'=h:=by
 refine a3u fun k=>?_;by_cases c:k=1000000
 . subst c;rw[a0d (by rw[a.1];exact b),a0d b]
 . exact a.2 k (by simpa using c)
theorem b6V{f:PV}{args vs:List PV}{var:Option Nat}{xs:List l6}{l:List PV}{K:B5→Prop}{r:PV}{ws:List (Nat×Row)}{h h1 a:l7}(b:FI Tryz.prog f args h1 r ws)(c:h1.length≤1000000)(hu:p8 h1 ws=a)(he:h=h1)
 (d:a2f [1000000] (y9 l vs) ws=true) (e:Xr (fns Tryz.prog) xs ⟨l++[r],K0 vs var r,a⟩ K):Xvh (fns Tryz.prog) [1000000] f args var xs ⟨l,vs,h⟩ K:=by
 subst he;subst hu;exact c0v (fun h' g=>by rw[c2l g c];exact b) ⟨d,e⟩
theorem b1d{f:PV}{args vs:List PV}{var:Option Nat}{xs:List l6}{l:List PV}{K:B5→Prop}{r:PV}{ws:List (Nat×Row)}{h h1 a:l7}(b:FI Tryz.prog f args h1 r ws)(hu:p8 h1 ws=a)(he:h=h1)
 (c:Xr (fns Tryz.prog) xs ⟨l++[r],K0 vs var r,a⟩ K):Xv (fns Tryz.prog) f args var xs ⟨l,vs,h⟩ K:=by
 subst he;subst hu;exact a2H b c
theorem b6M{S n N v6 v7 v9:Nat}{A Ls:List Int}{r0 r1 r2 r3 r4 r5 b R10 R11 R12 R13 R14:Row}(f:N=S*(n+1))(g:A.length=N):
 a4u [(9,true),(6,false),(6,true),(7,true)] [r0,r1,r2,r3,r4,r5,(1,.arr 1 v6 false (M5 S n (n+1))),(1,.arr 1 v7 false (Ls.map I)),b,(1,.arr 1 v9 false (A.map I)),R10,R11,R12,R13,R14]=
  [r0,r1,r2,r3,r4,r5,(1,.arr 1 (v6+1) true ((U1 S n A).map S3)),(1,.arr 1 (v7+1) true (Ls.map I)),b,(1,.arr 1 (v9+1) true (A.map I)),R10,R11,R12,R13,R14]:=by
 have d:(A.map I).all D5=true:=B0.2 fun x a=>by obtain⟨c,_,rfl⟩:=E5.1 a;rfl
 have j:(Ls.map I).all D5=true:=B0.2 fun x a=>by obtain⟨c,_,rfl⟩:=E5.1 a;rfl
 have k:¬((M5 S n (n+1)).all D5=true):=fun h=>by have h1:=a5X (S:=S) (n:=n) (i:=n+1) (p:=0) i9 i9;have:=B0.1 h _ (D4 h1);cases this
 have l:((U1 S n A).map S3).all D5=true:=B0.2 fun x a=>by obtain⟨c,_,rfl⟩:=E5.1 a;rfl
 have m1:∀B:List Int,(B.map I).map B4=B.map I:=fun B=>by rw[a1w];exact K3 fun _ _=>rfl
 have m2:((U1 S n A).map S3).map B4=(U1 S n A).map S3:=by rw[a1w];exact K3 fun _ _=>rfl
 have s1:W8 [r0,r1,r2,r3,r4,r5,(1,.arr 1 v6 false (M5 S n (n+1))),(1,.arr 1 v7 false (Ls.map I)),b,(1,.arr 1 v9 false (A.map I)),R10,R11,R12,R13,R14] true (.arr 1 v9 false (A.map I))=.arr 1 (v9+1) true (A.map I):=by show(if _ then _ else _)=_;rw[if_pos d,m1];rfl
 have q:∀x∈M5 S n (n+1),∃p,p≤n∧x=OE S n p:=fun x a=>by obtain⟨p,hp,rfl⟩:=E5.1 a;have:=a1v.1 hp;exact⟨p,i9,if_pos i9⟩
 have s2:W8 [r0,r1,r2,r3,r4,r5,(1,.arr 1 v6 false (M5 S n (n+1))),(1,.arr 1 v7 false (Ls.map I)),b,(1,.arr 1 (v9+1) true (A.map I)),R10,R11,R12,R13,R14] false (.arr 1 v6 false (M5 S n (n+1)))=.arr 1 v6 false ((U1 S n A).map S3):=by
  show(if _ then _ else if _ then _ else _)=_;rw[if_neg k,if_pos rfl];congr 1;refine W3 (by simp[U1]) fun p h1 r=>?_;have hp:p≤n:=by simp at h1;omega
  have e:=a5X (S:=S) (n:=n) (i:=n+1) (p:=p) hp i9;rw[m7 I2]at e;rw[a0b,a0c e,a0b,b0r hp];have hm:=a5p (S:=S) hp;show(if _ then _ else _)=_;rw[if_pos ⟨rfl,by rw[N5,g,f],rfl,hm,rfl,d⟩];simp only[F4,S3,a1X,a1J,m1]
 have m:W8 [r0,r1,r2,r3,r4,r5,(1,.arr 1 v6 false ((U1 S n A).map S3)),(1,.arr 1 v7 false (Ls.map I)),b,(1,.arr 1 (v9+1) true (A.map I)),R10,R11,R12,R13,R14] true (.arr 1 v6 false ((U1 S n A).map S3))=.arr 1 (v6+1) true ((U1 S n A).map S3):=by show(if _ then _ else _)=_;rw[if_pos l,m2];rfl
 have o:W8 [r0,r1,r2,r3,r4,r5,(1,.arr 1 (v6+1) true ((U1 S n A).map S3)),(1,.arr 1 v7 false (Ls.map I)),b,(1,.arr 1 (v9+1) true (A.map I)),R10,R11,R12,R13,R14] true (.arr 1 v7 false (Ls.map I))=.arr 1 (v7+1) true (Ls.map I):=by show(if _ then _ else _)=_;rw[if_pos j,m1];rfl
 simp only[a4u];simp[-W8,s1,s2,m,o]
theorem b2G{S N:Nat}{s:By}{L:Int}{G Ls:List Int}(b:N=S*(s.length+1))(c:G.length=N)(a:Ls.length=s.length+1)(h:∀p,p≤s.length→Bnd (J5 L s.length p) (F4 G (p*S) S) (Ls.getD p 0)):MOk S L ⟨s,U1 S s.length G,Ls⟩:=by
 refine⟨a6O _ _ _,a,fun r hr=>?_,fun p (hp:p≤s.length)=>?_⟩
 . obtain⟨p,hp,rfl⟩:=E5.1 hr;have:=a1v.1 hp;have hm:=a5p (S:=S) (n:=s.length) (p:=p) i9;exact a2V i9
 . have e:(U1 S s.length G).getD p []=F4 G (p*S) S:=(by rw[u9,m7 (by rw[a6O];omega),b0r hp];rfl);show Bnd _ ((U1 S s.length G).getD p []) _;rw[e];exact h p hp
theorem d0j(t:j9)(c:s8 t)(s:By)(hs:s.length≤1100000000)(l:∀b∈s,a0H b=true):
 ∃r,(∃m:Mem,r=.tup [MM m,I 0]∧m.text=s∧MOk (j4 t).length 0 m)∧F0 19 [0,1,1,0] [TP t,St s] r:=by
 have f:=a0G c;have n:Z8 s=none:=a5P.2 fun b hb=>by simp[l b hb]
 have g:=b0z s hs;rw[show a4v s=.tup [IN s.length,I 0]by unfold a4v;rw[n];rfl]at g;refine a1C mixed (X:=X19) T4 15 (by simp[X19]) (by kernel_rfl) fun Q o F=>?_;simp[X19];refine m6 g ?_;simp;refine m6 (b9g t c) ?_;simp;refine b1d (b5I t s hs f _ _ _ _ _ _ _ _ _ _) rfl rfl ?_;simp;refine b1d (b5K t s _ _ _ _ _ _ _ _ _ _ _ _ _) rfl rfl ?_;simp;obtain⟨S,hS⟩:=p7 ((j4 t).length);have d:=fun(Ls G:List Int) q u i hi hb=>b5B t c s hs Ls G q u 0 (Int.le_refl 0) i9 i hi hb (s.length+1) 0 0;rw[←hS]at f d⊢;obtain⟨N,e⟩:=p7 (S*(s.length+1));rw[←e]at d⊢;refine E3 (fun(x:Nat×List Int×List Int×Row×Row×Row×PV) vs h=>x.1≤s.length+1∧x.2.1.length=N∧x.2.2.1.length=s.length+1∧(∀p,x.1≤p→p≤s.length→Bnd (J5 0 s.length p) (F4 x.2.1 (p*S) S) (x.2.2.1.getD p 0))∧
  vs=[TP t,St s,.ptr 0 1 0,.ptr 1 1 0,I 0,I 0,GVP t,.ptr 2 1 0,.fn (.func 96) [] [.ptr 11 1 0,.ptr 10 1 0],I ((x.1:Int)-1),.bool false,x.2.2.2.2.2.2]∧
  h=[(1,.var [IN t.modes,UN t.accept,.slc (t.rules.map RP)]),(1,.var [St [],.nils,.nils]),(1,.var (MC s)),dd,dd,(1,.var (MC s)),(1,.arr 1 (s.length+1) false (M5 S s.length (s.length+1))),(1,.arr 1 0 false (x.2.2.1.map I)),(1,.var (MC s)),(1,.arr 1 0 false (x.2.1.map I)),(1,.var [GVP t]),(1,.var (MC s)),x.2.2.2.1,x.2.2.2.2.1,x.2.2.2.2.2.1]) (fun x=>x.1)
  (s.length+1,List.replicate N 0,List.replicate (s.length+1) 0,dd,dd,dd,.uu) ⟨m9 _,l5,l5,fun p h1 a=>by dsimp only at h1;omega,l5,l5⟩ ?_
 rintro⟨m,G,Ls,R12,R13,R14,w11⟩ vs h ⟨g1,g2,g3,g4,rfl,rfl⟩ Q' v w H;dsimp only at g1 g2 g3 g4;cases m with
 |zero=>
  have y:=@b6M S s.length N (s.length+1) 0 0 G Ls;have z:=a6O S s.length G;have m1:∀B:List Int,List.map (B4∘I) B=B.map I:=fun B=>K3 fun _ _=>rfl;have m2:List.map (B4∘S3) (U1 S s.length G)=(U1 S s.length G).map S3:=K3 fun _ _=>rfl;simp;refine w _ _ _ ?_;simp[↓y e g2];refine o (.tup [MM ⟨s,U1 S s.length G,Ls⟩,I 0]) _ _ ⟨⟨s,U1 S s.length G,Ls⟩,rfl,rfl,hS▸b2G e g2 g3 fun p hp=>g4 p (D6 _) hp⟩ ?_;simp[X19,z,g3,m1,m2]
 |succ i=>
  have hi:i≤s.length:=i9;obtain⟨r,ws,⟨x,G',R12',R13',R14',rfl,rfl,j,z2⟩,A⟩:=d Ls G g3 g2 i hi (fun p h1 a=>g4 p i9 a) (1,.var [IN t.modes,UN t.accept,.slc (t.rules.map RP)]) (1,.var [St [],.nils,.nils]) (1,.var (MC s)) dd dd (1,.var (MC s)) (1,.var (MC s)) R12 R13 R14;have C:IntKind.i64.wrap ((i:Int)-1)=(i:Int)-1:=I9;have D:(i:Int)<(s.length:Int)+1:=i9;have E:i<s.length+1:=i9;simp;refine b6V A l5 rfl rfl (by rfl) ?_;simp[C,D,E,g3];refine v (i,G',Ls.set i x,R12',R13',R14',_) _ _ i9 ⟨s5,j.1.trans g2,by simp[g3],fun p h1 a=>?_,rfl,by simp[H9]⟩;dsimp only at h1⊢;rw[a3x];by_cases k:p=i
  . grind
  . rw[if_neg (fun h=>k h.1),a8Q j (a8Z k)];exact g4 p i9 a
def a2G(G:List Int)(o:Nat)(r:List Int):List Int:=G.take o++(r++G.drop (o+r.length))
theorem b3y{G r:List Int}{o:Nat}(h:o+r.length≤G.length):(a2G G o r).length=G.length:=by simp[a2G];omega
theorem c0i{G r:List Int}{o:Nat}(h:o+r.length≤G.length):F4 (a2G G o r) o r.length=r:=by have h1:(G.take o).length=o:=I2;unfold F4 a2G;rw[List.drop_append_of_le_length i9,List.drop_of_length_le i9,a4C,List.take_append_of_le_length (m9 _),S7 (m9 _)]
theorem b7a{G r:List Int}{o:Nat}(h:o+r.length≤G.length):Els o r.length G (a2G G o r):=by
 refine⟨b3y h,fun j hj=>?_⟩;have h1:(G.take o).length=o:=I2;simp only[a2G,u9];rcases hj with hj|hj
 . grind
 . grind
theorem c6I(r:List Int):a2x 1 (r.map I)=true:=B0.2 fun x a=>by obtain⟨c,_,rfl⟩:=E5.1 a;rfl
abbrev CP(a c:Nat)(p:By):PV:=.agg [IN a,IN c,St p]
theorem c3Y(t:j9)(T:s8 t)(m:Mem)(L:Int)(an:0≤L)(bl:L≤300000000000000)(hm:MOk (j4 t).length L m)(bm:m.text.length≤1000000000)(a c:Nat)(put:By)(aI:a≤m.text.length)(aJ:c≤m.text.length-a)(hp:put.length≤1000)
 (ao:∀b∈m.text.take a++put++m.text.drop (a+c),a0H b=true):
 ∃r,(∃(w:Mem) (k:Int),r=.tup [MM w,I k,I 0]∧w.text=m.text.take a++put++m.text.drop (a+c)∧MOk (j4 t).length (3*L+50000000000000) w)∧F0 23 [0,1,1,0,0] [TP t,MM m,CP a c put] r:=by
 have ai:=a0G T;obtain⟨u,hu⟩:=p7 (m.text.take a++put++m.text.drop (a+c));rw[←hu]at ao⊢;have bn:u.length=m.text.length+put.length-c:=by grind
 have U:u.length≤1100000000:=i9;have aK:Z8 u=none:=a5P.2 fun b hb=>by simp[ao b hb]
 have ap:=b0z u U;rw[show a4v u=.tup [IN u.length,I 0]by unfold a4v;rw[aK];rfl]at ap;refine a1C mixed (X:=X23) c23 15 (by simp[X23]) (by kernel_rfl) fun Q aL bo=>?_;have aM:¬(m.text.length:Int)<(a:Int):=i9;have aN:¬((m.text.length:Int)-(a:Int))<(c:Int):=i9;have aO:IntKind.i64.wrap ((m.text.length:Int)-(a:Int))=(m.text.length:Int)-(a:Int):=I9;have aP:IntKind.i64.wrap ((a:Int)+(c:Int))=(a:Int)+(c:Int):=I9;have aQ:(a:Int)+(c:Int)≤(m.text.length:Int):=i9;have aR:(0:Int)≤(a:Int)+(c:Int):=i9;have aS:((a:Int)+(c:Int)).toNat=a+c:=i9;have aT:¬(9223372036854775807:Int)<(a:Int)+(put.length:Int):=i9;have aU:List.take (m.text.length-(a+c)) (List.drop (a+c) m.text)=List.drop (a+c) m.text:=S7 l5;have aV:a+c≤m.text.length:=i9;have aW:¬(9223372036854775807:Int)<(a:Int)+(put.length:Int)+((m.text.length-(a+c):Nat):Int):=i9;have aX:m.text.take a++(put++m.text.drop (a+c))=u:=by grind
 simp[X23,aI,aJ,aM,aN,aO,aP,aQ,aR,aS,aT,aU,aV,aW,aX];refine m6 ap ?_;simp;refine m6 (b9g t T) ?_;simp;refine m6 (c4U t m L hm i9 _) ?_;simp;refine b1d (b5I t u U ai _ _ _ _ _ _ _ _ _ _) rfl rfl ?_;obtain⟨f,aY⟩:=p7 (a+put.length);have aZ:IntKind.i64.wrap ((a:Int)+(put.length:Int))=(f:Int):=by rw[aY];exact wrap_ok i9 i9
 simp[aZ];obtain⟨S,hS⟩:=p7 ((j4 t).length);have bp:0<S:=hS▸a2j T;have aj:=fun(v9:Nat) (Ls G:List Int) a0 a1 i hi hb=>b5B t T u U Ls G a0 a1 L an i9 i hi hb (u.length+1) 0 v9;rw[←hS]at ai aj hm;rw[←hS];obtain⟨N,l⟩:=p7 (S*(u.length+1));rw[←l]at aj⊢;have bq:f≤u.length:=i9;have br:=hm.rl;have bs:=hm.ll;have aq:∀q,(F:q≤m.text.length)→Bnd (J5 L m.text.length q) (m.rows[q]'i9) (m.least[q]'i9):=fun q F=>by have h:=hm.bd q F;rw[show m.rows.getD q []=m.rows[q]'i9 by rw[u9,m7 i9];rfl,show m.least.getD q 0=m.least[q]'i9 by rw[u9,m7 i9];rfl]at h;exact h
 have a2:∀p,p≤u.length→Bnd (J5 L u.length p) (F4 (List.replicate N 0) (p*S) S) ((List.replicate (u.length+1) (0:Int)).getD p 0):=fun p hp=>by
  have e:(List.replicate (u.length+1) (0:Int)).getD p 0=0:=by grind
  have ar:∀x∈F4 (List.replicate N (0:Int)) (p*S) S,x=0:=fun x H=>b1I (List.mem_of_mem_drop (b1N H));have bt:0≤J5 L u.length p:=by unfold J5 Wd;omega
  rw[e];exact⟨i9,i9,fun x H=>by rw[ar x H];omega,fun x H _=>by rw[ar x H];omega⟩
 have au:∀q,(F:q<m.rows.length)→a2x 1 (List.map I m.rows[q])=true:=fun q _=>c6I _;refine E3 (fun(x:Nat×Nat×List Int×List Int×PV×PV) vs h=>f≤x.1∧x.1≤u.length+1∧x.2.2.1.length=N∧x.2.2.2.1.length=u.length+1∧(∀p,p≤u.length→Bnd (J5 L u.length p) (F4 x.2.2.1 (p*S) S) (x.2.2.2.1.getD p 0))∧
  vs=[TP t,MM m,CP a c put,.ptr 0 1 0,.ptr 1 1 0,.ptr 2 1 0,.ptr 3 1 0,I 0,I 0,IN m.text.length,St u,I 0,GVP t,.ptr 4 1 0,IN f,IN x.1,x.2.2.2.2.1,.uu,.uu,.uu,.uu,.uu,.uu,.uu,.uu,.bool false,.bool false,.bool false,x.2.2.2.2.2,.uu,.uu,.uu,.uu,.uu,.uu,.uu]∧
  h=[(1,.var [IN t.modes,UN t.accept,.slc (t.rules.map RP)]),(1,.var [St m.text,.slc (m.rows.map S3),.slc (m.least.map I)]),(1,.var [IN a,IN c,St put]),(1,.var [St [],.nils,.nils]),(1,.var (MC u)),(1,.var (MC u)),(1,.arr 1 (u.length+1) false (M5 S u.length (u.length+1))),(1,.arr 1 0 false (x.2.2.2.1.map I)),(1,.var (MC u)),(1,.arr 1 x.2.1 false (x.2.2.1.map I)),dd,dd,dd,dd,dd]) (fun x=>u.length+1-x.1)
  (f,0,List.replicate N 0,List.replicate (u.length+1) 0,.uu,.uu) ⟨m9 _,s5,l5,l5,a2,rfl,l5⟩ ?_
 rintro⟨i,v9,G,Ls,w16,w28⟩ vs h ⟨g1,g2,g3,g4,g5,rfl,rfl⟩ Q' a3 a4 bu;dsimp only at g1 g2 g3 g4 g5;by_cases hi:i≤u.length
 . have ak:(i:Int)≤(u.length:Int):=i9;obtain⟨q,F⟩:=p7 (i-put.length+c);have a5:q≤m.text.length:=i9;have v:q<m.rows.length:=i9;have V:q<m.least.length:=i9;have a6:IntKind.i64.wrap ((i:Int)-(put.length:Int))=(i:Int)-(put.length:Int):=I9;have a7:IntKind.i64.wrap ((i:Int)-(put.length:Int)+(c:Int))=(q:Int):=(by rw[F];exact(wrap_ok i9 i9).trans i9);have J:=wk1 i i9;have W:(i:Int)<(u.length:Int)+1:=i9;have Y:i<u.length+1:=i9;obtain⟨o,A⟩:=p7 (i*S);have D:=a5p (S:=S) hi;rw[←A,←l]at D;have Z:(M5 S u.length (u.length+1))[i]'I2=.osl 9 1 N 1 o S:=by
    have:=a5X (S:=S) (n:=u.length) (i:=u.length+1) (p:=i) i9 i9;rw[l,A];exact(B8.1 this).2
   have g:m.rows[q].length=S:=hm.cl _ (B7 v);have aa:=au q v;have ab:¬S=0:=i9;have ac:List.take S (List.map I m.rows[q])=List.map I m.rows[q]:=S7 (by simp[g]);have ad:List.take o (List.map I G)++(List.map I m.rows[q]++List.drop (o+S) (List.map I G))=(a2G G o m.rows[q]).map I:=by simp only[a2G,g,Q9,a1X,a1J]
   simp[hi,ak,W,Y,a6,a7,Z,v,g,aa,g3,D,ab,ac,ad,V,g4,J];refine a3 (i+1,v9+1,a2G G o m.rows[q],Ls.set i m.least[q],_,_) _ _ i9 ⟨s5,s5,(b3y i9).trans g3,by simp[g4],fun p hp=>?_,rfl,by simp[H9]⟩;dsimp only;have K:=b7a (G:=G) (r:=m.rows[q]) (o:=o) i9;have ae:=c0i (G:=G) (r:=m.rows[q]) (o:=o) i9;rw[g]at K ae;rw[a3x];by_cases s:p=i
   . subst s;rw[if_pos ⟨rfl,i9⟩,←A,ae];have:=aq q a5;rwa[show J5 L m.text.length q=J5 L u.length p by unfold J5;rw[show(m.text.length:Int)+1-(q:Int)=(u.length:Int)+1-(p:Int)by omega]]at this
   . rw[if_neg (fun h=>s h.1),a8Q K (A▸a8Z s)];exact g5 p hp
 . obtain rfl:i=u.length+1:=i9;have ak:¬(u.length:Int)+1≤(u.length:Int):=i9;simp[ak];refine a4 _ _ _ ?_;simp;refine b1d (b5K t u _ _ _ _ _ _ _ _ _ _ _ _ _) rfl rfl ?_;have a8:IntKind.i64.wrap ((f:Int)-1)=(f:Int)-1:=I9;simp[a8];obtain⟨Dm,al⟩:=p7 (J5 L m.text.length 0+J5 L u.length 0);have bv:0≤Dm∧Dm≤1000000000000000:=(by rw[al];unfold J5 Wd;omega);refine b0W (Q:=fun e vs h=>e=.exit 2∧∃(Z2:Int) (rest:Nat) (C:Int) (v9:Nat) (G Ls:List Int) (R12 R13 R14:Row) (z:CWv),rest≤m.text.length∧rest≤u.length∧(-Dm≤C∧C≤Dm)∧G.length=N∧Ls.length=u.length+1∧(∀p,p≤u.length→Bnd (J5 L u.length p) (F4 G (p*S) S) (Ls.getD p 0))∧
    vs=[TP t,MM m,CP a c put,.ptr 0 1 0,.ptr 1 1 0,.ptr 2 1 0,.ptr 3 1 0,I 0,I 0,IN m.text.length,St u,I 0,GVP t,.ptr 4 1 0,IN f,IN (u.length+1),w16,.fn (.func 96) [] [.ptr 11 1 0,.ptr 10 1 0],I Z2,IN rest,I C,z.w0,z.w1,z.w2,.uu,.bool false,.bool false,.bool false,.bool false,z.w3,z.w4,z.w5,.uu,.uu,.uu,.uu]∧
    h=[(1,.var [IN t.modes,UN t.accept,.slc (t.rules.map RP)]),(1,.var [St m.text,.slc (m.rows.map S3),.slc (m.least.map I)]),(1,.var [IN a,IN c,St put]),(1,.var [St [],.nils,.nils]),(1,.var (MC u)),(1,.var (MC u)),(1,.arr 1 (u.length+1) false (M5 S u.length (u.length+1))),(1,.arr 1 0 false (Ls.map I)),(1,.var (MC u)),(1,.arr 1 v9 false (G.map I)),(1,.var [GVP t]),(1,.var (MC u)),R12,R13,R14]) ?_ ?_
   . rintro e vs h ⟨rfl,Z2,rest,C,v9,G,Ls,R12,R13,R14,z,bw,bx,bz,a9,ba,bb,rfl,rfl⟩;simp;obtain⟨L2,am⟩:=p7 (3*L+50000000000000);have bc:∀q,q≤u.length→q≤m.text.length→J5 L m.text.length q+Dm≤J5 L2 u.length q:=fun q h1 av=>(by rw[al,am];unfold J5 Wd;omega);refine E3 (fun(x:Nat×Nat×List Int×List Int×PV×PV×PV) vs h=>x.1≤rest∧x.2.2.1.length=N∧x.2.2.2.1.length=u.length+1∧(∀p,p≤u.length→Bnd (J5 L2 u.length p) (F4 x.2.2.1 (p*S) S) (x.2.2.2.1.getD p 0))∧
      vs=[TP t,MM m,CP a c put,.ptr 0 1 0,.ptr 1 1 0,.ptr 2 1 0,.ptr 3 1 0,I 0,I 0,IN m.text.length,St u,I 0,GVP t,.ptr 4 1 0,IN f,IN (u.length+1),w16,.fn (.func 96) [] [.ptr 11 1 0,.ptr 10 1 0],I Z2,IN rest,I C,z.w0,z.w1,z.w2,x.2.2.2.2.1,.bool false,.bool false,.bool false,.bool false,z.w3,z.w4,z.w5,IN rest,IN x.1,x.2.2.2.2.2.1,x.2.2.2.2.2.2]∧
      h=[(1,.var [IN t.modes,UN t.accept,.slc (t.rules.map RP)]),(1,.var [St m.text,.slc (m.rows.map S3),.slc (m.least.map I)]),(1,.var [IN a,IN c,St put]),(1,.var [St [],.nils,.nils]),(1,.var (MC u)),(1,.var (MC u)),(1,.arr 1 (u.length+1) false (M5 S u.length (u.length+1))),(1,.arr 1 0 false (x.2.2.2.1.map I)),(1,.var (MC u)),(1,.arr 1 x.2.1 false (x.2.2.1.map I)),(1,.var [GVP t]),(1,.var (MC u)),R12,R13,R14]) (fun x=>rest-x.1)
      (0,v9,G,Ls,.uu,.uu,.uu) ⟨D6 _,a9,ba,fun p hp=>(bb p hp).mono (by rw[am];unfold J5;omega),rfl,rfl⟩ ?_
     rintro⟨k,v9,G,Ls,w24,bA,bB⟩ vs h ⟨g1,g3,g4,g5,rfl,rfl⟩ Q2 M af bd;dsimp only at g1 g3 g4 g5;by_cases aw:k<rest
     . have ax:=wk1 k i9;have ay:k≤m.text.length:=i9;have ag:k≤u.length:=i9;have v:k<m.rows.length:=i9;have V:k<m.least.length:=i9;have W:(k:Int)<(u.length:Int)+1:=i9;have Y:k<u.length+1:=i9;obtain⟨o,A⟩:=p7 (k*S);have D:=a5p (S:=S) ag;rw[←A,←l]at D;have Z:(M5 S u.length (u.length+1))[k]'I2=.osl 9 1 N 1 o S:=by
        have:=a5X (S:=S) (n:=u.length) (i:=u.length+1) (p:=k) i9 i9;rw[l,A];exact(B8.1 this).2
       have g:m.rows[k].length=S:=hm.cl _ (B7 v);have aa:=au k v;have ab:¬S=0:=i9;have ac:List.take S (List.map I m.rows[k])=List.map I m.rows[k]:=S7 (by simp[g]);have ad:List.take o (List.map I G)++(List.map I m.rows[k]++List.drop (o+S) (List.map I G))=(a2G G o m.rows[k]).map I:=by simp only[a2G,g,Q9,a1X,a1J]
       have K:=b7a (G:=G) (r:=m.rows[k]) (o:=o) i9;have ae:=c0i (G:=G) (r:=m.rows[k]) (o:=o) i9;rw[g]at K ae;have O:=aq k ay;have bC:=bc k ag ay;have az:∀y:Int,Bnd (J5 L2 u.length k) m.rows[k] y→∀p,p≤u.length→Bnd (J5 L2 u.length p) (F4 (a2G G o m.rows[k]) (p*S) S) ((Ls.set k y).getD p 0):=fun y ah p hp=>by
        rw[a3x];by_cases s:p=k
        . grind
        . rw[if_neg (fun h=>s h.1),a8Q K (A▸a8Z s)];exact g5 p hp
       have hlen:=(b3y (G:=G) (r:=m.rows[k]) (o:=o) i9).trans g3;have bD:=O.lo;have bE:=O.up;have bF:J5 L m.text.length k≤1000000000000000:=(by unfold J5 Wd;omega);by_cases h0:0≤m.least[k]
       . have be:IntKind.i64.wrap (m.least[k]+C)=m.least[k]+C:=I9;simp[aw,ag,W,Y,Z,v,g,aa,g3,D,ab,ac,ad,V,g4,ax,h0,be];refine M (k+1,v9+1,a2G G o m.rows[k],Ls.set k (m.least[k]+C),_,_,_) _ _ i9 ⟨s5,hlen,by simp[g4],az _ ⟨i9,i9,fun y ah=>by have:=O.el y ah;omega,fun y ah bf=>by have:=O.sum y ah bf;omega⟩,rfl,by simp[H9]⟩
       . simp[aw,ag,W,Y,Z,v,g,aa,g3,D,ab,ac,ad,V,g4,ax,h0];refine M (k+1,v9+1,a2G G o m.rows[k],Ls.set k m.least[k],_,_,_) _ _ i9 ⟨s5,hlen,by simp[g4],az _ (O.mono i9),rfl,by simp[H9]⟩
     . obtain rfl:k=rest:=i9;have bg:=@b6M S u.length N (u.length+1) 0 v9 G Ls;have bh:=a6O S u.length G;have m1:∀B:List Int,List.map (B4∘I) B=B.map I:=fun B=>K3 fun _ _=>rfl;have m2:List.map (B4∘S3) (U1 S u.length G)=(U1 S u.length G).map S3:=K3 fun _ _=>rfl;simp;refine af _ _ _ ?_;simp[↓bg l g3];refine aL (.tup [MM ⟨u,U1 S u.length G,Ls⟩,I Z2,I 0]) _ _ ⟨⟨u,U1 S u.length G,Ls⟩,Z2,rfl,rfl,hS▸am▸b2G l g3 g4 g5⟩ ?_;simp[X23,bh,g4,m1,m2]
   refine E3 (fun(x:Nat×Nat×List Int×List Int×Row×Row×Row×CWv) vs h=>x.1≤f∧x.2.2.1.length=N∧x.2.2.2.1.length=u.length+1∧(∀p,p≤u.length→Bnd (J5 L u.length p) (F4 x.2.2.1 (p*S) S) (x.2.2.2.1.getD p 0))∧
    vs=[TP t,MM m,CP a c put,.ptr 0 1 0,.ptr 1 1 0,.ptr 2 1 0,.ptr 3 1 0,I 0,I 0,IN m.text.length,St u,I 0,GVP t,.ptr 4 1 0,IN f,IN (u.length+1),w16,.fn (.func 96) [] [.ptr 11 1 0,.ptr 10 1 0],I ((f:Int)-x.1),I 0,I 0,I ((x.1:Int)-1),x.2.2.2.2.2.2.2.w1,x.2.2.2.2.2.2.2.w2,.uu,.bool false,.bool false,.bool false,.bool false,x.2.2.2.2.2.2.2.w3,x.2.2.2.2.2.2.2.w4,x.2.2.2.2.2.2.2.w5,.uu,.uu,.uu,.uu]∧
    h=[(1,.var [IN t.modes,UN t.accept,.slc (t.rules.map RP)]),(1,.var [St m.text,.slc (m.rows.map S3),.slc (m.least.map I)]),(1,.var [IN a,IN c,St put]),(1,.var [St [],.nils,.nils]),(1,.var (MC u)),(1,.var (MC u)),(1,.arr 1 (u.length+1) false (M5 S u.length (u.length+1))),(1,.arr 1 0 false (x.2.2.2.1.map I)),(1,.var (MC u)),(1,.arr 1 x.2.1 false (x.2.2.1.map I)),(1,.var [GVP t]),(1,.var (MC u)),x.2.2.2.2.1,x.2.2.2.2.2.1,x.2.2.2.2.2.2.1]) (fun x=>x.1)
    (f,v9,G,Ls,dd,dd,dd,⟨.uu,.uu,.uu,.uu,.uu,.uu,.uu,.uu,.uu,.uu,.uu,.uu,.uu,.uu,.uu,.uu,.uu,.uu,.uu,.uu,.uu,.uu⟩) ⟨m9 _,g3,g4,g5,l5,rfl⟩ ?_
   rintro⟨j,v9,G,Ls,R12,R13,R14,⟨w21,w22,w23,w29,w30,bG,_,_,_,_,_,_,_,_,_,_,_,_,_,_,_,_⟩⟩ vs h ⟨f1,f3,f4,f5,rfl,rfl⟩ Q2 M af bd;dsimp only at f1 f3 f4 f5;cases j with
   |zero=>
    simp;refine af _ _ _ ⟨rfl,f,0,0,v9,G,Ls,R12,R13,R14,⟨_,w22,w23,_,_,_,.uu,.uu,.uu,.uu,.uu,.uu,.uu,.uu,.uu,.uu,.uu,.uu,.uu,.uu,.uu,.uu⟩,i9,i9,i9,f3,f4,f5,rfl,rfl⟩
   |succ i=>
    have hi:i≤u.length:=i9;obtain⟨r,ws,⟨x,G',R12',R13',R14',rfl,rfl,aA,z2⟩,bi⟩:=aj v9 Ls G f4 f3 i hi (fun p h1 av=>f5 p av) (1,.var [IN t.modes,UN t.accept,.slc (t.rules.map RP)]) (1,.var [St m.text,.slc (m.rows.map S3),.slc (m.least.map I)]) (1,.var [IN a,IN c,St put]) (1,.var [St [],.nils,.nils]) (1,.var (MC u)) (1,.var (MC u)) (1,.var (MC u)) R12 R13 R14;have J:IntKind.i64.wrap ((i:Int)-1)=(i:Int)-1:=I9;have aB:IntKind.i64.wrap ((i:Int)+3)=(i:Int)+3:=I9;have aC:IntKind.i64.wrap ((f:Int)-((i:Int)+1)+1)=(f:Int)-(i:Int):=(wrap_ok i9 i9).trans i9;have aD:(i:Int)<(u.length:Int)+1:=i9;have aE:i<u.length+1:=i9;have P:∀p,p≤u.length→Bnd (J5 L u.length p) (F4 G' (p*S) S) ((Ls.set i x).getD p 0):=fun p hp=>by
     rw[a3x];by_cases s:p=i
     . grind
     . rw[if_neg (fun h=>s h.1),a8Q aA (a8Z s)];exact f5 p hp
    have R:G'.length=N:=aA.1.trans f3;have E:(Ls.set i x).length=u.length+1:=(by simp[f4]);simp;refine b6V bi l5 rfl rfl (by rfl) ?_;obtain⟨Ls',aF⟩:∃Ls',Ls'=Ls.set i x:=⟨_,rfl⟩
    have aG:(Ls.map I).set i (I x)=Ls'.map I:=(by rw[aF,H9]);rw[←aF]at P E;by_cases aH:(a:Int)<(i:Int)+3
    . simp[J,aB,aC,aD,aE,f4,aG,aH];exact M (i,v9,G',Ls',R12',R13',R14',⟨.uu,_,_,_,_,_,.uu,.uu,.uu,.uu,.uu,.uu,.uu,.uu,.uu,.uu,.uu,.uu,.uu,.uu,.uu,.uu⟩) _ _ i9 ⟨s5,R,E,P,rfl,rfl⟩
    . have bj:=c5C m ⟨u,U1 S u.length G',Ls'⟩ S L i hm (b2G l R E P) i9 (by grind) i9 U an i9 ai;have c6:=@b6G S u.length N (u.length+1) v9 G';have c7:=@b5C S u.length (u.length+1) 0 v9 (G'.map I) Ls';obtain⟨r,⟨d,b,rfl,d1,d2⟩,bk⟩:=bj;simp[J,aB,aC,aD,aE,f4,aG,aH,↓c6 l R,↓c7 E];refine m6 bk ?_;cases b with
      |true=>
       simp;exact af _ _ _ ⟨rfl,(f:Int)-i,i,d,v9,G',Ls',R12',R13',R14',⟨_,_,_,_,_,_,.uu,.uu,.uu,.uu,.uu,.uu,.uu,.uu,.uu,.uu,.uu,.uu,.uu,.uu,.uu,.uu⟩,i9,i9,by rw[al];exact⟨d1,d2⟩,R,E,P,rfl,rfl⟩
      |false=>
       simp[J];exact M (i,v9,G',Ls',R12',R13',R14',⟨.uu,_,_,_,_,_,.uu,.uu,.uu,.uu,.uu,.uu,.uu,.uu,.uu,.uu,.uu,.uu,.uu,.uu,.uu,.uu⟩) _ _ i9 ⟨s5,R,E,P,rfl,rfl⟩
def X20:u7:=
 ⟨48,[0,1,2,3,5,6,7,8,9,45],4,[(5,some (true,3))],sq [.reg [F5 3 0 0,F5 4 1 2,ocs 5 2 0 0],.reg [od 0 4,ob 1 0,oew 1,oa 1,Q8 3,oae 4 1,ofx 2 5,oc 6 6],.reg [od 2 4,ob 1 0,od 2 4,ob 1 2,E0 3,oq (.minmax false [.l 4,oi 3]),ocw 1 1 5,oc 7 6],.reg [J0 6 3,obl 1 4 3,P6 1 1 3,⟨.conv .i64 (.l 2),none,none,[3]⟩,J0 1 3,⟨.len true (.l 4),none,none,[3]⟩,J0 6 3,⟨.bin .sub false (.l 5) (.l 6),none,none,[3]⟩,⟨.minmax false [.l 7,oi 5],none,none,[3]⟩,⟨.bin .add false (.l 8) (oi 1),none,none,[3]⟩,⟨.bin .rem false (.l 3) (.l 9),none,none,[3]⟩,obw 3 3 3,J0 7 3,⟨.call 59 [.l 11,.l 12] [(0,0)] false,none,none,[3]⟩,⟨.build [.int .i64 0,.int .i64 0,.str ⟨#[]⟩] [(0,1,.l 0),(1,1,.l 10),(2,1,.l 13)],none,none,[3]⟩,ocs 8 3 0 0,ok 3 15 14],sq [.reg [oa 1,Q8 0,od 2 8,ob 1 2,Q8 3,X2 1 4,odt 9 5 40],.cond (.v 9) (.reg [od 2 8,oq (.store 1 (.l 0) (.c (.str ⟨#[]⟩)))]) kc],kam 3 8 3 5 0,ko]⟩
def X21:u7:=
 ⟨30,[0,1,3,4],1,[(3,none)],sq [kab 2 0 1 3,.reg [od 0 2,ob 1 0,oea 1 0,os 2,om 1 2 3,oe 1 4 3,oec 5 0 3,ol 3 6,os 7,om 0 2 8,oe 1 9 8,og 0 8,⟨.len true (.l 11),none,some (.l 8,true),[]⟩,oca 10 12 8,ol 8 13,os 14,om 1 2 15,oe 1 16 15,og 0 15,⟨.len true (.l 18),none,some (.l 15,true),[]⟩,om 0 2 15,oe 1 20 15,⟨.bin .sub false (.l 19) (.l 21),none,some (.l 15,true),[]⟩,oca 17 22 15,ol 15 23,oc 3 24],ko]⟩
def X22:u7:=
 ⟨20,[0,1,3,4],1,[(3,none)],sq [.reg [F5 2 0 1,ow 3 (.mv (.c (.str ⟨#[]⟩)))],.reg [oa 0,od 0 2,ob 1 1,oq (.slice true 0 (.l 0) none (some (.l 2)) none),od 2 2,ob 1 4,X2 3 5,oa 0,od 0 2,ob 1 8,od 1 2,ob 1 10,X2 9 11,oq (.slice true 0 (.l 7) (some (.l 12)) none none),X2 6 13,oc 3 14],ko]⟩
def X25:u7:=
 ⟨21,[0,1,2,3,4,5,6,8,18],6,[(4,some (true,2)),(5,none)],sq [.reg [F5 2 0 0,F5 3 1 1,ocp 4 2,ox 5 0],.reg [oh 3 2,od 0 3,ob 1 1,ofi 11 0 2 3 1 4 1 0 0 0 0,os 3,oy 4 0,oy 4 1,oy 4 2,ocp 6 5,ok 2 8 5,os 6,oc 7 7],sq [.reg [oa 7,odr 8 0 0],.cond (.v 8) (sq [.reg [ofv,M1 2 4 0,ox 5 61],ko]) kc],.reg [oh 2 6,M1 2 4 0,ox 5 0],ko]⟩
def X26:u7:=
 ⟨17,[0,1,2,3,4],2,[(4,none)],sq [.reg [F5 2 0 0,F5 3 1 1,oo 4],.reg [od 0 2,ob 1 0,od 0 3,ob 1 2,U2 29 1 3 0 0,os 4,om 1 2 5,oe 1 6 5,om 1 3 5,oe 1 8 5,obb 63 7 9 0 0 5,ol 5 10,oc 4 11],ko]⟩
def X59:u7:=
 ⟨48,[0,1,2,4,5,6,7,21,43],1,[(3,none)],sq [.reg [F5 2 0 0,ow 3 (.mv (.c (.str ⟨#[]⟩)))],.reg [ow 4 (.mv (.c (.str ⟨#[]⟩)))],sq [kk 5 0,.block 0 (.loopS [1,2,4,5] 1 (sq [sq [.reg [oa 5,oa 1,E0 1,obu 0 2,os 3,og 5 4,obf 5 12 4,ol 4 6,os 7,om 2 2 8,oe 1 9 8,obn 10 8,⟨.bin .gtr false (.l 11) (oi 0),none,some (.l 8,true),[]⟩,P3 7 8 12],B6 7 0],.block 1 (sq [.reg [od 2 2,ob 1 0,oa 1,oa 5,oj 1 2 3,ob 1 4,oew 5,od 2 2,ob 1 7,E0 8,ofx 6 9,oj 6 1 10,ou 0 11,ob 1 12,oc 6 13],.reg [oa 4,Q8 0,oa 6,Q8 2,X2 1 3,ow 8 (.bin .leq false (.l 4) (oi 12))],.cond (.v 8) (.reg [oa 4,oa 6,X2 0 1,oc 4 2]) kc]),ki 5 0 1 5 1]))],kg 4 3 0,ko]⟩
def X63:u7:=
 ⟨26,[0,1,4,5,10,14,25],0,[(2,none)],sq [kj 2,sq [.reg [oa 0,E0 0,oa 1,E0 2,obx 4 1 3],.cond (.v 4) (U4 2) kc],sq [kk 3 0,.block 0 (.loopS [0,1,3] 0 (sq [sq [ku 3 0 1 5 0 2,B6 5 0],.block 1 (sq [.reg [oa 0,oa 3,oj 1 0 1,ob 1 2,oa 1,oa 3,oj 1 4 5,ob 1 6,obx 6 3 7],.cond (.v 6) (U4 2) kc]),ki 3 0 1 3 1]))],kz 2,ko]⟩
theorem O7:C4 20 X20:=C6
theorem P1:C4 21 X21:=C6
theorem c22:C4 22 X22:=C6
theorem c25:C4 25 X25:=C6
theorem c26:C4 26 X26:=C6
theorem c59:C4 59 X59:=C6
theorem c63:C4 63 X63:=C6
def X6:u7:=
 ⟨139,[0,1,2,3,6,7,8,9,11,12,13,14,15,16,18,20,21,22,23,25,26,28,45,53,66,88,112,119],16,[(4,none)],sq [kab 3 0 0 4,.reg [oq (.call 7 [] [(0,0)] false),oc 5 0],.reg [oh 3 3,oq (.call 8 [.l 0] [(0,0),(0,0),(1,6)] false),ocd 6 2 0 0,ok 3 2 1],.G7 [(1,true),(2,false)] (.reg [oh 3 6,oa 1,oct 10 0 1 0 0 0 0,os 2,oy 3 0,oy 3 1,oc 7 4,os 5]),.reg [oh 3 6,oa 7,ofi 19 0 1 0 0 3 1 4 1 0 0,os 2,oy 3 0,oy 3 1,odc 8 5,ok 3 6 4,oc 9 5],sq [.reg [oa 9,odr 22 0 0],.cond (.v 22) (U4 4) kc],sq [kk 10 0,.block 0 (.loopS [2,5,6,7,8,10] 16 (sq [sq [.reg [oa 10,oa 2,E0 1,obu 0 2,os 3,og 10 4,obf 5 3 4,P3 23 4 6],B6 23 0],.block 1 (sq [.reg [obw 3 6 6,J0 7 6,J0 2 6,J0 10 6,obm 3 2 3 6,odf 3 4 6,⟨.call 20 [.l 0,.l 1,.l 5] [(0,0),(0,0),(0,0)] false,none,none,[6]⟩,ocs 11 6 0 0,ok 3 7 6],sq [.reg [oa 7,oh 3 11,U2 21 0 1 0 0,Z3 24 2],kav 24 1],.reg [oa 7,oh 3 11,U2 22 0 1 0 0,oc 12 2],.reg [oh 3 6,oh 3 8,oh 3 11,oq (.call 23 [.l 0,.l 1,.l 2] [(0,0),(7,1),(8,1),(0,0),(0,0)] false),os 3,oy 4 0,oy 4 1,oy 4 2,odc 13 9,ok 3 8 5,os 6,oc 14 7],.reg [oa 12,ocr 24 0 0 0 0 0,os 1,oy 2 0,oy 2 1,os 3,oc 15 4],sq [.reg [oa 14,oga 0 0,os 1,L4 15 2,ocl 3 0 2,U0 25 2 4],.cond (.v 25) (U4 4) kc],.reg [oa 12,oh 3 13,oc 7 0,M1 3 8 1]]),ki 10 0 1 10 1]))],.reg [oh 3 6,oh 3 8,oq (.call 25 [.l 0,.l 1] [(10,1),(11,1),(0,0)] false),os 2,oy 3 0,oy 3 1,ocp 16 12,ok 2 6 4,oc 17 5],.reg [oh 3 6,oa 7,ofi 11 0 1 13 1 14 1 0 0 0 0,os 2,oy 3 0,oy 3 1,oy 3 2,ocp 18 15,ok 2 7 4,os 5,oc 19 6],sq [.reg [oa 17,oa 19,odz 0 1,os 2,och 2 16 3,och 2 18 3,oem 26 4 5 0 0 3,ocq 6 3,U0 26 3 7],.cond (.v 26) (U4 4) kc],sq [.reg [oa 19,oga 0 0,os 1,och 3 6 2,ocz 9 3 0 0 2,ocq 4 2,U0 27 2 5],kba 27 5 4 0],.reg [oh 3 6,od 0 16,ob 1 1,oq (.call 12 [.l 0,.l 2] [(0,0),(0,0),(0,0)] false),os 3,oy 4 0,oy 4 1,oy 4 2,oc 20 5,os 6,oc 21 7],.reg [oa 5,os 0,og 21 1,obs 2 0 1,ol 1 3,os 4,og 20 5,og 7 5,oat 6 7 5,ol 5 8,oc 4 9],ko]⟩
theorem c6:C4 6 X6:=C6
end Go.Proofs.YtbhfgadikmfjdaaGreat.T
