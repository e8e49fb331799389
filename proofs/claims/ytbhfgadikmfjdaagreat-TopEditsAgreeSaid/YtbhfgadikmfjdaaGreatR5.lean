/-
  The plain machine, that it is sound, and walks: part 5 (joined and shortened by a program of the prover's).
-/
import Derived.Test.YtbhfgadikmfjdaaGreatR4
import Derived.Test.YtbhfgadikmfjdaaGreatProg
import Derived.KernelRfl
set_option linter.unusedSimpArgs false
set_option linter.unusedVariables false
set_option linter.unusedSectionVars false
namespace Go.Proofs.YtbhfgadikmfjdaaGreat.T
open Go.Proofs.YtbhfgadikmfjdaaGreat.Am
set_option maxHeartbeats 16000000
section
variable{H:List p9}{k nx:Nat}{m:Int}
def LO(H:List p9)(k nx:Nat)(m:Int):Prop:=b1r (H.take k) nx m
theorem LO.b9T(h:LO H k nx m)(g:k<H.length){c:UInt8}{r:By}(i:H[k].r=c::r)(j:¬(nx≤c.toNat∧(m<0∨(c.toNat:Int)<m))):LO H (k+1) nx m:=by
 unfold LO at*;rw[L3,m7 g];rcases h with⟨h1,d⟩|⟨b,h1,d,e,l⟩
 . refine .inl ⟨h1,fun h a c' f hr=>?_⟩;rcases I4.1 a with a|a
   . exact d h a c' f hr
   . grind
 . refine .inr ⟨b,h1,d,?_,fun h a c' f hr n=>?_⟩
   . unfold isF at e⊢;rw[List.any_append,e];rfl
   . grind
theorem LO.take(h:LO H k nx m)(f:k<H.length){c:UInt8}{r:By}(g:H[k].r=c::r)(i:nx≤c.toNat∧(m<0∨(c.toNat:Int)<m)):LO H (k+1) nx c.toNat:=by
 unfold LO at*;rw[L3,m7 f];refine .inr ⟨c.toNat,rfl,i.1,?_,fun h' a c' d hr j=>?_⟩
 . exact a6s.2 ⟨H[k],a7N _ (H5.2 rfl),c,r,g,rfl⟩
 . rcases I4.1 a with a|a
   . rcases h with⟨h1,e⟩|⟨b,h1,e,n,l⟩
     . have:=e h' a c' d hr;omega
     . have:=l h' a c' d hr j;omega
   . grind
theorem LO.ge(h:LO H k nx m): -1≤m:=by rcases h with⟨h1,_⟩|⟨b,h1,_⟩<;>omega
theorem b8U(H:List p9)(nx:Nat)(l:∀h∈H,h.r≠ [])(s:H.length≤4000000000000)(t:nx≤256):∃r,(∃m:Int,r=I m∧b1r H nx m)∧F0 83 [0] [.fptr [.slc (H.map HQ),IN nx]] r:=by
 refine a1C mixed (X:=X83) c83 2 (by simp[X83]) (by kernel_rfl) fun Q n u=>?_;simp[X83];refine I6 (fun(y:Nat×Int) vs h=>y.1≤H.length∧LO H y.1 nx y.2∧vs=[.fptr [.slc (H.map HQ),IN nx],.uu,I y.2,.uu,.uu,.slc (H.map HQ),IN H.length,IN y.1,.uu,.uu]∧h=[dd,dd]) (fun y=>H.length-y.1) (0,-1) ?_ ?_
 . simp;exact .inl ⟨rfl,fun h o=>by simp at o⟩
 . rintro⟨k,m⟩ vs h ⟨p,d,rfl,rfl⟩ Q' g q v;dsimp only at p d;have w:=d.ge;by_cases a:k<H.length
   . have i:=wk1 k i9;obtain⟨c,r,b⟩:∃c r,H[k].r=c::r:=by
      cases hr:H[k].r with
      |nil=>exact absurd hr (l _ (B7 a))
      |cons c r=>exact⟨c,r,rfl⟩
     have x:=c.toNat_lt;have j:IntKind.i64.wrap (c.toNat:Int)=(c.toNat:Int):=I9;by_cases g1:nx≤c.toNat
     . by_cases g2:m<0
       . have f:=d.take a b ⟨g1,.inl g2⟩;simp[a,b,j,g1,g2,i];refine g (k+1,(c.toNat:Int)) _ _ i9 ?_;simp;exact⟨i9,f⟩
       . by_cases g3:(c.toNat:Int)<m
         . have f:=d.take a b ⟨g1,.inr g3⟩;simp[a,b,j,g1,g2,g3,i];refine g (k+1,(c.toNat:Int)) _ _ i9 ?_;simp;exact⟨i9,f⟩
         . have f:=d.b9T a b (fun e=>e.2.elim g2 g3);simp[a,b,j,g1,g2,g3,i];refine g (k+1,m) _ _ i9 ?_;simp;exact⟨i9,f⟩
     . have f:=d.b9T a b (fun e=>g1 e.1);simp[a,b,j,g1,i];refine g (k+1,m) _ _ i9 ?_;simp;exact⟨i9,f⟩
   . obtain rfl:k=H.length:=i9;simp;refine q _ _ _ ?_;simp;refine n _ _ _ ⟨m,rfl,?_⟩ ?_
     . have:=d;unfold LO at this;rwa[M4]at this
     . simp[X83]
theorem b2P(H:List p9)(b:Nat):(P7 H b).length≤H.length:=List.length_filterMap_le _ _
theorem c1L{b:Nat}(a:k<H.length):P7 (H.take (k+1)) b=P7 (H.take k) b++P7 [H[k]] b:=by unfold P7;rw[L3,m7 a,b4P];rfl
theorem b5N(H:List p9)(n:PV)(b:Nat)(hb:b<256)(o:∀h∈H,h.r≠ [])(t:H.length≤4000000000000):F0 84 [3] [.fptr [.slc (H.map HQ),n],UN b] (.uslc ((P7 H b).map HQ)):=by
 refine E4 c84 4 (by simp[X84]) fun Q p u=>?_;simp[X84];refine I6 (fun(k:Nat) vs h=>k≤H.length∧vs=[.uu,UN b,.uu,.own 3 1 (P7 (H.take k) b).length 3 0 (P7 (H.take k) b).length,.uu,.slc (H.map HQ),IN H.length,IN k,.uu,.uu]∧h=[dd,dd,dd,(1,.arr 3 0 false ((P7 (H.take k) b).map HQ))]) (fun k=>H.length-k) 0 ?_ ?_
 . simp[P7]
 . rintro k vs h ⟨v,rfl,rfl⟩ Q' i q w;have s:(P7 (H.take k) b).length≤k:=by
    have:=b2P (H.take k) b;rw[a1W]at this;exact V1 this (Nat.min_le_left _ _)
   by_cases d:k<H.length
   . have j:=wk1 k i9;obtain⟨c,r,f⟩:∃c r,H[k].r=c::r:=by
      cases hr:H[k].r with
      |nil=>exact absurd hr (o _ (B7 d))
      |cons c r=>exact⟨c,r,rfl⟩
     have a:=c1L (b:=b) d;by_cases g:c.toNat=b
     . have e:P7 [H[k]] b=[⟨H[k].p,H[k].x,r⟩]:=(by simp[P7,f,g]);rw[e]at a;obtain⟨B1,l⟩:=p7 (P7 (H.take k) b);obtain⟨B2,m⟩:=p7 (P7 (H.take (k+1)) b);rw[←l,←m]at a;rw[←l]at s⊢;have f1:B1.map HQ++[.agg [IN H[k].p,IN H[k].x,St r]]=B2.map HQ:=(by grind);have f2:B1.length+1=B2.length:=(by rw[a];simp);have f3:B2.length*32≤140737488355328:=i9;have f4:(1:Int)≤(r.length:Int)+1:=i9;simp[d,f,g,j,f1,f2,f3,f4];refine i (k+1) _ _ i9 ?_;simp[←m];omega
     . have e:P7 [H[k]] b=[]:=(by simp[P7,f,g]);rw[e,a1u]at a;simp[d,f,g,j];refine i (k+1) _ _ i9 ?_;simp[a];omega
   . obtain rfl:k=H.length:=i9;rw[M4]at*;simp;refine q _ _ _ ?_;simp;refine p _ _ ?_;simp[X84]
end
def X42:u7:=
 ⟨4,[0,1,2],8,[(2,none)],sq [.reg [F5 1 7 0,ow 2 (.mv (.c (.lit .nilFunc)))],.reg [oq (.mkfn (.func 81) [] [.v 1]),oc 2 0],ko]⟩
def X81:u7:=
 ⟨81,[0,1,3,4,5,6,7,8,22,28,37,75],16,[],sq [kad 2,.reg [E7 1 1,oq (.build [.int .i64 0,.int .i64 0] []),oq (.build [.int .i64 0,.int .i64 0,.str ⟨#[]⟩] [(0,2,.l 1)]),oq (.lit 3 [.agg [.int .i64 0,.int .i64 0,.str ⟨#[]⟩]] [(0,.l 2)]),oct 82 0 3 8 3 0 0,os 4,oy 5 0,oy 5 1,oc 3 6,oc 4 7],sq [.reg [oa 4,os 0,og 0 1,⟨.cally (.l 2) [.c (.str ⟨#[]⟩)],none,some (.l 1,true),[]⟩,odg 3 1,P3 8 1 4],.cond (.v 8) ko kc],.reg [oa 3,oq (.build [.nils,.int .i64 0] [(0,1,.l 0)]),oq (.mkarr 9 2 [.agg [.nils,.int .i64 0]] [(0,.l 1)]),oc 5 2],.G7 [(8,true),(9,false)] (.block 0 (.loop (sq [sq [.reg [oa 5,E0 0,odt 9 1 0],B6 9 0],.block 1 (sq [.reg [oa 5,oa 5,E0 1,obh 2 1,oj 2 0 3,oc 6 4],.reg [oa 6,T9 83 0 0 0,oc 7 1],sq [.reg [oa 7,ofh 10 0 0],.cond (.v 10) (sq [.reg [oa 5,oa 5,E0 1,obh 2 1,ocw 2 0 3,oc 5 4],.reg [oa 2,oa 2,E0 1,obh 2 1,oq (.minmax true [.l 3,oi 0]),ocw 1 0 4,oc 2 5],kl 1]) kc],.reg [oa 6,oa 7,oae 1 1,D9 0,ou 1 3,ok 1 4 2],.reg [oa 2,oa 7,oq (.conv .u8 (.l 1)),ofw 10 1 0 0 2,J3 11 1 1 1 0 3,oc 2 4],.reg [oef 1 1 12,oa 6,oa 7,oq (.conv .u8 (.l 2)),U2 84 1 3 12 3,oct 82 0 4 13 3 0 0,os 5,oy 6 0,oy 6 1,oc 3 7,oc 4 8],.G7 [(13,true)] (sq [sq [.reg [oa 4,os 0,og 0 1,og 2 1,⟨.convStr (.l 3),none,some (.l 1,true),[]⟩,⟨.cally (.l 2) [.l 4],none,some (.l 1,true),[]⟩,odg 5 1,P3 11 1 6],.cond (.v 11) ko kc],.reg [oa 5,oa 3,oq (.build [.nils,.int .i64 0] [(0,1,.l 1)]),oq (.mkarr 14 2 [.agg [.nils,.int .i64 0]] [(0,.l 2)]),J3 15 2 32 1 0 3,oc 5 4]])])])))]⟩
theorem c42:O1 Tryz.prog 42 7=some X42:=by kernel_rfl
theorem c81:O1 Tryz.prog 81 8=some {X81 with body:=I1 X81.body}:=by kernel_rfl
abbrev SE(f:List p9×Nat):PV:=.agg [.slc (f.1.map HQ),IN f.2]
def TX(tv:PV)(R:Row)(u:By):Prop:=(tv=.nils∧u=[]∧∃g,R=(g,.dead))∨∃(g ver:Nat) (T:By) (n:Nat),tv=.own 11 g T.length 1 0 n∧R=(g,.arr 1 ver false (T.map UB))∧n≤T.length∧u=T.take n∧T.length≤4000000000
structure RC7 where
 (r0 r1 r2 r3 r4 r5 r6 r13:Row)
structure TV where
 (w3 w4 w6 w7 w8 w9 w10 w11:PV)
def StO(t:j9)(l:List Nat)(gd:List A8)(S:List (List p9×Nat))(n:Nat)(u:By):Prop:=∀i H nx,i<n→S[i]?=some (H,nx)→FrO t l gd (u.take i) H∧H.Nodup∧nx≤256
theorem c6m(t:j9)(ae:s8 t)(l:List Nat)(b7:l.length≤500000000)(gd:List A8)(af:RDs t l gd)(HB:Nat)(bJ:∀(u:By) (H:List p9),FrO t l gd u H→H.Nodup→H.length≤HB)(b8:1≤HB)(b9:HB+(l.length+1)*((j4 t).length*t.rules.length)≤4000000000000)
 {Y:YT} (aw:a8h Y) {K:Option Q7→l7→Prop} (ax:Nat→List Row→Prop) (a0 G a2 a3 a4 a5 I:Row) (g7:Nat) (bK:ax 0 [a0,G,a2,a3,a4,a5,I])
 (ay:∀(k:Nat) (x:By) (r0 r1 r2 r3 r4 r5 r6:Row) (tail:List Row),(a6c t l gd)[k]?=some x→ax k [r0,r1,r2,r3,r4,r5,r6]→Y [St x] (r0::r1::r2::r3::r4::r5::r6::tail) (fun p h'=>∃a8 O a9 N ba bb bc,h'=a8::O::a9::N::ba::bb::bc::tail∧(match p with
  |none=>ax (k+1) [a8,O,a9,N,ba,bb,bc]
  |some e=>∀tail,K (some e) (a8::O::a9::N::ba::bb::bc::tail))))
 (bd:∀(r0 r1 r2 r3 r4 r5 r6:Row) (tail:List Row),ax (a6c t l gd).length [r0,r1,r2,r3,r4,r5,r6]→K none (r0::r1::r2::r3::r4::r5::r6::tail)):
 IT Tryz.prog (.fn (.func 81) [] [.ptr 7 g7 0]) Y [a0,G,a2,a3,a4,a5,I,(g7,.var [RD t l gd]),dd,dd,dd,dd,dd,dd,dd,dd] K:=by
 refine b9W mixed (X:=X81) c81 rfl (by rfl) aw (by simp[X81]) l5 ?_;intro bL Q az bM;have be:=b2c t ae l i9 gd af [⟨0,0,[]⟩] (by unfold a0I;simp;omega);obtain⟨E,ag⟩:=p7 (a6c t l gd);rw[←ag]at ay bd;obtain⟨f1,f2⟩:=FrO.first ae af (t:=t) (l:=l) (gd:=gd);have bN:=(a8N ae af [⟨0,0,[]⟩]).nodup;unfold a6c at ag;obtain⟨H0,bQ⟩:=p7 ((Z5 t l gd [⟨0,0,[]⟩]).1.2.2);obtain⟨bR,bS⟩:=p7 ((Z5 t l gd [⟨0,0,[]⟩]).2);rw[←bQ]at ag be f1 bN;rw[←bS]at ag be f2;simp[X81];refine m6 be ?_;simp;obtain⟨D,bT⟩:=p7 (4*l.length+1);have bU:en t l gd (4*l.length+1) H0 []=W9 t l gd D [(H0,0)] []:=by rw[bT];show _=(T7 H0 0).flatMap _++W9 t l gd _ [] _;rw[show W9 t l gd (4*l.length+1+1) [] ([]:By).dropLast=[]from by rw[W9],a1u];rfl
 rw[bU]at ag;have bO:StO t l gd [(H0,0)] 1 []:=fun i H nx hi aA=>by obtain rfl:i=0:=i9;cases aA;exact⟨f1,bN,i9⟩
 cases bR with
 |true=>
  rw[if_pos rfl]at ag;simp;refine a4O rfl rfl ?_;refine aw _ _ _ _ ?_ (ay 0 [] a0 G a2 a3 a4 a5 I _ (by rw[ag];rfl) bK);rintro p h' ⟨a0,G,a2,a3,a4,a5,I,rfl,hp⟩;refine⟨rfl,?_⟩;cases p with
  |some e=>
   simp;refine az (some e) _ _ (by rfl) (hp _)
  |none=>
   obtain⟨ah,bf,bg,bh⟩:∃ah,ax ah [a0,G,a2,a3,a4,a5,I]∧E.drop ah=W9 t l gd D [(H0,0)] []∧ah≤E.length:=⟨1,hp,by rw[ag];rfl,by rw[ag];simp⟩
   simp;refine E3 (fun(y:Nat×PV×Row×By×List (List p9×Nat)×Nat×Nat×Nat×Row×Nat×RC7×TV) vs h=>y.1≤E.length∧ax y.1 [y.2.2.2.2.2.2.2.2.2.2.1.r0,y.2.2.2.2.2.2.2.2.2.2.1.r1,y.2.2.2.2.2.2.2.2.2.2.1.r2,y.2.2.2.2.2.2.2.2.2.2.1.r3,y.2.2.2.2.2.2.2.2.2.2.1.r4,y.2.2.2.2.2.2.2.2.2.2.1.r5,y.2.2.2.2.2.2.2.2.2.2.1.r6]∧E.drop y.1=W9 t l gd (D+1-y.2.2.2.2.2.1) ((y.2.2.2.2.1.take y.2.2.2.2.2.1).reverse) y.2.2.2.1∧TX y.2.1 y.2.2.1 y.2.2.2.1∧y.2.2.2.2.2.1≤y.2.2.2.2.1.length∧y.2.2.2.2.1.length≤D∧(y.2.2.2.2.2.1=0∧y.2.2.2.1=[]∨y.2.2.2.1.length+1=y.2.2.2.2.2.1)∧StO t l gd y.2.2.2.2.1 y.2.2.2.2.2.1 y.2.2.2.1∧
    vs=[.fn (.yield bL) [] [],.ptr 7 g7 0,y.2.1,y.2.2.2.2.2.2.2.2.2.2.2.w3,y.2.2.2.2.2.2.2.2.2.2.2.w4,.own 9 1 y.2.2.2.2.1.length 2 0 y.2.2.2.2.2.1,y.2.2.2.2.2.2.2.2.2.2.2.w6,y.2.2.2.2.2.2.2.2.2.2.2.w7,y.2.2.2.2.2.2.2.2.2.2.2.w8,y.2.2.2.2.2.2.2.2.2.2.2.w9,y.2.2.2.2.2.2.2.2.2.2.2.w10,y.2.2.2.2.2.2.2.2.2.2.2.w11,gOf none]∧h=[y.2.2.2.2.2.2.2.2.2.2.1.r0,y.2.2.2.2.2.2.2.2.2.2.1.r1,y.2.2.2.2.2.2.2.2.2.2.1.r2,y.2.2.2.2.2.2.2.2.2.2.1.r3,y.2.2.2.2.2.2.2.2.2.2.1.r4,y.2.2.2.2.2.2.2.2.2.2.1.r5,y.2.2.2.2.2.2.2.2.2.2.1.r6,(g7,.var [RD t l gd]),(1,.arr 3 1 true (H0.map HQ)),(1,.arr 2 y.2.2.2.2.2.2.1 false (y.2.2.2.2.1.map SE)),(y.2.2.2.2.2.2.2.1,.dead),y.2.2.1,y.2.2.2.2.2.2.2.2.1,y.2.2.2.2.2.2.2.2.2.2.1.r13,(y.2.2.2.2.2.2.2.2.2.1,.dead),dd]) (fun y=>a0h t l gd (D+1-y.2.2.2.2.2.1) ((y.2.2.2.2.1.take y.2.2.2.2.2.1).reverse))
    (ah,.nils,dd,[],[(H0,0)],1,_,_,dd,0,⟨a0,G,a2,a3,a4,a5,I,dd⟩,⟨_,_,_,_,_,_,_,_⟩) ⟨bh,bf,bg,.inl ⟨rfl,rfl,0,rfl⟩,m9 _,I2,.inr rfl,bO,rfl,rfl⟩ ?_
   rintro⟨k,tv,R10,u,S,n,aR,g9,R11,g13,⟨r0,r1,r2,r3,r4,r5,r6,r13⟩,⟨w3,w4,w6,w7,w8,w9,w10,w11⟩⟩ vs h ⟨z0,B,z2,z3,z4,z5,bi,an,rfl,rfl⟩ Q3 C bj aB;dsimp only at z0 B z2 z3 z4 z5 bi an;by_cases bk:n=0
   . subst bk;have bP:E.drop k=[]:=(by rw[z2,List.take_zero,List.reverse_nil,W9]);have bl:k=E.length:=(by grind);rw[bl]at B;simp;refine bj _ _ _ ?_;simp;exact bM none _ _ (by rfl) (bd _ _ _ _ _ _ _ _ B)
   . obtain⟨m,hm⟩:∃m,n=m+1:=⟨n-1,i9⟩
     have bm:0<n:=i9;have aS:m<n:=i9;have aT:m≤n:=i9;have aC:IntKind.i64.wrap ((n:Int)-1)=(m:Int):=(by rw[wrap_ok i9 i9];omega);have U:m<S.length:=i9;have bn:u.length=m:=i9;have bo:u.take m=u:=S7 i9;obtain⟨⟨H,nx⟩,hS⟩:∃f,S[m]=f:=⟨_,rfl⟩
     have bp:(S.take n).reverse=(H,nx)::(S.take m).reverse:=(by rw[hm,L3,m7 U,hS];simp);obtain⟨ai,bq,br⟩:=an m H nx aS (by grind);rw[bo]at ai;have aU:∀h∈H,h.r≠ []:=fun h aD=>((ai h).1 aD).2;have bV:=bJ u H ai bq;obtain⟨r,⟨bW,rfl,bs⟩,bt⟩:=b8U H nx aU i9 br;have hd:D+1-n=D-m:=i9;have bX:D+1-m=(D-m)+1∨D<m:=i9;simp[bm,aC,aS,U,hS];refine m6 bt ?_;rcases bs.T7 with⟨rfl,aE⟩|⟨b,rfl,bY,aV,bu,aE⟩
     . obtain⟨R,aj⟩:=b5A (t:=t) (l:=l) (gd:=gd) (d:=D+1-n) (S:=(S.take m).reverse) (u:=u) aE;rw[show D+1-n+1=D+1-m by omega]at R aj;have P:E.drop k=W9 t l gd (D+1-m) ((S.take m).reverse) u.dropLast:=(by rw[z2,bp,R]);have z:a0h t l gd (D+1-m) ((S.take m).reverse)<a0h t l gd (D+1-n) ((S.take n).reverse):=(by grind);have hdl:u.dropLast=u.take (m-1):=(by rw[List.dropLast_eq_take,bn]);have v:m=0∧u.dropLast=[]∨u.dropLast.length+1=m:=(by grind);have w:StO t l gd S m u.dropLast:=fun i H' ao hi aA=>by
        have:=an i H' ao i9 aA;rw[hdl,List.take_take,Nat.min_eq_left i9];exact this
       have bv:IntKind.i64.wrap (-1)= -1:=I9;rcases z3 with⟨rfl,rfl,g,rfl⟩|⟨g,ver,T,j,rfl,rfl,h1,rfl,aF⟩
       . simp[aC,aT,bv];exact C (k,.nils,(g,.dead),[],S,m,aR,g9,R11,g13,⟨r0,r1,r2,r3,r4,r5,r6,r13⟩,⟨_,_,_,_,_,_,_,_⟩) _ _ z ⟨z0,B,P,.inl ⟨rfl,rfl,g,rfl⟩,s5,z5,v,w,rfl,rfl⟩
       . have bw:IntKind.i64.wrap ((j:Int)-1)=(j:Int)-1:=I9;have aW:(if(j:Int)-1<0 then 0 else(j:Int)-1)=((j-1:Nat):Int):=(by split<;>omega);obtain⟨ap,bx⟩:=p7 (j-1);rw[←bx]at aW;have bz:ap≤j:=i9;have bA:(T.take j).dropLast=T.take ap:=(by grind);simp[aC,aT,bw,aW,bz];exact C (k,.own 11 g T.length 1 0 ap,(g,.arr 1 ver false (T.map UB)),(T.take j).dropLast,S,m,aR,g9,R11,g13,⟨r0,r1,r2,r3,r4,r5,r6,r13⟩,⟨_,_,_,_,_,_,_,_⟩) _ _ z ⟨z0,B,P,.inr ⟨g,ver,T,ap,rfl,rfl,i9,bA,aF⟩,s5,z5,v,w,rfl,rfl⟩
     . have bZ:S[m]?=some (H,nx):=(by rw[m7 U,hS]);have aG:=wk1 b i9;have aH:IntKind.u8.wrap (b:Int)=(b:Int):=(by simp[IntKind.wrap,IntKind.signed,IntKind.bits];omega);obtain⟨c,aI⟩:=p7 (UInt8.ofNat b);have aJ:c.toNat=b:=(by rw[aI];exact ofNat_toNat aV);obtain⟨S1,aq⟩:=p7 (S.set m (H,b+1));have A:S1.length=S.length:=(by rw[aq];simp);have aK:(S.map SE).set m (.agg [.slc (H.map HQ),.int .i64 ((b:Int)+1)])=S1.map SE:=(by rw[aq,H9];rfl);have ar:S1[m]'i9=(H,b+1):=(by simp[aq]);have b0:(S1.map SE)[m]?=some (SE (H,b+1)):=(by grind);obtain⟨aX,bB⟩:=ai.next ae af aJ;have aY:=(a8N ae af (P7 H b)).nodup;have b1:=b2P H b;have ak:=b2c t ae l i9 gd af (P7 H b) (by unfold a0I;omega);have aL:=b5N H (IN (b+1)) b aV aU i9;have b2:u.length+1≤4*l.length:=by
        obtain⟨h,aD,c',b3,hr,_⟩:=a6s.1 bu;have:=((ai h).1 aD).1.len ae af;rw[hr]at this;simp at this;omega
       have b4:n+1≤D:=i9;obtain⟨R,aj⟩:=b5P (t:=t) (l:=l) (gd:=gd) (d:=D-n) (u:=u) (S:=(S.take m).reverse) aE (.inl i9);rw[show D-n+1=D+1-n by omega,←aI]at R;rw[show D-n+1=D+1-n by omega]at aj;obtain⟨HN,aZ⟩:=p7 ((Z5 t l gd (P7 H b)).1.2.2);obtain⟨V,a1⟩:=p7 ((Z5 t l gd (P7 H b)).2);rw[←aZ]at ak aX aY;rw[←a1]at ak bB;unfold nxH nxE at R;unfold nxH at aj;rw[←aZ]at R aj;rw[←a1]at R;obtain⟨S2,al⟩:∃S2,S2=S1.take n++(HN,0)::S1.drop (n+1):=⟨_,rfl⟩
       have o:S2.length≤D∧n+1≤S2.length:=by rw[al];simp;omega
       have bC:S2.take (n+1)=S1.take n++[(HN,0)]:=(by grind);have bD:S1.take n=S.take m++[(H,b+1)]:=by rw[hm,L3,m7 i9,ar,aq,List.take_set_of_le (m9 m)];rfl
       have b5:(S2.take (n+1)).reverse=(HN,0)::(H,b+1)::(S.take m).reverse:=(by grind);have P:E.drop k=(if V=true then [u++[c]]else [])++W9 t l gd (D+1-(n+1)) ((S2.take (n+1)).reverse) (u++[c]):=(by grind);have z:a0h t l gd (D+1-(n+1)) ((S2.take (n+1)).reverse)<a0h t l gd (D+1-n) ((S.take n).reverse):=(by grind);have w:StO t l gd S2 (n+1) (u++[c]):=fun i H' ao hi aA=>by
        have am:(S2.take (n+1))[i]?=some (H',ao):=(by grind);rw[bC,bD]at am;by_cases h1:i<m
        . rw[a1k I2,a1k I2,a0y,if_pos h1]at am;have:=an i H' ao i9 am;rw[List.take_append_of_le_length i9];exact this
        . by_cases aF:i=m
          . grind
          . have bE:i=n:=i9;subst bE;have e:(S.take m++[(H,b+1)]++[(HN,0)])[i]?=some (HN,0):=(by grind);rw[e]at am;cases am;rw[S7 I2];exact⟨aX,aY,i9⟩
       have v:n+1=0∧u++[c]=[]∨(u++[c]).length+1=n+1:=(by grind);have W:S1.length*32≤140737488355328∧(n+1)*32≤140737488355328:=i9;have au:V=true→E[k]?=some (u++[c])∧E.drop (k+1)=W9 t l gd (D+1-(n+1)) ((S2.take (n+1)).reverse) (u++[c])∧k+1≤E.length:=fun he=>by
        rw[if_pos he]at P;have h1:=congrArg (fun q:List By=>q[0]?) P;simp at h1;refine⟨h1,?_,?_⟩
        . rw[←a2X,P];rfl
        . grind
       have av:V=false→E.drop k=W9 t l gd (D+1-(n+1)) ((S2.take (n+1)).reverse) (u++[c]):=fun he=>by rw[he]at P;simpa using P
       have Z:n=S.length→S1.map SE++[.agg [.slc (HN.map HQ),.int .i64 0]]=S2.map SE:=fun e=>by rw[al,S7 i9,b4M i9,Q9];rfl
       have J:n=S.length→S.length+1=S2.length:=fun e=>(by rw[al];simp;omega);have aa:(S1.map SE).take n++ .agg [.slc (HN.map HQ),.int .i64 0]::(S1.map SE).drop (n+1)=S2.map SE:=by rw[al,Q9,a1X,a0N,a1J];rfl
       have ab:n≠S.length→n+(S.length-(n+1)+1)=S2.length:=fun e=>(by rw[al];simp;omega);have ac:n=S.length→S2.length*32≤140737488355328:=fun e=>(by have:=o.1;omega);obtain⟨uu,aM⟩:=p7 (u++[c]);rw[←aM]at P v w au av;rcases z3 with⟨rfl,rfl,g,rfl⟩|⟨g,ver,T,j,rfl,rfl,h1,rfl,aF⟩
       . have bF:a1y [.int .u8 (b:Int)]=some uu:=(by rw[aM,aI];simp[a1y,a7A]);have F:TX (.own 11 (g+1) 1 1 0 1) (g+1,.arr 1 0 false [.int .u8 (b:Int)]) uu:=.inr ⟨g+1,0,[c],1,rfl,by rw[←aJ];rfl,l5,by rw[aM];simp,l5⟩;simp[hS,aG,aK,aH,ar,A,U];refine m6 aL ?_;simp;refine m6 ak ?_;simp;cases V with
         |false=>
          have s:=av rfl;by_cases a:n=S.length
          . have L:n+1=S2.length:=(by have:=J a;omega);simp[Z a,J a,a,A,o.1,ac a];rw[L]at z s v w;exact C (k,.own 11 (g+1) 1 1 0 1,(g+1,.arr 1 0 false [.int .u8 (b:Int)]),uu,S2,S2.length,_,_,_,_,⟨r0,r1,r2,r3,r4,r5,r6,_⟩,⟨_,_,_,_,_,_,_,_⟩) _ _ z ⟨z0,B,s,F,m9 _,o.1,v,w,rfl,rfl⟩
          . have M:n≤S.length:=z4;simp[aa,ab a,a,A,M,W.2];exact C (k,.own 11 (g+1) 1 1 0 1,(g+1,.arr 1 0 false [.int .u8 (b:Int)]),uu,S2,n+1,_,_,_,_,⟨r0,r1,r2,r3,r4,r5,r6,_⟩,⟨_,_,_,_,_,_,_,_⟩) _ _ z ⟨z0,B,s,F,o.2,o.1,v,w,rfl,rfl⟩
         |true=>
          obtain⟨O,s,N⟩:=au rfl;simp[bF];refine a4O rfl rfl ?_;refine aw _ _ _ _ ?_ (ay k uu r0 r1 r2 r3 r4 r5 r6 _ O B);rintro p h' ⟨a0,G,a2,a3,a4,a5,I,rfl,hp⟩;refine⟨rfl,?_⟩;cases p with
          |some e=>
           simp;refine aB _ _ ?_;exact az (some e) _ _ (by rfl) (hp _)
          |none=>
           simp;by_cases a:n=S.length
           . have L:n+1=S2.length:=(by have:=J a;omega);simp[Z a,J a,a,A,o.1,ac a];rw[L]at z s v w;exact C (k+1,.own 11 (g+1) 1 1 0 1,(g+1,.arr 1 0 false [.int .u8 (b:Int)]),uu,S2,S2.length,_,_,_,_,⟨a0,G,a2,a3,a4,a5,I,_⟩,⟨_,_,_,_,_,_,_,_⟩) _ _ z ⟨N,hp,s,F,m9 _,o.1,v,w,rfl,rfl⟩
           . have M:n≤S.length:=z4;simp[aa,ab a,a,A,M,W.2];exact C (k+1,.own 11 (g+1) 1 1 0 1,(g+1,.arr 1 0 false [.int .u8 (b:Int)]),uu,S2,n+1,_,_,_,_,⟨a0,G,a2,a3,a4,a5,I,_⟩,⟨_,_,_,_,_,_,_,_⟩) _ _ z ⟨N,hp,s,F,o.2,o.1,v,w,rfl,rfl⟩
       . have b6:(T.take j).length=j:=(by rw[a1W];omega);by_cases a6:j=T.length
         . obtain⟨T2,aN⟩:=p7 (T++[c]);have aO:T.map UB++[.int .u8 (b:Int)]=T2.map UB:=(by grind);have aP:T.length+1=T2.length:=(by rw[aN];simp);have aQ:T2.length≤140737488355328:=i9;have ad:uu=T2:=(by grind);have F:TX (.own 11 g T2.length 1 0 T2.length) (g,.arr 1 ver false (T2.map UB)) uu:=.inr ⟨g,ver,T2,T2.length,rfl,rfl,m9 _,by rw[ad,M4],i9⟩;simp[hS,aG,aK,aH,ar,A,U,a6,aO,aP,aQ];refine m6 aL ?_;simp;refine m6 ak ?_;simp;cases V with
           |false=>
            have s:=av rfl;by_cases a:n=S.length
            . have L:n+1=S2.length:=(by have:=J a;omega);simp[Z a,J a,a,A,o.1,ac a];rw[L]at z s v w;exact C (k,.own 11 g T2.length 1 0 T2.length,(g,.arr 1 ver false (T2.map UB)),uu,S2,S2.length,_,_,_,_,⟨r0,r1,r2,r3,r4,r5,r6,_⟩,⟨_,_,_,_,_,_,_,_⟩) _ _ z ⟨z0,B,s,F,m9 _,o.1,v,w,rfl,rfl⟩
            . have M:n≤S.length:=z4;simp[aa,ab a,a,A,M,W.2];exact C (k,.own 11 g T2.length 1 0 T2.length,(g,.arr 1 ver false (T2.map UB)),uu,S2,n+1,_,_,_,_,⟨r0,r1,r2,r3,r4,r5,r6,_⟩,⟨_,_,_,_,_,_,_,_⟩) _ _ z ⟨z0,B,s,F,o.2,o.1,v,w,rfl,rfl⟩
           |true=>
            obtain⟨O,s,N⟩:=au rfl;have O:E[k]?=some T2:=ad▸O;simp[];refine a4O rfl rfl ?_;refine aw _ _ _ _ ?_ (ay k T2 r0 r1 r2 r3 r4 r5 r6 _ O B);rintro p h' ⟨a0,G,a2,a3,a4,a5,I,rfl,hp⟩;refine⟨rfl,?_⟩;cases p with
            |some e=>
             simp;refine aB _ _ ?_;exact az (some e) _ _ (by rfl) (hp _)
            |none=>
             simp;by_cases a:n=S.length
             . have L:n+1=S2.length:=(by have:=J a;omega);simp[Z a,J a,a,A,o.1,ac a];rw[L]at z s v w;exact C (k+1,.own 11 g T2.length 1 0 T2.length,(g,.arr 1 ver false (T2.map UB)),uu,S2,S2.length,_,_,_,_,⟨a0,G,a2,a3,a4,a5,I,_⟩,⟨_,_,_,_,_,_,_,_⟩) _ _ z ⟨N,hp,s,F,m9 _,o.1,v,w,rfl,rfl⟩
             . have M:n≤S.length:=z4;simp[aa,ab a,a,A,M,W.2];exact C (k+1,.own 11 g T2.length 1 0 T2.length,(g,.arr 1 ver false (T2.map UB)),uu,S2,n+1,_,_,_,_,⟨a0,G,a2,a3,a4,a5,I,_⟩,⟨_,_,_,_,_,_,_,_⟩) _ _ z ⟨N,hp,s,F,o.2,o.1,v,w,rfl,rfl⟩
         . obtain⟨T2,aN⟩:∃T2,T2=T.take j++c::T.drop (j+1):=⟨_,rfl⟩
           have aO:(T.map UB).take j++ .int .u8 (b:Int)::(T.map UB).drop (j+1)=T2.map UB:=(by rw[aN,Q9,a1X,a0N,a1J,←aJ]);have aP:j+(T.length-(j+1)+1)=T2.length:=(by grind);have aQ:j+1≤140737488355328:=i9;have bG:j≤T.length:=h1;have a7:j+1≤T2.length:=i9;have ad:T2.take (j+1)=uu:=(by grind);have bH:a1y ((T2.map UB).take (j+1))=some uu:=(by rw[←a1X,a8T,ad]);have bI:a1y ((T2.take (j+1)).map UB)=some uu:=(by rw[a8T,ad]);have F:TX (.own 11 g T2.length 1 0 (j+1)) (g,.arr 1 (ver+1) false (T2.map UB)) uu:=.inr ⟨g,ver+1,T2,j+1,rfl,rfl,a7,ad.symm,i9⟩;simp[hS,aG,aK,aH,ar,A,U,a6,bG,aO,aP,aQ];refine m6 aL ?_;simp;refine m6 ak ?_;simp;cases V with
           |false=>
            have s:=av rfl;by_cases a:n=S.length
            . have L:n+1=S2.length:=(by have:=J a;omega);simp[Z a,J a,a,A,o.1,ac a];rw[L]at z s v w;exact C (k,.own 11 g T2.length 1 0 (j+1),(g,.arr 1 (ver+1) false (T2.map UB)),uu,S2,S2.length,_,_,_,_,⟨r0,r1,r2,r3,r4,r5,r6,_⟩,⟨_,_,_,_,_,_,_,_⟩) _ _ z ⟨z0,B,s,F,m9 _,o.1,v,w,rfl,rfl⟩
            . have M:n≤S.length:=z4;simp[aa,ab a,a,A,M,W.2];exact C (k,.own 11 g T2.length 1 0 (j+1),(g,.arr 1 (ver+1) false (T2.map UB)),uu,S2,n+1,_,_,_,_,⟨r0,r1,r2,r3,r4,r5,r6,_⟩,⟨_,_,_,_,_,_,_,_⟩) _ _ z ⟨z0,B,s,F,o.2,o.1,v,w,rfl,rfl⟩
           |true=>
            obtain⟨O,s,N⟩:=au rfl;simp[bH,bI,a7];refine a4O rfl rfl ?_;refine aw _ _ _ _ ?_ (ay k uu r0 r1 r2 r3 r4 r5 r6 _ O B);rintro p h' ⟨a0,G,a2,a3,a4,a5,I,rfl,hp⟩;refine⟨rfl,?_⟩;cases p with
            |some e=>
             simp;refine aB _ _ ?_;exact az (some e) _ _ (by rfl) (hp _)
            |none=>
             simp;by_cases a:n=S.length
             . have L:n+1=S2.length:=(by have:=J a;omega);simp[Z a,J a,a,A,o.1,ac a];rw[L]at z s v w;exact C (k+1,.own 11 g T2.length 1 0 (j+1),(g,.arr 1 (ver+1) false (T2.map UB)),uu,S2,S2.length,_,_,_,_,⟨a0,G,a2,a3,a4,a5,I,_⟩,⟨_,_,_,_,_,_,_,_⟩) _ _ z ⟨N,hp,s,F,m9 _,o.1,v,w,rfl,rfl⟩
             . have M:n≤S.length:=z4;simp[aa,ab a,a,A,M,W.2];exact C (k+1,.own 11 g T2.length 1 0 (j+1),(g,.arr 1 (ver+1) false (T2.map UB)),uu,S2,n+1,_,_,_,_,⟨a0,G,a2,a3,a4,a5,I,_⟩,⟨_,_,_,_,_,_,_,_⟩) _ _ z ⟨N,hp,s,F,o.2,o.1,v,w,rfl,rfl⟩
 |false=>
  rw[if_neg l5,a4C]at ag;obtain⟨ah,bf,bg,bh⟩:∃ah,ax ah [a0,G,a2,a3,a4,a5,I]∧E.drop ah=W9 t l gd D [(H0,0)] []∧ah≤E.length:=⟨0,bK,by rw[ag];rfl,D6 _⟩
  simp;refine E3 (fun(y:Nat×PV×Row×By×List (List p9×Nat)×Nat×Nat×Nat×Row×Nat×RC7×TV) vs h=>y.1≤E.length∧ax y.1 [y.2.2.2.2.2.2.2.2.2.2.1.r0,y.2.2.2.2.2.2.2.2.2.2.1.r1,y.2.2.2.2.2.2.2.2.2.2.1.r2,y.2.2.2.2.2.2.2.2.2.2.1.r3,y.2.2.2.2.2.2.2.2.2.2.1.r4,y.2.2.2.2.2.2.2.2.2.2.1.r5,y.2.2.2.2.2.2.2.2.2.2.1.r6]∧E.drop y.1=W9 t l gd (D+1-y.2.2.2.2.2.1) ((y.2.2.2.2.1.take y.2.2.2.2.2.1).reverse) y.2.2.2.1∧TX y.2.1 y.2.2.1 y.2.2.2.1∧y.2.2.2.2.2.1≤y.2.2.2.2.1.length∧y.2.2.2.2.1.length≤D∧(y.2.2.2.2.2.1=0∧y.2.2.2.1=[]∨y.2.2.2.1.length+1=y.2.2.2.2.2.1)∧StO t l gd y.2.2.2.2.1 y.2.2.2.2.2.1 y.2.2.2.1∧
   vs=[.fn (.yield bL) [] [],.ptr 7 g7 0,y.2.1,y.2.2.2.2.2.2.2.2.2.2.2.w3,y.2.2.2.2.2.2.2.2.2.2.2.w4,.own 9 1 y.2.2.2.2.1.length 2 0 y.2.2.2.2.2.1,y.2.2.2.2.2.2.2.2.2.2.2.w6,y.2.2.2.2.2.2.2.2.2.2.2.w7,y.2.2.2.2.2.2.2.2.2.2.2.w8,y.2.2.2.2.2.2.2.2.2.2.2.w9,y.2.2.2.2.2.2.2.2.2.2.2.w10,y.2.2.2.2.2.2.2.2.2.2.2.w11,gOf none]∧h=[y.2.2.2.2.2.2.2.2.2.2.1.r0,y.2.2.2.2.2.2.2.2.2.2.1.r1,y.2.2.2.2.2.2.2.2.2.2.1.r2,y.2.2.2.2.2.2.2.2.2.2.1.r3,y.2.2.2.2.2.2.2.2.2.2.1.r4,y.2.2.2.2.2.2.2.2.2.2.1.r5,y.2.2.2.2.2.2.2.2.2.2.1.r6,(g7,.var [RD t l gd]),(1,.arr 3 1 true (H0.map HQ)),(1,.arr 2 y.2.2.2.2.2.2.1 false (y.2.2.2.2.1.map SE)),(y.2.2.2.2.2.2.2.1,.dead),y.2.2.1,y.2.2.2.2.2.2.2.2.1,y.2.2.2.2.2.2.2.2.2.2.1.r13,(y.2.2.2.2.2.2.2.2.2.1,.dead),dd]) (fun y=>a0h t l gd (D+1-y.2.2.2.2.2.1) ((y.2.2.2.2.1.take y.2.2.2.2.2.1).reverse))
   (ah,.nils,dd,[],[(H0,0)],1,_,_,dd,0,⟨a0,G,a2,a3,a4,a5,I,dd⟩,⟨_,_,_,_,_,_,_,_⟩) ⟨bh,bf,bg,.inl ⟨rfl,rfl,0,rfl⟩,m9 _,I2,.inr rfl,bO,rfl,rfl⟩ ?_
  rintro⟨k,tv,R10,u,S,n,aR,g9,R11,g13,⟨r0,r1,r2,r3,r4,r5,r6,r13⟩,⟨w3,w4,w6,w7,w8,w9,w10,w11⟩⟩ vs h ⟨z0,B,z2,z3,z4,z5,bi,an,rfl,rfl⟩ Q3 C bj aB;dsimp only at z0 B z2 z3 z4 z5 bi an;by_cases bk:n=0
  . subst bk;have bP:E.drop k=[]:=(by rw[z2,List.take_zero,List.reverse_nil,W9]);have bl:k=E.length:=(by have:=congrArg List.length bP;rw[a4H]at this;simp at this;omega);rw[bl]at B;simp;refine bj _ _ _ ?_;simp;exact bM none _ _ (by rfl) (bd _ _ _ _ _ _ _ _ B)
  . obtain⟨m,hm⟩:∃m,n=m+1:=⟨n-1,i9⟩
    have bm:0<n:=i9;have aS:m<n:=i9;have aT:m≤n:=i9;have aC:IntKind.i64.wrap ((n:Int)-1)=(m:Int):=(by rw[wrap_ok i9 i9];omega);have U:m<S.length:=i9;have bn:u.length=m:=i9;have bo:u.take m=u:=S7 i9;obtain⟨⟨H,nx⟩,hS⟩:∃f,S[m]=f:=⟨_,rfl⟩
    have bp:(S.take n).reverse=(H,nx)::(S.take m).reverse:=(by rw[hm,L3,m7 U,hS];simp);obtain⟨ai,bq,br⟩:=an m H nx aS (by grind);rw[bo]at ai;have aU:∀h∈H,h.r≠ []:=fun h aD=>((ai h).1 aD).2;have bV:=bJ u H ai bq;obtain⟨r,⟨bW,rfl,bs⟩,bt⟩:=b8U H nx aU i9 br;have hd:D+1-n=D-m:=i9;have bX:D+1-m=(D-m)+1∨D<m:=i9;simp[bm,aC,aS,U,hS];refine m6 bt ?_;rcases bs.T7 with⟨rfl,aE⟩|⟨b,rfl,bY,aV,bu,aE⟩
    . obtain⟨R,aj⟩:=b5A (t:=t) (l:=l) (gd:=gd) (d:=D+1-n) (S:=(S.take m).reverse) (u:=u) aE;rw[show D+1-n+1=D+1-m by omega]at R aj;have P:E.drop k=W9 t l gd (D+1-m) ((S.take m).reverse) u.dropLast:=(by rw[z2,bp,R]);have z:a0h t l gd (D+1-m) ((S.take m).reverse)<a0h t l gd (D+1-n) ((S.take n).reverse):=(by grind);have hdl:u.dropLast=u.take (m-1):=(by rw[List.dropLast_eq_take,bn]);have v:m=0∧u.dropLast=[]∨u.dropLast.length+1=m:=(by grind);have w:StO t l gd S m u.dropLast:=fun i H' ao hi aA=>by
       have:=an i H' ao i9 aA;rw[hdl,List.take_take,Nat.min_eq_left i9];exact this
      have bv:IntKind.i64.wrap (-1)= -1:=I9;rcases z3 with⟨rfl,rfl,g,rfl⟩|⟨g,ver,T,j,rfl,rfl,h1,rfl,aF⟩
      . simp[aC,aT,bv];exact C (k,.nils,(g,.dead),[],S,m,aR,g9,R11,g13,⟨r0,r1,r2,r3,r4,r5,r6,r13⟩,⟨_,_,_,_,_,_,_,_⟩) _ _ z ⟨z0,B,P,.inl ⟨rfl,rfl,g,rfl⟩,s5,z5,v,w,rfl,rfl⟩
      . have bw:IntKind.i64.wrap ((j:Int)-1)=(j:Int)-1:=I9;have aW:(if(j:Int)-1<0 then 0 else(j:Int)-1)=((j-1:Nat):Int):=(by split<;>omega);obtain⟨ap,bx⟩:=p7 (j-1);rw[←bx]at aW;have bz:ap≤j:=i9;have bA:(T.take j).dropLast=T.take ap:=(by grind);simp[aC,aT,bw,aW,bz];exact C (k,.own 11 g T.length 1 0 ap,(g,.arr 1 ver false (T.map UB)),(T.take j).dropLast,S,m,aR,g9,R11,g13,⟨r0,r1,r2,r3,r4,r5,r6,r13⟩,⟨_,_,_,_,_,_,_,_⟩) _ _ z ⟨z0,B,P,.inr ⟨g,ver,T,ap,rfl,rfl,i9,bA,aF⟩,s5,z5,v,w,rfl,rfl⟩
    . have bZ:S[m]?=some (H,nx):=(by rw[m7 U,hS]);have aG:=wk1 b i9;have aH:IntKind.u8.wrap (b:Int)=(b:Int):=(by simp[IntKind.wrap,IntKind.signed,IntKind.bits];omega);obtain⟨c,aI⟩:=p7 (UInt8.ofNat b);have aJ:c.toNat=b:=(by rw[aI];exact ofNat_toNat aV);obtain⟨S1,aq⟩:=p7 (S.set m (H,b+1));have A:S1.length=S.length:=(by rw[aq];simp);have aK:(S.map SE).set m (.agg [.slc (H.map HQ),.int .i64 ((b:Int)+1)])=S1.map SE:=(by rw[aq,H9];rfl);have ar:S1[m]'i9=(H,b+1):=(by simp[aq]);have b0:(S1.map SE)[m]?=some (SE (H,b+1)):=(by grind);obtain⟨aX,bB⟩:=ai.next ae af aJ;have aY:=(a8N ae af (P7 H b)).nodup;have b1:=b2P H b;have ak:=b2c t ae l i9 gd af (P7 H b) (by unfold a0I;omega);have aL:=b5N H (IN (b+1)) b aV aU i9;have b2:u.length+1≤4*l.length:=by
       obtain⟨h,aD,c',b3,hr,_⟩:=a6s.1 bu;have:=((ai h).1 aD).1.len ae af;rw[hr]at this;simp at this;omega
      have b4:n+1≤D:=i9;obtain⟨R,aj⟩:=b5P (t:=t) (l:=l) (gd:=gd) (d:=D-n) (u:=u) (S:=(S.take m).reverse) aE (.inl i9);rw[show D-n+1=D+1-n by omega,←aI]at R;rw[show D-n+1=D+1-n by omega]at aj;obtain⟨HN,aZ⟩:=p7 ((Z5 t l gd (P7 H b)).1.2.2);obtain⟨V,a1⟩:=p7 ((Z5 t l gd (P7 H b)).2);rw[←aZ]at ak aX aY;rw[←a1]at ak bB;unfold nxH nxE at R;unfold nxH at aj;rw[←aZ]at R aj;rw[←a1]at R;obtain⟨S2,al⟩:∃S2,S2=S1.take n++(HN,0)::S1.drop (n+1):=⟨_,rfl⟩
      have o:S2.length≤D∧n+1≤S2.length:=by rw[al];simp;omega
      have bC:S2.take (n+1)=S1.take n++[(HN,0)]:=(by grind);have bD:S1.take n=S.take m++[(H,b+1)]:=by rw[hm,L3,m7 i9,ar,aq,List.take_set_of_le (m9 m)];rfl
      have b5:(S2.take (n+1)).reverse=(HN,0)::(H,b+1)::(S.take m).reverse:=(by grind);have P:E.drop k=(if V=true then [u++[c]]else [])++W9 t l gd (D+1-(n+1)) ((S2.take (n+1)).reverse) (u++[c]):=(by grind);have z:a0h t l gd (D+1-(n+1)) ((S2.take (n+1)).reverse)<a0h t l gd (D+1-n) ((S.take n).reverse):=(by grind);have w:StO t l gd S2 (n+1) (u++[c]):=fun i H' ao hi aA=>by
       have am:(S2.take (n+1))[i]?=some (H',ao):=(by grind);rw[bC,bD]at am;by_cases h1:i<m
       . rw[a1k I2,a1k I2,a0y,if_pos h1]at am;have:=an i H' ao i9 am;rw[List.take_append_of_le_length i9];exact this
       . by_cases aF:i=m
         . grind
         . have bE:i=n:=i9;subst bE;have e:(S.take m++[(H,b+1)]++[(HN,0)])[i]?=some (HN,0):=(by grind);rw[e]at am;cases am;rw[S7 I2];exact⟨aX,aY,i9⟩
      have v:n+1=0∧u++[c]=[]∨(u++[c]).length+1=n+1:=(by grind);have W:S1.length*32≤140737488355328∧(n+1)*32≤140737488355328:=i9;have au:V=true→E[k]?=some (u++[c])∧E.drop (k+1)=W9 t l gd (D+1-(n+1)) ((S2.take (n+1)).reverse) (u++[c])∧k+1≤E.length:=fun he=>by
       rw[if_pos he]at P;have h1:=congrArg (fun q:List By=>q[0]?) P;simp at h1;refine⟨h1,?_,?_⟩
       . rw[←a2X,P];rfl
       . grind
      have av:V=false→E.drop k=W9 t l gd (D+1-(n+1)) ((S2.take (n+1)).reverse) (u++[c]):=fun he=>by rw[he]at P;simpa using P
      have Z:n=S.length→S1.map SE++[.agg [.slc (HN.map HQ),.int .i64 0]]=S2.map SE:=fun e=>by rw[al,S7 i9,b4M i9,Q9];rfl
      have J:n=S.length→S.length+1=S2.length:=fun e=>(by rw[al];simp;omega);have aa:(S1.map SE).take n++ .agg [.slc (HN.map HQ),.int .i64 0]::(S1.map SE).drop (n+1)=S2.map SE:=by rw[al,Q9,a1X,a0N,a1J];rfl
      have ab:n≠S.length→n+(S.length-(n+1)+1)=S2.length:=fun e=>(by rw[al];simp;omega);have ac:n=S.length→S2.length*32≤140737488355328:=fun e=>(by have:=o.1;omega);obtain⟨uu,aM⟩:=p7 (u++[c]);rw[←aM]at P v w au av;rcases z3 with⟨rfl,rfl,g,rfl⟩|⟨g,ver,T,j,rfl,rfl,h1,rfl,aF⟩
      . have bF:a1y [.int .u8 (b:Int)]=some uu:=(by rw[aM,aI];simp[a1y,a7A]);have F:TX (.own 11 (g+1) 1 1 0 1) (g+1,.arr 1 0 false [.int .u8 (b:Int)]) uu:=.inr ⟨g+1,0,[c],1,rfl,by rw[←aJ];rfl,l5,by rw[aM];simp,l5⟩;simp[hS,aG,aK,aH,ar,A,U];refine m6 aL ?_;simp;refine m6 ak ?_;simp;cases V with
        |false=>
         have s:=av rfl;by_cases a:n=S.length
         . have L:n+1=S2.length:=(by have:=J a;omega);simp[Z a,J a,a,A,o.1,ac a];rw[L]at z s v w;exact C (k,.own 11 (g+1) 1 1 0 1,(g+1,.arr 1 0 false [.int .u8 (b:Int)]),uu,S2,S2.length,_,_,_,_,⟨r0,r1,r2,r3,r4,r5,r6,_⟩,⟨_,_,_,_,_,_,_,_⟩) _ _ z ⟨z0,B,s,F,m9 _,o.1,v,w,rfl,rfl⟩
         . have M:n≤S.length:=z4;simp[aa,ab a,a,A,M,W.2];exact C (k,.own 11 (g+1) 1 1 0 1,(g+1,.arr 1 0 false [.int .u8 (b:Int)]),uu,S2,n+1,_,_,_,_,⟨r0,r1,r2,r3,r4,r5,r6,_⟩,⟨_,_,_,_,_,_,_,_⟩) _ _ z ⟨z0,B,s,F,o.2,o.1,v,w,rfl,rfl⟩
        |true=>
         obtain⟨O,s,N⟩:=au rfl;simp[bF];refine a4O rfl rfl ?_;refine aw _ _ _ _ ?_ (ay k uu r0 r1 r2 r3 r4 r5 r6 _ O B);rintro p h' ⟨a0,G,a2,a3,a4,a5,I,rfl,hp⟩;refine⟨rfl,?_⟩;cases p with
         |some e=>
          simp;refine aB _ _ ?_;exact az (some e) _ _ (by rfl) (hp _)
         |none=>
          simp;by_cases a:n=S.length
          . have L:n+1=S2.length:=(by have:=J a;omega);simp[Z a,J a,a,A,o.1,ac a];rw[L]at z s v w;exact C (k+1,.own 11 (g+1) 1 1 0 1,(g+1,.arr 1 0 false [.int .u8 (b:Int)]),uu,S2,S2.length,_,_,_,_,⟨a0,G,a2,a3,a4,a5,I,_⟩,⟨_,_,_,_,_,_,_,_⟩) _ _ z ⟨N,hp,s,F,m9 _,o.1,v,w,rfl,rfl⟩
          . have M:n≤S.length:=z4;simp[aa,ab a,a,A,M,W.2];exact C (k+1,.own 11 (g+1) 1 1 0 1,(g+1,.arr 1 0 false [.int .u8 (b:Int)]),uu,S2,n+1,_,_,_,_,⟨a0,G,a2,a3,a4,a5,I,_⟩,⟨_,_,_,_,_,_,_,_⟩) _ _ z ⟨N,hp,s,F,o.2,o.1,v,w,rfl,rfl⟩
      . have b6:(T.take j).length=j:=(by rw[a1W];omega);by_cases a6:j=T.length
        . obtain⟨T2,aN⟩:=p7 (T++[c]);have aO:T.map UB++[.int .u8 (b:Int)]=T2.map UB:=(by grind);have aP:T.length+1=T2.length:=(by rw[aN];simp);have aQ:T2.length≤140737488355328:=i9;have ad:uu=T2:=(by grind);have F:TX (.own 11 g T2.length 1 0 T2.length) (g,.arr 1 ver false (T2.map UB)) uu:=.inr ⟨g,ver,T2,T2.length,rfl,rfl,m9 _,by rw[ad,M4],i9⟩;simp[hS,aG,aK,aH,ar,A,U,a6,aO,aP,aQ];refine m6 aL ?_;simp;refine m6 ak ?_;simp;cases V with
          |false=>
           have s:=av rfl;by_cases a:n=S.length
           . have L:n+1=S2.length:=(by have:=J a;omega);simp[Z a,J a,a,A,o.1,ac a];rw[L]at z s v w;exact C (k,.own 11 g T2.length 1 0 T2.length,(g,.arr 1 ver false (T2.map UB)),uu,S2,S2.length,_,_,_,_,⟨r0,r1,r2,r3,r4,r5,r6,_⟩,⟨_,_,_,_,_,_,_,_⟩) _ _ z ⟨z0,B,s,F,m9 _,o.1,v,w,rfl,rfl⟩
           . have M:n≤S.length:=z4;simp[aa,ab a,a,A,M,W.2];exact C (k,.own 11 g T2.length 1 0 T2.length,(g,.arr 1 ver false (T2.map UB)),uu,S2,n+1,_,_,_,_,⟨r0,r1,r2,r3,r4,r5,r6,_⟩,⟨_,_,_,_,_,_,_,_⟩) _ _ z ⟨z0,B,s,F,o.2,o.1,v,w,rfl,rfl⟩
          |true=>
           obtain⟨O,s,N⟩:=au rfl;have O:E[k]?=some T2:=ad▸O;simp[];refine a4O rfl rfl ?_;refine aw _ _ _ _ ?_ (ay k T2 r0 r1 r2 r3 r4 r5 r6 _ O B);rintro p h' ⟨a0,G,a2,a3,a4,a5,I,rfl,hp⟩;refine⟨rfl,?_⟩;cases p with
           |some e=>
            simp;refine aB _ _ ?_;exact az (some e) _ _ (by rfl) (hp _)
           |none=>
            simp;by_cases a:n=S.length
            . have L:n+1=S2.length:=(by have:=J a;omega);simp[Z a,J a,a,A,o.1,ac a];rw[L]at z s v w;exact C (k+1,.own 11 g T2.length 1 0 T2.length,(g,.arr 1 ver false (T2.map UB)),uu,S2,S2.length,_,_,_,_,⟨a0,G,a2,a3,a4,a5,I,_⟩,⟨_,_,_,_,_,_,_,_⟩) _ _ z ⟨N,hp,s,F,m9 _,o.1,v,w,rfl,rfl⟩
            . have M:n≤S.length:=z4;simp[aa,ab a,a,A,M,W.2];exact C (k+1,.own 11 g T2.length 1 0 T2.length,(g,.arr 1 ver false (T2.map UB)),uu,S2,n+1,_,_,_,_,⟨a0,G,a2,a3,a4,a5,I,_⟩,⟨_,_,_,_,_,_,_,_⟩) _ _ z ⟨N,hp,s,F,o.2,o.1,v,w,rfl,rfl⟩
        . obtain⟨T2,aN⟩:∃T2,T2=T.take j++c::T.drop (j+1):=⟨_,rfl⟩
          have aO:(T.map UB).take j++ .int .u8 (b:Int)::(T.map UB).drop (j+1)=T2.map UB:=(by rw[aN,Q9,a1X,a0N,a1J,←aJ]);have aP:j+(T.length-(j+1)+1)=T2.length:=(by grind);have aQ:j+1≤140737488355328:=i9;have bG:j≤T.length:=h1;have a7:j+1≤T2.length:=i9;have ad:T2.take (j+1)=uu:=(by grind);have bH:a1y ((T2.map UB).take (j+1))=some uu:=(by rw[←a1X,a8T,ad]);have bI:a1y ((T2.take (j+1)).map UB)=some uu:=(by rw[a8T,ad]);have F:TX (.own 11 g T2.length 1 0 (j+1)) (g,.arr 1 (ver+1) false (T2.map UB)) uu:=.inr ⟨g,ver+1,T2,j+1,rfl,rfl,a7,ad.symm,i9⟩;simp[hS,aG,aK,aH,ar,A,U,a6,bG,aO,aP,aQ];refine m6 aL ?_;simp;refine m6 ak ?_;simp;cases V with
          |false=>
           have s:=av rfl;by_cases a:n=S.length
           . have L:n+1=S2.length:=(by have:=J a;omega);simp[Z a,J a,a,A,o.1,ac a];rw[L]at z s v w;exact C (k,.own 11 g T2.length 1 0 (j+1),(g,.arr 1 (ver+1) false (T2.map UB)),uu,S2,S2.length,_,_,_,_,⟨r0,r1,r2,r3,r4,r5,r6,_⟩,⟨_,_,_,_,_,_,_,_⟩) _ _ z ⟨z0,B,s,F,m9 _,o.1,v,w,rfl,rfl⟩
           . have M:n≤S.length:=z4;simp[aa,ab a,a,A,M,W.2];exact C (k,.own 11 g T2.length 1 0 (j+1),(g,.arr 1 (ver+1) false (T2.map UB)),uu,S2,n+1,_,_,_,_,⟨r0,r1,r2,r3,r4,r5,r6,_⟩,⟨_,_,_,_,_,_,_,_⟩) _ _ z ⟨z0,B,s,F,o.2,o.1,v,w,rfl,rfl⟩
          |true=>
           obtain⟨O,s,N⟩:=au rfl;simp[bH,bI,a7];refine a4O rfl rfl ?_;refine aw _ _ _ _ ?_ (ay k uu r0 r1 r2 r3 r4 r5 r6 _ O B);rintro p h' ⟨a0,G,a2,a3,a4,a5,I,rfl,hp⟩;refine⟨rfl,?_⟩;cases p with
           |some e=>
            simp;refine aB _ _ ?_;exact az (some e) _ _ (by rfl) (hp _)
           |none=>
            simp;by_cases a:n=S.length
            . have L:n+1=S2.length:=(by have:=J a;omega);simp[Z a,J a,a,A,o.1,ac a];rw[L]at z s v w;exact C (k+1,.own 11 g T2.length 1 0 (j+1),(g,.arr 1 (ver+1) false (T2.map UB)),uu,S2,S2.length,_,_,_,_,⟨a0,G,a2,a3,a4,a5,I,_⟩,⟨_,_,_,_,_,_,_,_⟩) _ _ z ⟨N,hp,s,F,m9 _,o.1,v,w,rfl,rfl⟩
            . have M:n≤S.length:=z4;simp[aa,ab a,a,A,M,W.2];exact C (k+1,.own 11 g T2.length 1 0 (j+1),(g,.arr 1 (ver+1) false (T2.map UB)),uu,S2,n+1,_,_,_,_,⟨a0,G,a2,a3,a4,a5,I,_⟩,⟨_,_,_,_,_,_,_,_⟩) _ _ z ⟨N,hp,s,F,o.2,o.1,v,w,rfl,rfl⟩
def tgt(t:j9)(k:Nat):Nat:=P4 t ⟨(t.rules.getD k default).dst,a1r ((t.rules.getD k default).print.getLastD 0),(t.rules.getD k default).right⟩
theorem c4j{t:j9}{s s':State}{k:Nat}(h:step t s k=some s')(hp:prt t k≠ []):P4 t s'=tgt t k:=by
 unfold step at h;obtain⟨r,hr,a⟩:=Y4.1 h;have e:t.rules.getD k default=r:=by grind
 unfold prt at hp;rw[e]at hp;unfold tgt;rw[e];unfold a5w at a;rw[if_neg hp]at a;split at a
 . cases a
 . split at a
   . cases a
   . cases a;rfl
theorem b4p{t:j9}(a:s8 t)(k:Nat):(prt t k).length≤4:=by
 unfold prt;rcases a5O k t.rules.length with h|h
 . rw[u9,m7 h];exact(a2w (a.sound _ (B7 h))).p4
 . rw[u9,a0d h];decide
theorem Hd.shape{t:j9}(f:s8 t){l:List Nat}{gd:List A8}(c:RDs t l gd){u:By}{h:p9}(m:Hd t l gd u h):h.p≤l.length∧(h.r=[]∨∃k i,k<t.rules.length∧i<5∧h.r=(prt t k).drop i∧h.x=tgt t k):=by
 refine⟨(c.snd _ _ (m.path f c).1).1.2.1,?_⟩
 induction m with
 |root=>exact .inl rfl
 | @step u p x a h1 o v w d=>
  have q:=(c.snd _ _ (h1.path f c).1).1.1;obtain⟨s',g,s,e,j⟩:=a6C q o;by_cases hp:prt t a.1=[]
  . exact .inl hp
  . exact .inr ⟨a.1,0,j,i9,rfl,by rw[←c4j g hp];exact e⟩
 | @byte u p x b r h1 d=>
  rcases d with d|⟨k,i,g,s,e,j⟩
  . cases d
  . refine .inr ⟨k,i+1,g,?_,?_,j⟩
    . have n:=congrArg List.length e;have y:=b4p f k;rw[a4H]at n;simp at n;omega
    . rw[←a2X,←e];rfl
def b4r(t:j9)(n:Nat):List p9:=(List.range (n+1)).flatMap fun p=>(List.range t.rules.length).flatMap fun k=>(List.range 5).map fun i=>⟨p,tgt t k,(prt t k).drop i⟩
theorem FrO.len{t:j9}(b:s8 t){l:List Nat}{gd:List A8}(c:RDs t l gd){u:By}{H:List p9}(d:FrO t l gd u H)(f:H.Nodup):H.length≤(l.length+1)*(t.rules.length*5):=by
 have e:(b4r t l.length).length=(l.length+1)*(t.rules.length*5):=a8v _ _ _ fun _=>a8v _ _ _ fun _=>by simp
 rw[←e];refine a9d _ _ f fun h g=>?_;obtain⟨h1,j⟩:=(d h).1 g;obtain⟨q,a⟩:=h1.shape b c;rcases a with a|⟨k,i,m,n,o,p⟩
 . exact absurd a j
 . refine a4a.2 ⟨h.p,a1v.2 i9,a4a.2 ⟨k,a1v.2 m,E5.2 ⟨i,a1v.2 n,?_⟩⟩⟩;rw[←o,←p]
def X12:u7:=
 ⟨27,[0,1,2,3,4,5,6,7,8,9,12,20,21],5,[(4,some (false,1)),(5,some (false,1)),(6,some (false,1))],sq [.reg [F5 2 0 0,F5 3 1 1,ow 4 (.alloc 2 [.str ⟨#[]⟩]),ow 5 (.alloc 3 [.int .i64 0]),ow 6 (.alloc 4 [.int .i64 0])],sq [.reg [oh 3 2,T9 36 0 0 0,Z3 10 1],.cond (.v 10) (sq [.reg [oq (.store 1 (.v 4) (.c (.str ⟨#[]⟩))),oej 1 5 0,oej 1 6 40],ko]) kc],.reg [oh 3 2,E7 1 3,oct 41 0 1 0 0 0 0,os 2,oy 3 0,oy 3 1,oc 7 4,oc 8 5],sq [.reg [oa 7,ow 11 (.callv (.c (.fn (.func 42) [] [])) [.l 0])],.block 0 (.rfor (.v 11) [some 12] (.reg [ocf 9 12]) (.block 1 (sq [.reg [oa 9,E7 1 3,E0 1,oq (.storeN 1 (.v 4) (.l 0) [1000003]),M1 1 5 2,oej 1 6 0],ko])))],.reg [oa 8,oq (.minmax true [.l 0,oi 0]),oq (.store 1 (.v 4) (.c (.str ⟨#[]⟩))),M1 1 5 1,oej 1 6 40],ko]⟩
def X16:u7:=
 ⟨35,[0,1,2,3,5,6,7,8,10,11,13,16,24,25,29],7,[(5,some (false,1)),(6,some (false,1))],sq [.reg [F5 3 0 0,F5 4 1 2,ow 5 (.alloc 2 [.nils]),ow 6 (.alloc 3 [.int .i64 0])],sq [.reg [E7 1 4,ofh 10 0 0],kbb 10 1 5 1 6 1],sq [.reg [oh 3 3,T9 36 0 0 0,Z3 11 1],kbb 11 1 5 1 6 0],.reg [oh 3 3,oa 1,oct 41 0 1 0 0 0 0,os 2,oy 3 0,oy 3 1,oc 7 4,os 5],.reg [ow 8 (.alloc 4 [.nils])],.G5 8 (some 0) 6 1 (sq [sq [.reg [oa 7,ow 12 (.callv (.c (.fn (.func 42) [] [])) [.l 0])],.block 0 (.rfor (.v 12) [some 13] (.reg [ocf 9 13]) (.block 1 (sq [sq [.reg [E7 1 8,E0 0,E7 1 4,ow 14 (.bin .eql false (.l 1) (.l 2))],kbb 14 1 5 1 6 2],.reg [E7 1 8,oa 9,oq (.mkarr 5 1 [.str ⟨#[]⟩] [(0,.l 1)]),J3 6 1 16 1 0 2,M1 1 8 3]])))],.reg [E7 1 8,M1 1 5 0,oej 1 6 0],ko])]⟩
theorem c12:C4 12 X12:=C6
theorem c16:C4 16 X16:=C6
theorem c5x(t:j9)(l:List Nat)(gd:List A8)(a0 a a2 a3 a4 a5 b R7:Row):FI Tryz.prog (.fn (.func 42) [] []) [RD t l gd] [a0,a,a2,a3,a4,a5,b,R7,dd,dd,dd,dd,dd,dd,dd,dd] (.fn (.func 81) [] [.ptr 7 (R7.1+1) 0]) [(7,(R7.1+1,.var [RD t l gd]))]:=by refine b1l mixed (X:=X42) c42 (by simp[X42]) l5 fun Q c d=>?_;simp[X42];refine c _ _ ?_;simp[X42,M6]
theorem c9O{t:j9}{l:List Nat}(a:(l.length+1)*((j4 t).length*t.rules.length+5*t.rules.length)<4000000000000):(l.length+1)*(t.rules.length*5)+1+(l.length+1)*((j4 t).length*t.rules.length)≤4000000000000:=by grind
theorem c0q(t:j9)(a:s8 t)(l:List Nat)(h:l.length≤500000000)(i:(l.length+1)*((j4 t).length*t.rules.length+5*t.rules.length)<4000000000000):
 ∃r,((∃x,T8 t l x∧r=.tup [St x,IN l.length,I 0])∨(¬∃x,T8 t l x)∧∃p:Int,r=.tup [St [],I p,I 40])∧F0 12 [0,0,0] [TP t,CL l] r:=by
 obtain⟨r,⟨gd,md,rfl,b,_,_⟩,j⟩:=c9s t a l i9;have d:=b4E t a.ok;have m:U6 t=true:=(a9q t).2 a;rw[m]at d;have n:=c6h a b;obtain⟨E,c⟩:=p7 (a6c t l gd);rw[←c]at n;refine⟨match E with| []=>.tup [St [],I (if md<0 then 0 else md),I 40]|x::_=>.tup [St x,IN l.length,I 0],?_,?_⟩
 . grind
 refine E4 c12 16 (by simp[X12]) fun Q f v=>?_;simp[X12];refine m6 d ?_;simp;refine m6 j ?_;simp;refine a2H (c5x t l gd _ _ _ _ _ _ _ _) ?_;simp;refine c6m t a l h gd b ((l.length+1)*(t.rules.length*5)+1) (fun u H o q=>Nat.le_succ_of_le (o.len a b q)) i9 (c9O i) b2u
  (fun k rows=>k=0∧rows=[(1,.var [IN t.modes,UN t.accept,.slc (t.rules.map RP)]),(1,.var [CL l]),(1,.var [St []]),(1,.var [I 0]),(1,.var [I 0]),dd,dd]) _ _ _ _ _ _ _ 1 ⟨rfl,rfl⟩ ?_ ?_
 . rintro k x r0 r1 r2 r3 r4 r5 r6 tail s ⟨rfl,e⟩;rw[←c]at s;cases e;refine⟨rfl,?_⟩;obtain⟨E2,rfl⟩:∃E2,E=x::E2:=(by grind);simp;refine⟨_,_,_,_,_,_,_,_,_,_,_,_,_,_,⟨⟨rfl,rfl⟩,⟨rfl,rfl⟩,⟨rfl,rfl⟩,⟨rfl,rfl⟩,⟨rfl,rfl⟩,⟨rfl,rfl⟩,rfl,rfl⟩,fun tail=>?_⟩;refine f _ _ ?_;simp[X12]
 . rintro r0 r1 r2 r3 r4 r5 r6 tail ⟨g,e⟩;rw[←c]at g;cases e;obtain rfl:=a0V.1 g;simp;refine f _ _ ?_;simp[X12]
theorem b4H{t:j9}(a:s8 t){r:O9}(hr:r∈t.rules){c:Nat}(b:c∈r.cells):c<63:=(a.snd hr).cell c b
theorem b8S{t:j9}(a:s8 t):∀{p:List Nat} {s s':State},s.mode<t.modes→F6 t s p=some s'→s'.mode<t.modes
 | [],s,s',hs,h=>by cases h;exact hs
 |k::p,s,s',hs,h=>by
  simp only[F6]at h;obtain⟨s1,h1,b⟩:=Y4.1 h;refine b8S a ?_ b;unfold step at h1;obtain⟨r,hr,c⟩:=Y4.1 h1;have hd:=(a.snd (D4 hr)).dst;unfold a5w at c
  grind
theorem b2Z{t:j9}(a:s8 t)(hm:t.modes≤2):(j4 t).length≤768:=by
 have h1:=a3H 768 ((j4 t).map code) (by
  rw[a9F,List.pairwise_map];exact(a9F.1 (a8J a)).imp_of_mem fun c hb d e=>d (c1d (a2R a c) (a2R a hb) e)) fun x f=>by
  obtain⟨s,hs,rfl⟩:=E5.1 f;obtain⟨p,hp⟩:=(a6u a).come s hs;have g:=b8S a (show start.mode<t.modes from a.m1) hp;have b:=a2R a hs;have:=b.last;have:=b.need;unfold code;omega
 simpa using h1
structure Ld where
 (s:Nat)
 (x:By)
 deriving DecidableEq
def ld:By→By→Ld
 | [],[]=>⟨0,[]⟩
 |a::u,[]=>⟨1,a::u⟩
 | [],b::v=>⟨2,b::v⟩
 |a::u,b::v=>if a=b then ld u v else⟨3,[]⟩
def Ld.aft(l:Ld)(p q:By):Ld:=if l.s=1 then ld (l.x++p) q else if l.s=2 then ld p (l.x++q)else if l.s=3 then l else ld p q
def Ld.sw(l:Ld):Ld:=if l.s=1 then⟨2,l.x⟩else if l.s=2 then⟨1,l.x⟩else l
theorem a3M(p q:By):∀u v:By,(ld u v).aft p q=ld (u++p) (v++q)
 | [],[]=>by simp[ld,Ld.aft]
 |a::u,[]=>by simp[ld,Ld.aft]
 | [],b::v=>by simp[ld,Ld.aft]
 |a::u,b::v=>by
  have c:=a3M p q u v;simp only[ld,a7L];split
  . exact c
  . rfl
theorem a5o:∀u v:By,(ld u v).s=0↔u=v
 | [],[]=>by simp[ld]
 |a::u,[]=>by simp[ld]
 | [],b::v=>by simp[ld]
 |a::u,b::v=>by
  have c:=a5o u v;simp only[ld]
  grind
theorem b0i(u:By):ld u u=⟨0,[]⟩:=by
 induction u with
 |nil=>rfl
 |cons a u b=>simp[ld,b]
theorem b2h:∀u v:By,ld v u=(ld u v).sw
 | [],[]=>rfl
 |a::u,[]=>rfl
 | [],b::v=>rfl
 |a::u,b::v=>by
  have c:=b2h u v;simp only[ld];by_cases h:a=b
  . rw[if_pos h,if_pos h.symm];exact c
  . rw[if_neg h,if_neg fun e=>h e.symm];rfl
theorem a8o(s:By):∀u:By,ld (u++s) u=ld s []∧ld u (u++s)=ld [] s
 | []=>⟨rfl,rfl⟩
 |a::u=>by have b:=a8o s u;simp only[a7L,ld,if_true];exact b
theorem b6z:∀u v:By,(ld u v).x.length≤u.length+v.length
 | [],[]=>by simp[ld]
 |a::u,[]=>by simp[ld]
 | [],b::v=>by simp[ld]
 |a::u,b::v=>by
  have c:=b6z u v;simp only[ld,a0a];split
  . omega
  . simp
theorem b2f(u v:By):(ld u v).s≤3:=by
 induction u generalizing v with
 |nil=>cases v<;>simp[ld]
 |cons a u c=>
  cases v with
  |nil=>simp[ld]
  |cons b v=>
   simp only[ld];split
   . exact c v
   . exact m9 _
theorem b8T{d v1 e v2 p q:By}(h1:d++p=v1++q)(f:e++p=v2++q):ld d v1=ld e v2:=by
 rcases List.append_eq_append_iff.1 h1 with⟨a,rfl,c⟩|⟨a,rfl,c⟩<;>rcases List.append_eq_append_iff.1 f with⟨a2,rfl,b⟩|⟨a2,rfl,b⟩
 . rw[c]at b;have:=List.append_cancel_right b;subst this;rw[(a8o a d).2,(a8o a e).2]
 . have h:=congrArg List.length c;have h':=congrArg List.length b;simp only[a0D]at h h';obtain rfl:a=[]:=a0V.1 i9;obtain rfl:a2=[]:=a0V.1 i9;rw[a1u,a1u,b0i,b0i]
 . have h:=congrArg List.length c;have h':=congrArg List.length b;simp only[a0D]at h h';obtain rfl:a=[]:=a0V.1 i9;obtain rfl:a2=[]:=a0V.1 i9;rw[a1u,a1u,b0i,b0i]
 . rw[c]at b;have:=List.append_cancel_right b;subst this;rw[(a8o a v1).1,(a8o a v2).1]
structure Hf where
 (x:Nat)
 (r:By)
 deriving DecidableEq
def cb(l:List Nat):By:=l.map UInt8.ofNat
section
variable(t:j9)
def Stp(h:Hf)(c:UInt8)(p:By)(h':Hf):Prop:=(h.r=c::h'.r∧p=[]∧h'.x=h.x)∨(h.r=[]∧∃a∈G9 t h.x,cb (cls t a.1)=c::h'.r∧p=prt t a.1∧h'.x=a.2)
def HP:Hf→By→By→Hf→Prop
 |h,[],p,h'=>p=[]∧h'=h
 |h,c::w,p,h'=>∃a h1 b,Stp t h c a h1∧HP h1 w b h'∧p=a++b
def HE(h:Hf):Prop:=h.r=[]∧C0 t ((j4 t).getD h.x D7)=true
variable{t}
theorem HP.snoc{c:UInt8}{a:By}{h1 b:Hf}(hs:Stp t h1 c a b):∀{w:By} {h:Hf} {p:By},HP t h w p h1→HP t h (w++[c]) (p++a) b
 | [],h,p,hp=>by
  obtain⟨rfl,rfl⟩:=hp;exact⟨a,b,[],hs,⟨rfl,rfl⟩,l5⟩
 |d::w,h,p,hp=>by obtain⟨e,f,g,i,a2,rfl⟩:=hp;exact⟨e,f,g++a,i,HP.snoc hs a2,l5⟩
theorem HP.append{w2 a:By}{h1 b:Hf}(hs:HP t h1 w2 a b):∀{w:By} {h:Hf} {p:By},HP t h w p h1→HP t h (w++w2) (p++a) b
 | [],h,p,hp=>by
  obtain⟨rfl,rfl⟩:=hp;exact hs
 |d::w,h,p,hp=>by obtain⟨c,e,f,g,a2,rfl⟩:=hp;exact⟨c,e,f++a,g,HP.append hs a2,l5⟩
theorem HP.rest(x:Nat):∀r:By,HP t ⟨x,r⟩ r [] ⟨x,[]⟩
 | []=>⟨rfl,rfl⟩
 |c::r=>⟨[],⟨x,r⟩,[],.inl ⟨rfl,rfl,rfl⟩,HP.rest x r,rfl⟩
theorem HP.c0p(e:s8 t):∀(q:List Nat) (x:Nat) (a:State),x<(j4 t).length→F6 t ((j4 t).getD x D7) q=some a→C0 t a=true→∃b,HP t ⟨x,[]⟩ (cb (C8 t q)) (J8 t q) ⟨b,[]⟩∧HE t ⟨b,[]⟩
 | [],x,a,f,h1,d=>by
  cases h1;exact⟨x,⟨rfl,rfl⟩,rfl,d⟩
 |k::q,x,a,f,h1,d=>by
  obtain⟨s1,g,i⟩:=Y4.1 (show(T.step t _ k).bind (fun s'=>F6 t s' q)=some a from h1);have j:=a0g e (a2l f) g;have hm:=b0q f g ⟨q,a,i,d⟩;obtain⟨b,l,a2⟩:=HP.c0p e q (P4 t s1) a (a3e j) (by rw[a2z j];exact i) d;refine⟨b,?_,a2⟩;have m:cb (C8 t (k::q))=cb (cls t k)++cb (C8 t q):=by show cb (cls t k++C8 t q)=_;unfold cb;rw[Q9]
  have n:=a7n e g;have hlen:(cb (cls t k)).length=A7 t k:=by unfold cb;rw[N5];rfl
  cases h:cb (cls t k)with
  |nil=>rw[h]at hlen;simp at hlen;omega
  |cons c r=>
   rw[m,h,a3R];refine⟨prt t k,⟨P4 t s1,r⟩,J8 t q,.inr ⟨rfl,_,hm,h,rfl,rfl⟩,?_,rfl⟩;have:=HP.append l (HP.rest (t:=t) (P4 t s1) r);rwa[a4C]at this
theorem HP.path(e:s8 t):∀(w:By) (h:Hf) (p:By) (h':Hf),h.x<(j4 t).length→HP t h w p h'→HE t h'→∃q b,F6 t ((j4 t).getD h.x D7) q=some b∧C0 t b=true∧w=h.r++cb (C8 t q)∧J8 t q=p
 | [],h,p,h',f,h1,d=>by
  obtain⟨rfl,rfl⟩:=h1;exact⟨[],_,rfl,d.2,by rw[d.1];rfl,rfl⟩
 |c::w,h,p,h',f,h1,d=>by
  obtain⟨z,i,j,v,a2,rfl⟩:=h1;rcases v with⟨k,rfl,A⟩|⟨k,a,x,y,rfl,l⟩
  . obtain⟨q,b,g,m,n,o⟩:=HP.path e w i j h' i9 a2 d
    grind
  . obtain⟨s',r,B,s,C⟩:=a6C f x;have u:=a0g e (a2l f) r;obtain⟨q,b,g,m,n,o⟩:=HP.path e w i j h' (by rw[l,s];exact a3e u) a2 d;rw[l,s,a2z u]at g;refine⟨a.1::q,b,?_,m,?_,?_⟩
    . show(T.step t _ a.1).bind _=_;rw[r];exact g
    . rw[k,n];show _=cb (cls t a.1++C8 t q);unfold cb at y⊢
      grind
    . rw[a3R,o];rfl
theorem c7X{l:List Nat}(h:∀c∈l,c<256):(cb l).map UInt8.toNat=l:=by
 unfold cb;rw[a1w]
 conv=>rhs;rw[←List.map_id l]
 exact K3 fun c a=>by simpa using ofNat_toNat (h c a)
structure Nd where
 (a b:Nat)
 (l:Ld)
 deriving DecidableEq
def Nd.ord(n:Nd):Nd:=if n.a<n.b∨n.a=n.b∧n.l.s≠2 then n else⟨n.b,n.a,n.l.sw⟩
def D3{κ α:Type} [DecidableEq κ](F:List (κ×List α))(k:κ):List α:=match(F.map (·.1)).idxOf? k with
 |some i=>match F[i]? with
  |some e=>e.2
  |none=>[]
 |none=>[]
def Y9{κ α:Type} [DecidableEq κ](F:List (κ×List α))(k:κ)(x:α):List (κ×List α):=match(F.map (·.1)).idxOf? k with
 |some i=>F.set i (k,D3 F k++[x])
 |none=>F++[(k,[x])]
section
variable{κ α:Type} [DecidableEq κ]
theorem a4p(e:κ×List α)(F:List (κ×List α))(k:κ):D3 (e::F) k=if e.1=k then e.2 else D3 F k:=by
 unfold D3
 grind
theorem b0Z(e:κ×List α)(F:List (κ×List α))(k:κ)(x:α):Y9 (e::F) k x=if e.1=k then(k,e.2++[x])::F else e::Y9 F k x:=by
 unfold Y9;rw[a0N,List.idxOf?_cons,a4p]
 grind
theorem a7l(k:κ)(x:α)(a:κ):∀F:List (κ×List α),D3 (Y9 F k x) a=if k=a then D3 F k++[x]else D3 F a
 | []=>by
  show D3 [(k,[x])] a=_;rw[a4p];rfl
 |e::F=>by
  have b:=a7l k x a F;rw[b0Z,a4p,a4p];by_cases h:e.1=k
  . rw[if_pos h,a4p,if_pos h,h]
    grind
  . rw[if_neg h,a4p,b,if_neg h]
    grind
theorem b0w{k:κ}{x:α}{e:κ×List α}:∀{F:List (κ×List α)},e∈Y9 F k x→e∈F∨e=(k,D3 F k++[x])
 | [],h=>by
  have:e∈[(k,[x])]:=h;rw[H5]at this;exact .inr this
 |f::F,h=>by
  rw[b0Z]at h;rw[a4p];split at h
  . grind
  . rename_i a;rcases a0p.1 h with h|h
    . rw[h];exact .inl a3v
    . rw[if_neg a];exact(b0w h).imp (a5e _) id
theorem b6i(k:κ)(x:α):∀F:List (κ×List α),(Y9 F k x).map (·.1)=if k∈F.map (·.1)then F.map (·.1)else F.map (·.1)++[k]
 | []=>rfl
 |e::F=>by
  have a:=b6i k x F;rw[b0Z]
  grind
def L8(F:List (κ×List α)):Nat:=(F.map fun e=>e.2.length).sum
theorem b2H(k:κ)(x:α):∀F:List (κ×List α),L8 (Y9 F k x)=L8 F+1
 | []=>rfl
 |e::F=>by
  have a:=b2H k x F;rw[b0Z];unfold L8 at a⊢
  grind
theorem a8D{k:κ}:∀{F:List (κ×List α)},D3 F k=[]∨(k,D3 F k)∈F
 | []=>.inl rfl
 |e::F=>by
  rw[a4p];by_cases h:e.1=k
  . grind
  . rw[if_neg h];exact(a8D (F:=F)).imp id (a5e _)
end
abbrev FT:=List ((Nat×Nat)×List Ld)
abbrev Nd.k(n:Nd):Nat×Nat:=(n.a,n.b)
def Rec(F:FT)(n:Nd):Prop:=n.l∈D3 F n.k
def Hdl(F:FT)(n:Nd):Prop:=n.l∈D3 F n.k∨(∃k∈D3 F n.k,k.s=3)∨∃l1 a,l1∈D3 F n.k∧a∈D3 F n.k∧l1≠a
variable(t)
def NS(Hs:List Hf)(w:By)(n:Nd):Prop:=∃u v a hb,Hs[n.a]?=some a∧Hs[n.b]?=some hb∧HP t ⟨0,[]⟩ w u a∧HP t ⟨0,[]⟩ w v hb∧n.l=ld u v
def Don(Hs:List Hf)(F:FT)(n:Nd):Prop:=∀c p q a hb b d,Hs[n.a]?=some a→Hs[n.b]?=some hb→Stp t a c p b→Stp t hb c q d→∃i j,Hs[i]?=some b∧Hs[j]?=some d∧Hdl F (Nd.ord ⟨i,j,n.l.aft p q⟩)
def Cls(Hs:List Hf)(n:Nd):Prop:=n.l.s≠0∧∃a hb,Hs[n.a]?=some a∧Hs[n.b]?=some hb∧HE t a∧HE t hb
variable{t}
theorem NS.ord{Hs:List Hf}{w:By}{n:Nd}(h:NS t Hs w n):NS t Hs w n.ord:=by
 unfold Nd.ord;split
 . exact h
 . obtain⟨u,v,a,hb,b,a2,a3,a4,a5⟩:=h;exact⟨v,u,hb,a,a2,b,a4,a3,by rw[a5];exact(b2h u v).symm⟩
theorem NS.mono{Hs Hs':List Hf}{w:By}{n:Nd}(hp:Hs<+:Hs')(h:NS t Hs w n):NS t Hs' w n:=by
 obtain⟨u,v,b,hb,c,a2,a3,a4,a5⟩:=h;obtain⟨X,rfl⟩:=hp;have a:∀{i:Nat} {y:Hf},Hs[i]?=some y→(Hs++X)[i]?=some y:=fun{i y} h=>by rw[a1k (B8.1 h).1];exact h
 exact⟨u,v,b,hb,a c,a a2,a3,a4,a5⟩
theorem b3v{Hs:List Hf}{F:FT}(hr:∀n,Rec F n→Don t Hs F n∧¬Cls t Hs n∧∃w,NS t Hs w n):∀(w:By) (n:Nd),Rec F n→∀m hb p q g l,Hs[n.a]?=some m→Hs[n.b]?=some hb→HP t m w p g→HP t hb w q l→HE t g→HE t l→(n.l.aft p q).s=0
 | [],n,B,m,hb,p,q,g,l,g1,g2,h1,C,z,A=>by
  obtain⟨_,N,w,u,v,O,P,Q,R,S,T,o⟩:=hr n B;obtain⟨rfl,rfl⟩:=h1;obtain⟨rfl,rfl⟩:=C;rw[o,a3M,a1u,a1u,←o];refine Classical.byContradiction fun h=>N ⟨h,_,_,g1,g2,z,A⟩
 |c::w,n,B,m,hb,p,q,g,l,g1,g2,h1,C,z,A=>by
  obtain⟨dn,_,w0,u,v,O,P,Q,R,S,T,o⟩:=hr n B;obtain⟨I,D,r,U,a2,rfl⟩:=h1;obtain⟨J,E,s,V,K,rfl⟩:=C;obtain⟨i,j,L,M,a⟩:=dn c I J m hb D E g1 g2 U V;unfold Hdl at a;rw[o,a3M,a5o];rw[o,a3M]at a;have goal:(u++I)++r=(v++J)++s:=by
   unfold Nd.ord at a;split at a
   . rename_i W;have b:∀k,k∈D3 F (i,j)→(k.aft r s).s=0∧∃d f,k=ld d f:=fun k G=>by
      have x:Rec F ⟨i,j,k⟩:=G;refine⟨b3v hr w ⟨i,j,k⟩ x D E r s g l L M a2 K z A,?_⟩;obtain⟨_,_,w',d,f,_,_,_,_,_,_,e⟩:=hr _ x;exact⟨d,f,e⟩
     rcases a with a|⟨k,a,y⟩|⟨k,X,a,y,H⟩
     . have:=(b _ a).1;rwa[a3M,a5o]at this
     . have:=(b k a).1;unfold Ld.aft at this
       grind
     . obtain⟨m1,Y,v1,rfl⟩:=b _ a;obtain⟨m2,Z,v2,rfl⟩:=b _ y;rw[a3M,a5o]at m1 m2;exact absurd (b8T m1 m2) H
   . rename_i W;have b:∀k,k∈D3 F (j,i)→(k.aft s r).s=0∧∃d f,k=ld d f:=fun k G=>by
      have x:Rec F ⟨j,i,k⟩:=G;refine⟨b3v hr w ⟨j,i,k⟩ x E D s r l g M L K a2 A z,?_⟩;obtain⟨_,_,w',d,f,_,_,_,_,_,_,e⟩:=hr _ x;exact⟨d,f,e⟩
     rcases a with a|⟨k,a,y⟩|⟨k,X,a,y,H⟩
     . have:=(b _ a).1;simp only[←b2h]at this;rw[a3M,a5o]at this;exact this.symm
     . have:=(b k a).1;unfold Ld.aft at this
       grind
     . obtain⟨m1,Y,v1,rfl⟩:=b _ a;obtain⟨m2,Z,v2,rfl⟩:=b _ y;rw[a3M,a5o]at m1 m2;exact absurd (b8T m1 m2) H
  grind
def Two(t:j9):Prop:=∃l x y,T8 t l x∧T8 t l y∧x≠y
theorem T8.HP(a:s8 t){l:List Nat}{x:By}(h:T8 t l x):∃h',T.HP t ⟨0,[]⟩ (cb l) x h'∧HE t h':=by
 obtain⟨q,b,c,d,rfl,rfl⟩:=h;have e:(j4 t).getD 0 D7=start:=by rw[u9,a2D a];rfl
 obtain⟨g,f,a2⟩:=HP.c0p a q 0 b (a2j a) (by rw[e];exact c) d;exact⟨_,f,a2⟩
theorem b6t(b:s8 t):∀(q:List Nat) (s s':State),F6 t s q=some s'→∀c∈C8 t q,c<63
 | [],_,_,_=>by simp[C8]
 |k::q,s,s',h=>by
  obtain⟨s1,e,f⟩:=Y4.1 (show(T.step t s k).bind (fun s'=>F6 t s' q)=some s' from h);intro c a;have:c∈cls t k++C8 t q:=a;rcases I4.1 this with a|a
  . have d:=a2s e;unfold cls at a;rw[u9,m7 d]at a;exact b4H b (B7 d) a
  . exact b6t b q s1 s' f c a
theorem HP.lng(a:s8 t){w x:By}{h':Hf}(h:T.HP t ⟨0,[]⟩ w x h')(he:HE t h'):T8 t (w.map UInt8.toNat) x:=by
 have e:(j4 t).getD 0 D7=start:=by rw[u9,a2D a];rfl
 obtain⟨q,d,b,f,g,i⟩:=HP.path a w ⟨0,[]⟩ x h' (a2j a) h he;rw[e]at b;refine⟨q,d,b,f,?_,i⟩;rw[g,a4C,c7X fun c j=>by have:=b6t a q _ _ b c j;omega]
theorem c3y(c:s8 t){Hs:List Hf}{F:FT}(hr:∀n,Rec F n→Don t Hs F n∧¬Cls t Hs n∧∃w,NS t Hs w n)(h0:Hs[0]?=some ⟨0,[]⟩)(d:Rec F ⟨0,0,⟨0,[]⟩⟩):¬Two t:=by rintro⟨l,x,y,h1,e,f⟩;obtain⟨a,g,a2⟩:=h1.HP c;obtain⟨b,h,i⟩:=e.HP c;have:=b3v hr (cb l) _ d _ _ x y a b h0 h0 g h a2 i;rw[show(⟨0,0,⟨0,[]⟩⟩:Nd).l=ld [] []from rfl,a3M,a5o]at this;exact f this
end
structure Sm(t:j9):Prop where
 m2:t.modes≤2
 r10:t.rules.length≤10
 c3:∀r∈t.rules,r.cells.length≤3
def b1A(t:j9):List By:=[]::t.rules.flatMap fun r=>[(cb r.cells).drop 1,(cb r.cells).drop 2]
def HfB(t:j9)(h:Hf):Prop:=h.x<(j4 t).length∧h.r∈b1A t
section
variable{t:j9}
theorem HfB.root(a:s8 t):HfB t ⟨0,[]⟩:=⟨a2j a,a3v⟩
theorem b7q(l:List Nat):(cb l).length=l.length:=by unfold cb;simp
theorem Stp.bd(f:s8 t)(hs:Sm t){h h':Hf}{c:UInt8}{p:By}(hb:HfB t h)(h1:Stp t h c p h'):HfB t h':=by
 rcases h1 with⟨d,_,b⟩|⟨d,a,g,k,_,b⟩
 . refine⟨by rw[b];exact hb.1,?_⟩;have hm:=hb.2;rw[d]at hm;rcases a0p.1 hm with e|e
   . cases e
   . obtain⟨r,hr,e⟩:=a4a.1 e;have l:=hs.c3 r hr;rcases a0p.1 e with e|e
     . refine a5e _ (a4a.2 ⟨r,hr,?_⟩);have:h'.r=(cb r.cells).drop 2:=(by rw[show 2=1+1 from rfl,←a2X,←e];rfl);rw[this];simp
     . have e:=H5.1 e;have:h'.r=[]:=by
        have i:(c::h'.r).length=((cb r.cells).drop 2).length:=(by rw[e]);rw[a4H,b7q,a0a]at i;exact a0V.1 i9
       rw[this];exact a3v
 . obtain⟨l1,j,_,_⟩:=a4t f hb.1 g;refine⟨by rw[b];exact j,a5e _ (a4a.2 ⟨t.rules[a.1],B7 l1,?_⟩)⟩;have e:cls t a.1=t.rules[a.1].cells:=by unfold cls;rw[u9,m7 l1];rfl
   grind
def c0W(t:j9):List Hf:=(List.range (j4 t).length).flatMap fun x=>(b1A t).map fun r=>⟨x,r⟩
theorem c7V(t:j9):(b1A t).length=1+2*t.rules.length:=by
 unfold b1A;rw[a0a];have:∀l:List O9,(l.flatMap fun r=>[(cb r.cells).drop 1,(cb r.cells).drop 2]).length=2*l.length:=by
  intro l
  induction l with
  |nil=>rfl
  |cons r l a=>rw[a2Z,a0D,a];simp;omega
 rw[this];omega
theorem a4A(c:s8 t)(hs:Sm t){Hs:List Hf}(d:Hs.Nodup)(hb:∀h∈Hs,HfB t h):Hs.length≤16128:=by
 have h1:=a9d Hs (c0W t) d fun h e=>by obtain⟨b,a⟩:=hb h e;exact a4a.2 ⟨h.x,a1v.2 b,E5.2 ⟨h.r,a,rfl⟩⟩
 have b:(c0W t).length=(j4 t).length*(1+2*t.rules.length):=a8v _ _ _ fun _=>by rw[N5,c7V]
 have a:=b2Z c hs.m2;have f:=hs.r10;have g:(j4 t).length*(1+2*t.rules.length)≤768*21:=a5S a i9;omega
structure J6 where
 (c:UInt8)
 (p:By)
 (to:Nat)
 deriving DecidableEq
abbrev J2:=List Hf×List (Option (List J6))
def S9(s:J2)(h:Hf):Nat×J2:=match s.1.idxOf? h with
 |some n=>(n,s)
 |none=>(s.1.length,(s.1++[h],s.2++[none]))
def arE(t:j9)(s:J2)(a:Nat×Nat):J6:=⟨(cb (cls t a.1)).headD 0,prt t a.1,(S9 s ⟨a.2,(cb (cls t a.1)).tail⟩).1⟩
def W5(t:j9)(st:J2×List J6)(a:Nat×Nat):J2×List J6:=((S9 st.1 ⟨a.2,(cb (cls t a.1)).tail⟩).2,if arE t st.1 a∈st.2 then st.2 else st.2++[arE t st.1 a])
noncomputable def a1G(t:j9)(s:J2)(h:Hf):J2×List J6:=match h.r with
 |c::r=>((S9 s ⟨h.x,r⟩).2,[⟨c,[],(S9 s ⟨h.x,r⟩).1⟩])
 | []=>(G9 t h.x).foldl (W5 t) (s,[])
noncomputable def a8g(t:j9)(s:J2)(n:Nat):J2×List J6:=(((a1G t s (s.1.getD n ⟨0,[]⟩)).1.1,(a1G t s (s.1.getD n ⟨0,[]⟩)).1.2.set n (some (a1G t s (s.1.getD n ⟨0,[]⟩)).2)),(a1G t s (s.1.getD n ⟨0,[]⟩)).2)
noncomputable def M3(t:j9)(s:J2)(n:Nat):J2×List J6:=match s.2.getD n none with
 |some L=>(s,L)
 |none=>a8g t s n
def StI(t:j9)(Hs:List Hf)(h:Hf)(L:List J6):Prop:=(∀s∈L,∃h',Hs[s.to]?=some h'∧Stp t h s.c s.p h')∧∀c p h',Stp t h c p h'→∃s∈L,s.c=c∧s.p=p∧Hs[s.to]?=some h'
structure HSI(t:j9)(s:J2):Prop where
 nd:s.1.Nodup
 hb:∀h∈s.1,HfB t h
 sl:s.2.length=s.1.length
 st:∀(n:Nat) L h,s.2[n]?=some (some L)→s.1[n]?=some h→StI t s.1 h L∧L.length≤64
theorem a0m{α:Type}{l m:List α}(h:l<+:m){i:Nat}{x:α}(hi:l[i]?=some x):m[i]?=some x:=by
 obtain⟨r,rfl⟩:=h
 grind
theorem StI.mono{Hs Hs':List Hf}{h:Hf}{L:List J6}(hp:Hs<+:Hs')(hi:StI t Hs h L):StI t Hs' h L:=
 ⟨fun s hs=>by obtain⟨h',a,b⟩:=hi.1 s hs;exact⟨h',a0m hp a,b⟩,fun c p h' hs=>by obtain⟨s,a,b,d,e⟩:=hi.2 c p h' hs;exact⟨s,a,b,d,a0m hp e⟩⟩
theorem c1b{s:J2}(hi:HSI t s){h:Hf}(hb:HfB t h):HSI t (S9 s h).2∧s.1<+:(S9 s h).2.1∧s.2<+:(S9 s h).2.2∧(S9 s h).2.1[(S9 s h).1]?=some h:=by
 unfold S9;cases c:s.1.idxOf? h with
 |some n=>
  rw[List.idxOf?,a1Y]at c;obtain⟨h1,d,_⟩:=c;refine⟨hi,a5g _,a5g _,?_⟩;rw[m7 h1];simpa using d
 |none=>
  have hm:=a3a.1 c;refine⟨⟨?_,?_,?_,?_⟩,List.prefix_append _ _,List.prefix_append _ _,l5⟩
  . rw[a5R];exact⟨hi.nd,l5,fun a g b hb e=>by rw[H5]at hb;subst hb;subst e;exact hm g⟩
  . intro x c;rcases I4.1 c with c|c
    . exact hi.hb x c
    . grind
  . simp[hi.sl]
  . intro n L x h1 d;have f:n<s.2.length:=(by grind);rw[a1k f]at h1;rw[a1k (by rw[←hi.sl];exact f)]at d;obtain⟨a,b⟩:=hi.st n L x h1 d;exact⟨a.mono (List.prefix_append _ _),b⟩
theorem c8C(b:s8 t){x:Nat}(d:x<(j4 t).length){a:Nat×Nat}(e:a∈G9 t x):cb (cls t a.1)=(cb (cls t a.1)).headD 0::(cb (cls t a.1)).tail:=by
 obtain⟨_,_,h,_⟩:=a4t b d e;have:(cb (cls t a.1)).length=A7 t a.1:=by rw[b7q];rfl
 cases f:cb (cls t a.1)with
 |nil=>rw[f]at this;simp at this;omega
 |cons c r=>rfl
structure ArI(t:j9)(s:J2)(h:Hf)(A:List (Nat×Nat))(j:Nat)(st:J2×List J6):Prop where
 hi:HSI t st.1
 pre:s.1<+:st.1.1
 pr2:s.2<+:st.1.2
 snd:∀e∈st.2,∃h',st.1.1[e.to]?=some h'∧Stp t h e.c e.p h'
 all:∀a∈A.take j,∃e∈st.2,e.c=(cb (cls t a.1)).headD 0∧e.p=prt t a.1∧st.1.1[e.to]?=some ⟨a.2,(cb (cls t a.1)).tail⟩
 len:st.2.length≤j
theorem ArI.next(f:s8 t)(hs:Sm t){s:J2}{h:Hf}(hb:HfB t h)(hr:h.r=[]){j:Nat}{st:J2×List J6}(hi:ArI t s h (G9 t h.x) j st)(hj:j<(G9 t h.x).length):ArI t s h (G9 t h.x) (j+1) (W5 t st (G9 t h.x)[j]):=by
 obtain⟨a,g⟩:=p7 ((G9 t h.x)[j]);have i:a∈G9 t h.x:=by grind
 have l:=c8C f hb.1 i;have k:Stp t h ((cb (cls t a.1)).headD 0) (prt t a.1) ⟨a.2,(cb (cls t a.1)).tail⟩:=.inr ⟨hr,a,i,l,rfl,rfl⟩;obtain⟨g1,g2,g3,g4⟩:=c1b hi.hi (k.bd f hs hb);rw[←g];have m:arE t st.1 a∈(W5 t st a).2:=by
  unfold W5;simp only;split
  . assumption
  . simp
 refine⟨g1,hi.pre.trans g2,hi.pr2.trans g3,fun e he=>?_,fun b c=>?_,?_⟩
 . have d:e∈st.2∨e=arE t st.1 a:=by
    unfold W5 at he;simp only at he;split at he
    . exact .inl he
    . grind
   rcases d with d|rfl
   . obtain⟨h',n,a2⟩:=hi.snd e d;exact⟨h',a0m g2 n,a2⟩
   . exact⟨_,g4,k⟩
 . rw[L3,m7 hj]at c;rcases I4.1 c with c|c
   . obtain⟨e,r,o,p,q⟩:=hi.all b c;refine⟨e,?_,o,p,a0m g2 q⟩;unfold W5
     grind
   . simp only[a9G,H5]at c;rw[c,←g];exact⟨_,m,rfl,rfl,g4⟩
 . have:=hi.len;unfold W5
   grind
theorem b4W(b:s8 t)(hs:Sm t){s:J2}(hi:HSI t s){h:Hf}(hb:HfB t h)(hr:h.r=[]):∀j,j≤(G9 t h.x).length→ArI t s h (G9 t h.x) j (((G9 t h.x).take j).foldl (W5 t) (s,[]))
 |0,_=>⟨hi,a5g _,a5g _,fun e he=>(by cases he),fun a c=>(by simp at c),m9 _⟩
 |j+1,hj=>by rw[a5x _ _ (show j<(G9 t h.x).length by omega)];exact(b4W b hs hi hb hr j i9).next b hs hb hr i9
theorem d0o(g:s8 t)(hs:Sm t){s:J2}(hi:HSI t s){h:Hf}(hb:HfB t h):HSI t (a1G t s h).1∧s.1<+:(a1G t s h).1.1∧s.2<+:(a1G t s h).1.2∧StI t (a1G t s h).1.1 h (a1G t s h).2∧(a1G t s h).2.length≤64:=by
 unfold a1G;cases hr:h.r with
 |cons c r=>
  have j:Stp t h c [] ⟨h.x,r⟩:=.inl ⟨hr,rfl,rfl⟩;obtain⟨g1,g2,g3,g4⟩:=c1b hi (j.bd g hs hb);refine⟨g1,g2,g3,⟨fun e he=>?_,fun c' k h' h1=>?_⟩,l5⟩
  . grind
  . rcases h1 with⟨b,d,f⟩|⟨b,_⟩
    . rw[hr]at b;cases b;refine⟨_,H5.2 rfl,rfl,d.symm,?_⟩;rw[g4];cases h';simp only at f;rw[f]
    . rw[hr]at b;cases b
 |nil=>
  have h1:=b4W g hs hi hb hr _ (m9 _);rw[M4]at h1;refine⟨h1.hi,h1.pre,h1.pr2,⟨h1.snd,fun c' k h' b=>?_⟩,V1 h1.len (a6A g _)⟩;rcases b with⟨d,_⟩|⟨_,a,p,d,f,i⟩
  . rw[hr]at d;cases d
  . obtain⟨e,l,m,n,o⟩:=h1.all a (by grind);refine⟨e,l,by rw[m,d];rfl,by rw[n,f],?_⟩;rw[o,d];cases h';simp only at i;rw[i];rfl
theorem getD_some{α:Type}{l:List α}{n:Nat}{d x:α}(h:l[n]?=some x):l.getD n d=x:=by grind
theorem a7u(g:s8 t)(hs:Sm t){s:J2}(hi:HSI t s){n:Nat}{h:Hf}(c:s.1[n]?=some h):HSI t (M3 t s n).1∧s.1<+:(M3 t s n).1.1∧StI t (M3 t s n).1.1 h (M3 t s n).2∧(M3 t s n).2.length≤64∧M3 t (M3 t s n).1 n=M3 t s n:=by
 have i:n<s.2.length:=by rw[hi.sl];exact(B8.1 c).1
 cases f:s.2.getD n none with
 |some L=>
  have e:M3 t s n=(s,L):=by unfold M3;rw[f]
  rw[e];have j:s.2[n]?=some (some L):=by grind
  obtain⟨a,b⟩:=hi.st n L h j c;exact⟨hi,a5g _,a,b,e⟩
 |none=>
  have e:M3 t s n=a8g t s n:=by unfold M3;rw[f]
  rw[e];unfold a8g;rw[getD_some c];obtain⟨g1,g2,g3,g4,g5⟩:=d0o g hs hi (hi.hb h (D4 c));have k:n<(a1G t s h).1.2.length:=a9B i g3.length_le;refine⟨⟨g1.nd,g1.hb,by rw[a4D];exact g1.sl,fun m L x h1 d=>?_⟩,g2,g4,g5,?_⟩
  . by_cases hm:m=n
    . subst hm;rw[F8 k]at h1;cases h1;rw[a0m g2 c]at d;cases d;exact⟨g4,g5⟩
    . rw[F7 (Ne.symm hm)]at h1;exact g1.st m L x h1 d
  . show M3 t ((a1G t s h).1.1,_) n=_;unfold M3
    grind
abbrev BM:=List (UInt8×List Nd)
def a0B(l:Ld)(x:J6)(B:BM)(y:J6):BM:=if x.c=y.c then Y9 B x.c (Nd.ord ⟨x.to,y.to,l.aft x.p y.p⟩)else B
def a1O(l:Ld)(Lb:List J6)(B:BM)(x:J6):BM:=Lb.foldl (a0B l x) B
theorem c8V{l:Ld}{x y:J6}{B:BM}{c:UInt8}{m:Nd}:m∈D3 (a0B l x B y) c↔m∈D3 B c∨(x.c=c∧y.c=c∧m=Nd.ord ⟨x.to,y.to,l.aft x.p y.p⟩):=by
 unfold a0B;split
 . rename_i h;rw[a7l];split
   . grind
   . grind
 . grind
theorem b5v{l:Ld}{x:J6}{c:UInt8}{m:Nd}:∀{Lb:List J6} {B:BM},m∈D3 (a1O l Lb B x) c↔m∈D3 B c∨∃y∈Lb,x.c=c∧y.c=c∧m=Nd.ord ⟨x.to,y.to,l.aft x.p y.p⟩
 | [],B=>by simp[a1O]
 |y::Lb,B=>by
  show m∈D3 (a1O l Lb (a0B l x B y) x) c↔_;rw[b5v (Lb:=Lb),c8V]
  grind
theorem a9Y{l:Ld}{Lb:List J6}{c:UInt8}{m:Nd}:∀{La:List J6} {B:BM},m∈D3 (La.foldl (a1O l Lb) B) c↔m∈D3 B c∨∃x∈La,∃y∈Lb,x.c=c∧y.c=c∧m=Nd.ord ⟨x.to,y.to,l.aft x.p y.p⟩
 | [],B=>by simp
 |x::La,B=>by
  rw[a3s,a9Y (La:=La),b5v]
  grind
theorem c6u{l:Ld}{x y:J6}{B:BM}(c:UInt8):(D3 (a0B l x B y) c).length≤(D3 B c).length+1:=by
 unfold a0B;split
 . rw[a7l]
   grind
 . omega
theorem b6l{l:Ld}{x:J6}(c:UInt8):∀{Lb:List J6} {B:BM},(D3 (a1O l Lb B x) c).length≤(D3 B c).length+Lb.length
 | [],B=>by simp[a1O]
 |y::Lb,B=>by have h1:=b6l (l:=l) (x:=x) c (Lb:=Lb) (B:=a0B l x B y);have a:=c6u (l:=l) (x:=x) (y:=y) (B:=B) c;show(D3 (a1O l Lb (a0B l x B y) x) c).length≤_;rw[a0a];omega
theorem b8Y{l:Ld}{Lb:List J6}(c:UInt8):∀{La:List J6} {B:BM},(D3 (La.foldl (a1O l Lb) B) c).length≤(D3 B c).length+La.length*Lb.length
 | [],B=>by simp
 |x::La,B=>by have h1:=b8Y (l:=l) (Lb:=Lb) c (La:=La) (B:=a1O l Lb B x);have a:=b6l (l:=l) (x:=x) c (Lb:=Lb) (B:=B);rw[a3s,a0a,Nat.succ_mul];omega
noncomputable def a0J(t:j9)(s:J2)(B:BM)(n:Nd):J2×BM:=if(M3 t s n.a).2=[]then((M3 t s n.a).1,B)else((M3 t (M3 t s n.a).1 n.b).1,(M3 t s n.a).2.foldl (a1O n.l (M3 t (M3 t s n.a).1 n.b).2) B)
theorem c8f(C:s8 t)(hs:Sm t){s:J2}(hi:HSI t s){B:BM}{n:Nd}{w:By}(N:NS t s.1 w n):
 HSI t (a0J t s B n).1∧s.1<+:(a0J t s B n).1.1∧(∀c m,m∈D3 B c→m∈D3 (a0J t s B n).2 c)∧(∀c m,m∈D3 (a0J t s B n).2 c→m∈D3 B c∨NS t (a0J t s B n).1.1 (w++[c]) m∧m.a≤m.b)∧
 (∀c,(D3 (a0J t s B n).2 c).length≤(D3 B c).length+4096)∧
 (∀c p q g hb D E,s.1[n.a]?=some g→s.1[n.b]?=some hb→Stp t g c p D→Stp t hb c q E→∃i j,(a0J t s B n).1.1[i]?=some D∧(a0J t s B n).1.1[j]?=some E∧Nd.ord ⟨i,j,n.l.aft p q⟩∈D3 (a0J t s B n).2 c):=by
 obtain⟨u,v,g,hb,k,F,O,P,Q⟩:=id N;obtain⟨G,a2,a3,a4,a5⟩:=a7u C hs hi k;unfold a0J;split
 . rename_i R;refine⟨G,a2,fun _ _ h=>h,fun _ _ h=>.inl h,fun _=>Nat.le_add_right _ _,fun c p q S T a H b o r I=>?_⟩;rw[k]at b;cases b;obtain⟨e,J,_⟩:=a3.2 c p a r;rw[R]at J;cases J
 . obtain⟨U,K,L,V,af⟩:=a7u C hs G (a0m a2 F);have M:=a3.mono K;refine⟨U,a2.trans K,fun c m h=>a9Y.2 (.inl h),fun c m h=>?_,fun c=>?_,fun c p q S T a H b o r I=>?_⟩
   . rcases a9Y.1 h with h|⟨x,W,y,X,Y,Z,rfl⟩
     . exact .inl h
     . refine .inr ⟨NS.ord ?_,?_⟩
       . obtain⟨a,z,d⟩:=M.1 x W;obtain⟨aa,A,f⟩:=L.1 y X;rw[Y]at d;rw[Z]at f;exact⟨u++x.p,v++y.p,a,aa,z,A,HP.snoc d O,HP.snoc f P,by rw[Q];exact a3M _ _ _ _⟩
       . unfold Nd.ord;split
         . omega
         . rename_i h;simp only at h⊢;omega
   . have h1:=b8Y (l:=n.l) (Lb:=(M3 t (M3 t s n.a).1 n.b).2) c (La:=(M3 t s n.a).2) (B:=B);have ag:(M3 t s n.a).2.length*(M3 t (M3 t s n.a).1 n.b).2.length≤64*64:=a5S a4 V;refine V1 h1 ?_;omega
   . rw[k]at b;cases b;rw[F]at o;cases o;obtain⟨x,z,d,ab,ac⟩:=M.2 c p a r;obtain⟨y,A,f,ad,ae⟩:=L.2 c q H I;refine⟨x.to,y.to,ac,ae,a9Y.2 (.inr ⟨x,z,y,A,d,f,?_⟩)⟩;rw[ab,ad]
def S0(ls:List Ld)(l:Ld):Bool:=ls.any (fun k=>k==l||k.s==3)||ls.length==2
def Y5(F:FT)(n:Nd):Bool×FT:=if S0 (D3 F n.k) n.l=true then(false,F)else(true,Y9 F n.k n.l)
structure SrI(t:j9)(Hs:List Hf)(F:FT)(P:Nd→Prop):Prop where
 ns:∀n,Rec F n→(∃w,NS t Hs w n)∧¬Cls t Hs n
 dn:∀n,Rec F n→P n∨Don t Hs F n
 kd:(F.map (·.1)).Nodup
 ke:∀e∈F,e.1.1≤e.1.2∧e.1.2<Hs.length
 tw:∀e∈F,e.2.length≤2∧e.2.Nodup
 h0:Hs[0]?=some ⟨0,[]⟩
 rt:Rec F ⟨0,0,⟨0,[]⟩⟩
def FLe(F F':FT):Prop:=∀k l,l∈D3 F k→l∈D3 F' k
theorem FLe.hdl{F F':FT}(h:FLe F F'){n:Nd}(d:Hdl F n):Hdl F' n:=by
 rcases d with h1|⟨k,h1,c⟩|⟨a,b,h1,c,e⟩
 . exact .inl (h _ _ h1)
 . exact .inr (.inl ⟨k,h _ _ h1,c⟩)
 . exact .inr (.inr ⟨a,b,h _ _ h1,h _ _ c,e⟩)
theorem FLe.put(F:FT)(k:Nat×Nat)(l:Ld):FLe F (Y9 F k l):=fun a b h=>by
 rw[a7l];split
 . grind
 . exact h
theorem FLe.rec(F:FT)(n:Nd):FLe F (Y5 F n).2:=by
 unfold Y5;split
 . exact fun _ _ h=>h
 . exact FLe.put F _ _
theorem Don.mono{Hs:List Hf}{F F':FT}(e:FLe F F'){n:Nd}(h:Don t Hs F n):Don t Hs F' n:=fun c p q f hb g k h1 l m o=>by obtain⟨i,j,a,b,d⟩:=h c p q f hb g k h1 l m o;exact⟨i,j,a,b,e.hdl d⟩
theorem Don.pre{Hs Hs':List Hf}{F:FT}(hp:Hs<+:Hs'){n:Nd}{w:By}(k:NS t Hs w n)(h:Don t Hs F n):Don t Hs' F n:=fun c p q s hb l m h1 e o r=>by obtain⟨u,v,x,y,f,g,_⟩:=k;rw[a0m hp f]at h1;cases h1;rw[a0m hp g]at e;cases e;obtain⟨i,j,a,b,d⟩:=h c p q _ _ l m f g o r;exact⟨i,j,a0m hp a,a0m hp b,d⟩
theorem SrI.mono{Hs:List Hf}{F:FT}{P P':Nd→Prop}(h:SrI t Hs F P)(hp:∀n,Rec F n→P n→P' n∨Don t Hs F n):SrI t Hs F P':=
 {h with dn:=fun n a=>(h.dn n a).elim (hp n a) .inr}
theorem SrI.pre{Hs Hs':List Hf}{F:FT}{P:Nd→Prop}(hp:Hs<+:Hs')(h:SrI t Hs F P):SrI t Hs' F P:=
 ⟨fun n a=>by
  obtain⟨⟨w,h1⟩,g⟩:=h.ns n a;refine⟨⟨w,h1.mono hp⟩,fun b=>g ⟨b.1,?_⟩⟩;obtain⟨_,i,hb,c1,c2,c3,c4⟩:=b;obtain⟨u,v,j,k,c,f,_⟩:=h1;rw[a0m hp c]at c1;cases c1;rw[a0m hp f]at c2;cases c2;exact⟨_,_,c,f,c3,c4⟩,
  fun n a=>by obtain⟨⟨w,h1⟩,_⟩:=h.ns n a;exact(h.dn n a).imp id fun d=>d.pre hp h1,
  h.kd,fun e he=>⟨(h.ke e he).1,a9B (h.ke e he).2 hp.length_le⟩,h.tw,a0m hp h.h0,h.rt⟩
theorem c2g{Hs:List Hf}{F:FT}{P:Nd→Prop}(h:SrI t Hs F P){n:Nd}(hb:S0 (D3 F n.k) n.l=true):Hdl F n:=by
 unfold S0 at hb;rw[a1j,List.any_eq_true]at hb;rcases hb with⟨k,h1,c⟩|h1
 . simp only[a1j,beq_iff_eq]at c;rcases c with c|c
   . subst c;exact .inl h1
   . exact .inr (.inl ⟨k,h1,c⟩)
 . simp only[beq_iff_eq]at h1;have c:(D3 F n.k).Nodup:=by
    rcases a8D (k:=n.k) (F:=F)with e|e
    . rw[e];simp
    . exact(h.tw _ e).2
   match hl:D3 F n.k,h1 with
   | [a,b],_=>
    rw[hl]at c;refine .inr (.inr ⟨a,b,by rw[hl];simp,by rw[hl];simp,?_⟩);intro e;subst e;simp at c
theorem c6W{Hs:List Hf}{F:FT}{P:Nd→Prop}(h:SrI t Hs F P){n:Nd}{w:By}(c:NS t Hs w n)(hle:n.a≤n.b)(g:¬Cls t Hs n)(hb:¬S0 (D3 F n.k) n.l=true):SrI t Hs (Y9 F n.k n.l) fun m=>P m∨m=n:=by
 have f:∀m,Rec (Y9 F n.k n.l) m→Rec F m∨m=n:=fun m hm=>by
  unfold Rec at hm⊢;rw[a7l]at hm;split at hm
  . rename_i e;rcases I4.1 hm with hm|hm
    . left;rw[←e];exact hm
    . right
      have l:n.a=m.a:=congrArg Prod.fst e;have o:n.b=m.b:=congrArg Prod.snd e;have p:=H5.1 hm;cases m;cases n
      grind
  . exact .inl hm
 refine⟨fun m hm=>?_,fun m hm=>?_,?_,fun e he=>?_,fun e he=>?_,h.h0,FLe.put F _ _ _ _ h.rt⟩
 . rcases f m hm with hm|rfl
   . exact h.ns m hm
   . exact⟨⟨w,c⟩,g⟩
 . rcases f m hm with hm|rfl
   . exact(h.dn m hm).imp .inl fun d=>d.mono (FLe.put F _ _)
   . exact .inl (.inr rfl)
 . rw[b6i];split
   . exact h.kd
   . rename_i i;rw[a5R];exact⟨h.kd,l5,fun a j b hb e=>by rw[H5]at hb;subst hb;subst e;exact i j⟩
 . obtain⟨u,v,q,r,s,x,_⟩:=c;rcases b0w he with he|rfl
   . exact h.ke e he
   . grind
 . rcases b0w he with he|rfl
   . exact h.tw e he
   . unfold S0 at hb;simp only[a1j,not_or,List.any_eq_true,not_exists,not_and,beq_iff_eq]at hb;obtain⟨y,z⟩:=hb;have A:(D3 F n.k).length≤2∧(D3 F n.k).Nodup:=by
      rcases a8D (k:=n.k) (F:=F)with e|e
      . rw[e];simp
      . exact h.tw _ e
     grind
theorem b7D{F:FT}{n:Nd}:Rec (Y9 F n.k n.l) n:=by unfold Rec;rw[a7l,if_pos rfl];simp
def prs:Nat→List (Nat×Nat)
 |0=>[]
 |n+1=>prs n++(List.range (n+1)).map fun a=>(a,n)
theorem b7J:∀n,2*(prs n).length=n*(n+1)
 |0=>rfl
 |n+1=>by
  have a:=b7J n;unfold prs
  grind
theorem c0d{a b:Nat}:∀{n:Nat},a≤b→b<n→(a,b)∈prs n
 |0,_,h=>by omega
 |n+1,h1,c=>by
  unfold prs;by_cases h:b=n
  . grind
  . exact a4G _ (c0d h1 i9)
theorem SrI.Z2{Hs:List Hf}{F:FT}{P:Nd→Prop}(h:SrI t Hs F P):L8 F≤Hs.length*(Hs.length+1):=by
 have h1:L8 F≤2*F.length:=by
  have:=h.tw;unfold L8;clear h
  induction F with
  |nil=>simp
  |cons e F b=>
   have h1:=(this e a3v).1;have a:=b fun e he=>this e (a5e _ he);simp only[a0N,List.sum_cons,a0a];omega
 have a:=a9d (F.map (·.1)) (prs Hs.length) h.kd fun k c=>by obtain⟨e,he,rfl⟩:=E5.1 c;exact c0d (h.ke e he).1 (h.ke e he).2
 rw[N5]at a;have d:=b7J Hs.length;omega
theorem a5V{n m:Nat}(h:m≤n*(n+1))(a:n≤16128):m≤260128512:=
 V1 h (V1 (a5S a (Nat.succ_le_succ a)) I7)
theorem SrI.fin(b:s8 t){Hs:List Hf}{F:FT}(h:SrI t Hs F fun _=>False):¬Two t:=
 c3y b (fun n a=>⟨(h.dn n a).elim False.elim id,(h.ns n a).2,(h.ns n a).1⟩) h.h0 h.rt
end
def a0Z:u7:=
 ⟨51,[0,1,2,3,6,8,9,15,21,29,34,40,45],2,[(4,some (true,2))],sq [.reg [F5 3 0 0,ow 4 (.alloc 1 [.int .i64 0,.str ⟨#[]⟩])],sq [.reg [od 0 3,V8 5 1 0],.block 0 (sq [.reg [oey 5 1,oc 6 0],.cond (.v 6) (.reg [od 1 3,ob 1 0,oa 1,X2 1 2,oc 1 3]) (sq [.reg [oey 5 2,oc 7 0],.cond (.v 7) (.reg [od 1 3,ob 1 0,oa 2,X2 1 2,oc 2 3]) (sq [.reg [oey 5 3,oc 8 0],.cond (.v 8) (sq [kam 2 3 2 4 0,ko]) kc])])])],.block 1 (.loopS [1,2,4] 2 (sq [sq [.reg [oa 1,oeq 0,os 1,og 2 2,⟨.bin .neq false (.l 3) (.c (.str ⟨#[]⟩)),none,some (.l 2,true),[]⟩,P3 9 2 4],B6 9 1],.block 2 (sq [sq [.reg [oa 1,oen 0 0,oa 2,oen 2 0,obx 10 1 3],.cond (.v 10) (sq [.reg [oq (.build [.int .i64 0,.str ⟨#[]⟩] [(0,1,oi 3)]),M1 2 4 0],ko]) kc],.reg [oa 1,oep 0 0 1,oa 2,oep 0 2 1,oc 1 1,oc 2 3]])])),.block 3 (sq [.reg [oa 1,oeq 0,oc 11 1],.cond (.v 11) (sq [.reg [oa 1,oq (.build [.int .i64 0,.str ⟨#[]⟩] [(0,1,oi 1),(1,1,.l 0)]),M1 2 4 1],ko]) (sq [.reg [oa 2,oeq 0,oc 12 1],.cond (.v 12) (sq [.reg [oa 2,oq (.build [.int .i64 0,.str ⟨#[]⟩] [(0,1,oi 2),(1,1,.l 0)]),M1 2 4 1],ko]) kc])]),.reg [oq (.build [.int .i64 0,.str ⟨#[]⟩] []),M1 2 4 0],ko]⟩
def a4q:u7:=
 ⟨48,[0,1,2,24,38,39,43],2,[(2,some (true,4))],sq [.reg [F5 1 0 0,odh 2 1 0 0 0],sq [.reg [od 0 1,ou 0 0,ob 1 1,od 0 1,ou 1 3,ob 1 4,obu 2 5,os 6,ov 0 1 7,⟨.fieldAddr 0 (.l 8),none,some (.l 7,false),[]⟩,ot 1 9 7,ov 0 1 7,⟨.fieldAddr 1 (.l 11),none,some (.l 7,false),[]⟩,ot 1 12 7,odb 10 13 7,ofo 14 7,om 2 1 15,obc 0 16 15,oe 1 17 15,⟨.bin .neq false (.l 18) (oi 2),none,some (.l 15,true),[]⟩,odn 15 19 7,U0 3 7 20],.cond (.v 3) (sq [kam 4 1 4 2 0,ko]) kc],.reg [od 0 1,ou 1 0,ob 1 1,od 0 1,ou 0 3,ob 1 4,od 0 1,ou 0 6,ok 1 7 2,od 0 1,ou 1 9,ok 1 10 5],sq [.reg [od 2 1,ou 0 0,V8 4 1 1],.block 0 (sq [.reg [oey 4 1,oc 5 0],.cond (.v 5) (.reg [od 2 1,ou 0 0,oq (.store 1 (.l 1) (oi 2))]) (sq [.reg [oey 4 2,oc 6 0],.cond (.v 6) (.reg [od 2 1,ou 0 0,oq (.store 1 (.l 1) (oi 1))]) kc])])],kam 4 1 4 2 0,ko]⟩
def X93:u7:=
 ⟨26,[0,1,4,5,6,11,12,13,14,15,24],0,[(2,none)],sq [kj 2,sq [.reg [oa 0,E0 0,oa 1,E0 2,oaz 5 1 3],.cond (.v 5) (U4 2) kc],sq [ks 6 1 7 0 8 0,.block 0 (.loopS [0,6,7,8] 0 (sq [kh 9 8 7,B6 9 0,.block 1 (sq [.reg [oa 8,U9 1 6 8,ob 1 1,oc 3 0,oc 4 2],.reg [oa 0,oa 3,oj 1 0 1,ob 1 2,oa 4,obx 10 3 4],.cond (.v 10) (U4 2) kc]),kd 8 1 8 0]))],kz 2,ko]⟩
def X94:u7:=
 ⟨46,[0,1,4,5,11,22,29],3,[(2,none)],sq [kad 2,.block 0 (sq [.reg [oa 0,E0 0,occ 1 0,oc 3 2],.cond (.v 3) (sq [.reg [oa 1,oq (.mkarr 0 1 [.str ⟨#[]⟩] [(0,.l 0)]),oc 2 1],.G7 [(0,true)] ko]) (sq [.reg [oa 1,oa 0,ock 1 1 0,ob 1 2,obu 0 3,oc 4 4],.cond (.v 4) (sq [.reg [oa 1,oa 0,ock 1 1 0,ob 1 2,oq (.mkarr 1 1 [.str ⟨#[]⟩,.str ⟨#[]⟩] [(0,.l 0),(1,.l 3)]),oc 2 4],.G7 [(1,true)] ko]) (sq [.reg [oa 1,oa 0,ock 1 1 0,ob 1 2,ocj 0 3,oc 5 4],.cond (.v 5) (sq [kg 0 2 0,ko]) (sq [.reg [oa 0,E0 0,occ 1 1,os 2,L4 1 3,L4 0 3,⟨.indexAddr 1 (.l 5) (oi 1),none,some (.l 3,false),[]⟩,ot 1 6 3,oda 4 7 3,P5 3 8,oc 6 9],.cond (.v 6) (sq [.reg [oa 0,ock 1 0 0,ob 1 1,oa 1,oq (.mkarr 2 1 [.str ⟨#[]⟩,.str ⟨#[]⟩] [(0,.l 2),(1,.l 3)]),oc 2 4],.G7 [(2,true)] ko]) kc])])])]),kg 0 2 0,ko]⟩
theorem c115:C4 115 a0Z:=C6
theorem c116:C4 116 a4q:=C6
theorem c93:C4 93 X93:=C6
theorem c94:C4 94 X94:=C6
abbrev LQ(l:Ld):PV:=.agg [IN l.s,St l.x]
abbrev NQ(n:Nd):PV:=.agg [IN n.a,IN n.b,IN n.l.s,St n.l.x]
theorem c3r(l:Ld)(v:l.s≤3)(p q:By)(h1:l.x.length≤1000000000000)(w:p.length≤1000000)(z:q.length≤1000000):F0 115 [0,0] [LQ l,St p,St q] (LQ (l.aft p q)):=by
 obtain⟨R,g⟩:=p7 (l.aft p q);rw[←g];refine E4 c115 3 (by simp[a0Z]) fun Q f A=>?_;have t:¬((9223372036854775807:Int)<(l.x.length:Int)+(p.length:Int)):=i9;have u:¬((9223372036854775807:Int)<(l.x.length:Int)+(q.length:Int)):=i9;obtain⟨s,x⟩:=l;dsimp only at*;have hs:s=0∨s=1∨s=2∨s=3:=i9;rcases hs with rfl|rfl|rfl|rfl
 . simp[Ld.aft]at g;simp[a0Z];obtain⟨P0,k⟩:=p7 (p);obtain⟨Q0,m⟩:=p7 (q);rw[←k,←m]at g⊢;refine I6 (fun(y:By×By) vs h=>ld y.1 y.2=R∧vs=[.uu,St y.1,St y.2,.uu,.ptr 2 1 0,.uu,.uu,.uu,.uu,.uu,.uu,.uu,.uu]∧h=[dd,dd,(1,.var [I 0,St []])]) (fun y=>y.1.length) (P0,Q0) ?_ ?_
   . simp[g]
   . rintro⟨p,q⟩ vs h ⟨c,rfl,rfl⟩ Q' n i o;dsimp only at c;cases p with
     |nil=>
      cases q with
      |nil=>
       simp[ld]at c;simp;refine i _ _ _ ?_;simp;refine f _ _ ?_;simp[a0Z,←c]
      |cons b q=>
       simp[ld]at c;have e:¬((q.length:Int)+1=0):=i9;simp;refine i _ _ _ ?_;simp;refine f _ _ ?_;simp[a0Z,←c]
     |cons a p=>
      cases q with
      |nil=>
       simp[ld]at c;simp;refine i _ _ _ ?_;simp;refine f _ _ ?_;simp[a0Z,←c]
      |cons b q=>
       have f1:(1:Int)≤(p.length:Int)+1:=i9;have f2:(1:Int)≤(q.length:Int)+1:=i9;by_cases d:a=b
       . rw[ld,if_pos d]at c;subst d;simp[f1,f2];refine n (p,q) _ _ l5 ?_;simp[c]
       . rw[ld,if_neg d]at c;have j:¬(a.toNat=b.toNat):=fun e=>d (a6N.1 e);have r:¬((a.toNat:Int)=(b.toNat:Int)):=fun e=>j (Int.ofNat.inj e);simp[j,r,d];refine o _ _ ?_;refine f _ _ ?_;simp[a0Z,←c]
 . simp[Ld.aft]at g;obtain⟨P0,k⟩:=p7 (x++p);obtain⟨Q0,m⟩:=p7 (q);rw[←k,←m]at g;simp[a0Z,t,←k];rw[←m];refine I6 (fun(y:By×By) vs h=>ld y.1 y.2=R∧vs=[.uu,St y.1,St y.2,.uu,.ptr 2 1 0,.uu,.uu,.uu,.uu,.uu,.uu,.uu,.uu]∧h=[dd,dd,(1,.var [I 0,St []])]) (fun y=>y.1.length) (P0,Q0) ?_ ?_
   . simp[g]
   . rintro⟨p,q⟩ vs h ⟨c,rfl,rfl⟩ Q' n i o;dsimp only at c;cases p with
     |nil=>
      cases q with
      |nil=>
       simp[ld]at c;simp;refine i _ _ _ ?_;simp;refine f _ _ ?_;simp[a0Z,←c]
      |cons b q=>
       simp[ld]at c;have e:¬((q.length:Int)+1=0):=i9;simp;refine i _ _ _ ?_;simp;refine f _ _ ?_;simp[a0Z,←c]
     |cons a p=>
      cases q with
      |nil=>
       simp[ld]at c;simp;refine i _ _ _ ?_;simp;refine f _ _ ?_;simp[a0Z,←c]
      |cons b q=>
       have f1:(1:Int)≤(p.length:Int)+1:=i9;have f2:(1:Int)≤(q.length:Int)+1:=i9;by_cases d:a=b
       . rw[ld,if_pos d]at c;subst d;simp[f1,f2];refine n (p,q) _ _ l5 ?_;simp[c]
       . rw[ld,if_neg d]at c;have j:¬(a.toNat=b.toNat):=fun e=>d (a6N.1 e);have r:¬((a.toNat:Int)=(b.toNat:Int)):=fun e=>j (Int.ofNat.inj e);simp[j,r,d];refine o _ _ ?_;refine f _ _ ?_;simp[a0Z,←c]
 . simp[Ld.aft]at g;obtain⟨P0,k⟩:=p7 (p);obtain⟨Q0,m⟩:=p7 (x++q);rw[←k,←m]at g;simp[a0Z,u,←m];rw[←k];refine I6 (fun(y:By×By) vs h=>ld y.1 y.2=R∧vs=[.uu,St y.1,St y.2,.uu,.ptr 2 1 0,.uu,.uu,.uu,.uu,.uu,.uu,.uu,.uu]∧h=[dd,dd,(1,.var [I 0,St []])]) (fun y=>y.1.length) (P0,Q0) ?_ ?_
   . simp[g]
   . rintro⟨p,q⟩ vs h ⟨c,rfl,rfl⟩ Q' n i o;dsimp only at c;cases p with
     |nil=>
      cases q with
      |nil=>
       simp[ld]at c;simp;refine i _ _ _ ?_;simp;refine f _ _ ?_;simp[a0Z,←c]
      |cons b q=>
       simp[ld]at c;have e:¬((q.length:Int)+1=0):=i9;simp;refine i _ _ _ ?_;simp;refine f _ _ ?_;simp[a0Z,←c]
     |cons a p=>
      cases q with
      |nil=>
       simp[ld]at c;simp;refine i _ _ _ ?_;simp;refine f _ _ ?_;simp[a0Z,←c]
      |cons b q=>
       have f1:(1:Int)≤(p.length:Int)+1:=i9;have f2:(1:Int)≤(q.length:Int)+1:=i9;by_cases d:a=b
       . rw[ld,if_pos d]at c;subst d;simp[f1,f2];refine n (p,q) _ _ l5 ?_;simp[c]
       . rw[ld,if_neg d]at c;have j:¬(a.toNat=b.toNat):=fun e=>d (a6N.1 e);have r:¬((a.toNat:Int)=(b.toNat:Int)):=fun e=>j (Int.ofNat.inj e);simp[j,r,d];refine o _ _ ?_;refine f _ _ ?_;simp[a0Z,←c]
 . simp[Ld.aft]at g;simp[a0Z];refine f _ _ ?_;simp[a0Z,g]
def b0E:u7:=
 ⟨9,[0,1,3,4],1,[(3,none)],sq [kab 2 0 1 3,.reg [oa 0,oh 3 2,U2 143 0 1 0 0,oea 2 0,oc 3 3],ko]⟩
def a7g:u7:=
 ⟨19,[0,1,3,4,5,7,8,9,16],1,[(3,none)],sq [.reg [F5 2 0 1,ox 3 0],sq [.reg [oa 0,L9 5 0,ox 6 0],.block 0 (.loopS [0,2,5,6] 1 (sq [kh 7 6 5,B6 7 0,.block 1 (sq [kg 6 4 0,.reg [oh 3 2,oa 0,oa 4,oj 3 1 2,L6 3 3,ow 8 (.eqS false [1,2,1] (.l 0) (.l 4))],kba 8 4 3 0]),kd 6 1 6 0]))],.reg [odk 3],ko]⟩
def X88:u7:=
 ⟨49,[0,1,3,4,5,6,17],41,[(3,none)],sq [.reg [F5 2 36 1,ox 3 0],.reg [oa 0,D9 0,ou 2 1,ob 1 2,oh 2 2,oq (.lookup 18 true (.int .i64 0) (.l 3) (.l 4)),os 5,oy 6 0,oy 6 1,oc 4 7,oc 5 8],sq [kak 5 6 0,.cond (.v 6) (sq [.reg [oa 0,D9 0,ou 1 1,ob 1 2,E0 3,oc 4 4],.reg [oa 0,D9 0,ou 2 1,ob 1 2,oh 2 2,oa 4,ods 18 3 4 5],.reg [⟨.mv (.v 0),none,none,[37,38,39,40]⟩,⟨.mv (.v 0),none,none,[37,38,39,40]⟩,obr 0 37 39,odv 2 37 39,oco 1 3 37 39,ode 1 4 37 39,obw 2 2 39,⟨.mkarr 37 2 [.agg [.int .i64 0,.str ⟨#[]⟩]] [(0,.l 6)],none,none,[39]⟩,⟨.append 38 2 24 1 (.l 5) (.l 7),none,none,[39]⟩,⟨.mv (.v 0),none,none,[37,38,39]⟩,⟨.nilchk (.l 9),none,none,[37,38,39]⟩,⟨.fieldAddr 3 (.l 10),none,none,[37,38,39]⟩,⟨.loadV false 1 (.l 11),none,none,[37,38,39]⟩,⟨.mkarr 39 1 [.nils] [(0,.c .nils)],none,none,[37,38]⟩,J3 40 1 24 1 12 13,D9 0,ou 1 15,ok 1 16 8,D9 1,ou 3 18,ok 1 19 14]]) kc],kg 4 3 0,ko]⟩
def X89:u7:=
 ⟨54,[0,1,3,4,5,7,18,19,20,21,32,36],23,[(3,none)],sq [kab 2 20 1 3,.reg [J0 0 21,odo 0 21,ocv 4 1 21,P6 1 2 21,obl 0 2 21,odf 2 4 21,⟨.lookup 14 false (.agg [.int .i64 0,.int .i64 0,.str ⟨#[]⟩,.int .i64 0,.str ⟨#[]⟩]) (.l 3) (.l 5),none,none,[21]⟩,ow 4 (.alloc 21 [.int .i64 0,.int .i64 0,.str ⟨#[]⟩,.int .i64 0,.str ⟨#[]⟩]),ok 5 7 6],sq [.reg [od 1 4,od 0 4,ob 1 1,ow 6 (.sliceV 2 2 (.l 0) none (some (.l 2))),L9 7 3,ox 8 0],.block 0 (.loop (sq [kh 9 8 7,B6 9 0,.block 1 (sq [.reg [U9 2 6 8,L6 2 0,ow 5 (.alloc 22 [.int .i64 0,.str ⟨#[]⟩]),ok 2 2 1],.reg [oh 2 5,od 2 2,L6 2 1,oq (.eqS false [1,2] (.l 0) (.l 2)),os 3,ov 0 5 4,ot 1 5 4,⟨.bin .eql false (.l 6) (oi 3),none,some (.l 4,false),[]⟩,U0 10 4 7],.cond (.v 10) (U4 3) kc]),kd 8 1 8 0]))],sq [.reg [od 0 4,ob 1 0,oed 11 1 2],.cond (.v 11) (U4 3) kc],.reg [od 0 4,ob 1 0,od 2 2,L6 2 2,od 1 4,oq (.indexAddrA 2 2 (.l 4) (.l 1)),ok 2 5 3],.reg [od 0 4,ob 1 0,oae 1 1,od 0 4,ok 1 3 2],.reg [oa 0,D9 0,ou 4 1,ob 1 2,od 0 2,L6 2 4,oh 5 4,ods 14 3 5 6],kz 3,ko]⟩
def X90:u7:=
 ⟨62,[0,1,2,4,7,9,10,15,16,17,18,25,26,27,28,35],27,[],sq [.reg [F5 3 20 1],.reg [oa 0,od 0 3,ou 0 1,ob 1 2,odx 7 114 0 3,L9 8 4,ox 9 0],.block 0 (.loop (sq [kh 10 9 8,B6 10 0,.block 1 (sq [.reg [U9 3 7 9,L6 3 0,ow 4 (.alloc 21 [.int .u8 0,.str ⟨#[]⟩,.int .i64 0]),ok 3 2 1],.reg [oa 0,od 0 3,ou 1 1,ob 1 2,odx 11 114 0 3,L9 12 4,ox 13 0],.block 2 (.loop (sq [kh 14 13 12,B6 14 2,.block 3 (sq [.reg [U9 3 11 13,L6 3 0,ow 5 (.alloc 22 [.int .u8 0,.str ⟨#[]⟩,.int .i64 0]),ok 3 2 1],sq [.reg [od 0 4,ob 1 0,od 0 5,ob 1 2,obx 15 1 3],kav 15 3],.reg [obl 2 4 23,P6 1 0 23,obl 2 5 23,P6 1 2 23,⟨.build [.int .i64 0,.int .i64 0] [(0,1,.l 1),(1,1,.l 3)],none,none,[23]⟩,obl 2 3 23,odf 2 5 23,obl 1 4 23,P6 1 7 23,obl 1 5 23,P6 1 9 23,⟨.call 115 [.l 6,.l 8,.l 10] [(0,0),(0,0)] true,none,none,[23]⟩,⟨.build [.int .i64 0,.int .i64 0,.int .i64 0,.str ⟨#[]⟩] [(0,2,.l 4),(2,2,.l 11)],none,none,[23]⟩,odh 6 23 0 0 0,ok 4 13 12],.reg [⟨.mv (.v 2),none,none,[24,25,26]⟩,⟨.fieldAddr 0 (.v 4),none,none,[24,25,26]⟩,⟨.loadV false 1 (.l 1),none,none,[24,25,26]⟩,J0 2 25,obl 0 4 25,P6 1 4 25,⟨.lookupT 24 1 4 .nils (.l 3) (.l 5),none,none,[25]⟩,⟨.loadV true 4 (.v 6),none,none,[24]⟩,⟨.call 116 [.l 7] [(0,0),(0,0),(0,0),(0,0)] true,none,none,[24]⟩,⟨.mkarr 25 4 [.agg [.int .i64 0,.int .i64 0,.int .i64 0,.str ⟨#[]⟩]] [(0,.l 8)],none,none,[24]⟩,J3 26 4 40 1 6 9,ods 1 0 2 10]]),kd 13 1 13 0]))]),kd 9 1 9 0]))]⟩
def X91:u7:=
 ⟨65,[0,1,3,4,5,6],23,[(3,none)],sq [kab 2 20 1 3,.reg [obr 0 21 22,odv 0 21 22,oco 1 1 21 22,ode 1 2 21 22,ofq 0 2 21 22,oco 0 4 21 22,ode 1 5 21 22,⟨.indexAddr 2 (.l 3) (.l 6),none,none,[21,22]⟩,⟨.load true 2 (.l 7),none,none,[21,22]⟩,obr 0 21 22,odv 9 21 22,oco 1 10 21 22,ode 1 11 21 22,ofq 0 2 21 22,oco 1 13 21 22,ode 1 14 21 22,⟨.indexAddr 2 (.l 12) (.l 15),none,none,[21,22]⟩,⟨.load true 2 (.l 16),none,none,[21,22]⟩,⟨.alloc 21 [.int .i64 0,.str ⟨#[]⟩],some 4,none,[22]⟩,⟨.alloc 22 [.int .i64 0,.str ⟨#[]⟩],some 5,none,[21]⟩,oq (.storeN 2 (.l 18) (.l 8) [11,14,16]),ok 2 19 17],.reg [od 2 2,ou 0 0,ob 1 1,oga 2 0,os 3,om 1 4 4,oe 1 5 4,⟨.bin .eql false (.l 6) (.c (.str ⟨#[]⟩)),none,some (.l 4,true),[]⟩,ol 4 7,os 8,om 1 5 9,oe 1 10 9,⟨.bin .eql false (.l 11) (.c (.str ⟨#[]⟩)),none,some (.l 9,true),[]⟩,ol 9 12,os 13,og 0 14,obk 15 14,obc 0 16 14,oe 1 17 14,obk 18 14,obc 1 19 14,oe 1 20 14,om 0 4 14,oe 1 22 14,oas 1 21 23 14,oe 1 24 14,ol 14 25,os 26,og 0 27,obk 28 27,obc 0 29 27,oe 1 30 27,obk 31 27,obc 1 32 27,oe 1 33 27,om 0 5 27,oe 1 35 27,oas 1 34 36 27,oe 1 37 27,ol 27 38,oc 3 39],ko]⟩
def a1F:u7:=
 ⟨113,[0,1,4,5,6,8,9,11,12,20,38,64,65,66,67,71,72,73,74,99],36,[(2,none)],sq [kad 2,sq [.reg [oa 0,D9 0,ou 3 1,ob 1 2,oa 1,oj 1 3 4,ob 1 5,ow 9 (.eqNil true (.l 6) (.c .nils))],.cond (.v 9) (sq [.reg [oa 0,D9 0,ou 3 1,ob 1 2,oa 1,oj 1 3 4,ob 1 5,oc 2 6],ko]) kc],.reg [oq (.lit 0 [] []),oc 3 0],.reg [oa 0,D9 0,ou 1 1,ob 1 2,oa 1,oj 2 3 4,L6 2 5,ow 4 (.alloc 27 [.int .i64 0,.str ⟨#[]⟩]),ok 2 7 6],sq [.reg [od 1 4,ob 1 0,ow 10 (.bin .neq false (.l 1) (.c (.str ⟨#[]⟩)))],.cond (.v 10) (.reg [J0 3 28,od 1 4,ob 1 1,oen 2 0,oa 0,od 0 4,ob 1 5,od 1 4,ob 1 7,oep 0 8 1,oq (.build [.int .i64 0,.str ⟨#[]⟩] [(0,1,.l 6),(1,1,.l 9)]),⟨.callv (.c (.fn (.func 88) [] [])) [.l 4,.l 10],none,none,[1000001]⟩,oq (.build [.int .u8 0,.str ⟨#[]⟩,.int .i64 0] [(0,1,.l 3),(2,1,.l 11)]),oq (.mkarr 28 3 [.agg [.int .u8 0,.str ⟨#[]⟩,.int .i64 0]] [(0,.l 12)]),J3 29 3 32 1 0 13,oc 3 14]) (sq [.reg [oa 0,D9 0,ou 0 1,ob 1 2,D9 3,ou 0 4,ob 1 5,od 0 4,ob 1 7,oj 1 6 8,V8 11 1 9,L9 12 10,ox 13 0],.block 0 (.loop (sq [kh 14 13 12,B6 14 0,.block 1 (sq [.reg [U9 3 11 13,L6 3 0,ofp 5 30 0,ok 3 2 1],kad 6,sq [.reg [od 1 5,V8 15 1 0,L9 16 1,ox 17 0],.block 2 (.loop (sq [kh 18 17 16,B6 18 2,.block 3 (sq [kap 1 15 17 1 0 7 1,.reg [oa 6,oa 7,ofw 31 1 0 0 1,J3 32 1 1 1 0 2,oc 6 3]]),kd 17 1 17 0]))],.reg [J0 6 33,⟨.indexAddr 1 (.l 0) (oi 0),none,none,[33]⟩,P6 1 1 33,obl 0 5 33,P6 1 3 33,J0 0 33,obl 2 5 33,P6 1 6 33,J0 6 33,⟨.slice false 1 (.l 8) (some (oi 1)) none none,none,none,[33]⟩,⟨.convStr (.l 9),none,none,[33]⟩,⟨.build [.int .i64 0,.str ⟨#[]⟩] [(0,1,.l 7),(1,1,.l 10)],none,none,[33]⟩,⟨.callv (.c (.fn (.func 88) [] [])) [.l 5,.l 11],none,none,[33,1000001,1000003]⟩,⟨.build [.int .u8 0,.str ⟨#[]⟩,.int .i64 0] [(0,1,.l 2),(1,1,.l 4),(2,1,.l 12)],none,none,[33]⟩,ow 8 (.alloc 33 [.int .u8 0,.str ⟨#[]⟩,.int .i64 0]),ok 3 14 13],.reg [oa 3,oh 3 8,U2 136 0 1 0 0,Z3 19 2],.cond (.v 19) (.reg [oa 3,oh 3 8,oq (.mkarr 34 3 [.agg [.int .u8 0,.str ⟨#[]⟩,.int .i64 0]] [(0,.l 1)]),J3 35 3 32 1 0 2,oc 3 3]) kc]),kd 13 1 13 0]))])],.G7 [(29,true),(35,true)] (.reg [oa 0,D9 0,ou 3 1,ob 1 2,oa 1,oa 3,oj 1 3 4,ok 1 6 5]),kg 3 2 0,.G5 2 none 0 0 ko]⟩
def X52:u7:=
 ⟨8,[0,2],6,[(1,none)],sq [.reg [odl 1],.reg [oa 0,ofm 3,ofm 4,oq (.build [.lit (.pointer none),.nils,.lit (.map none),.nils,.lit (.map none)] [(0,1,.l 0),(2,1,.l 1),(4,1,.l 2)]),oq (.box 5 (.l 3)),oc 1 4],.G5 1 (some 1) 6 2 (.G5 1 (some 3) 7 1 ko)]⟩
def X53:u7:=
 ⟨113,[0,2,3,4,5,6,7,9,11,12,13,15,23,43,44,45,46,47,54,55,56,57,65,66,74,75,76,77,83,86,105],20,[(1,none),(2,none)],sq [.reg [obj 1,oo 2],sq [.reg [oa 0,D9 0,ou 0 1,ob 1 2,D9 3,ou 2 4,ob 1 5,Z3 12 6],.cond (.v 12) (sq [.reg [obj 1,oo 2],ko]) kc],.reg [oa 0,oq (.build [.int .i64 0,.str ⟨#[]⟩] []),obv 88 0 1,oa 0,oq (.build [.int .i64 0,.str ⟨#[]⟩] []),obv 88 3 4,oft 0 0 0 1 2 1 1 5,oq (.build [.int .i64 0,.int .i64 0,.int .i64 0,.str ⟨#[]⟩] [(0,2,.l 6)]),odh 3 8 0 0 0,ok 4 8 7],.reg [oa 0,oh 4 3,obv 89 0 1],.reg [oh 4 3,oq (.lit 4 [.agg [.int .i64 0,.int .i64 0,.int .i64 0,.str ⟨#[]⟩]] [(0,.l 0)]),oq (.build [.nils,.lit (.pointer none),.int .u8 0] [(0,1,.l 1)]),oq (.box 9 (.l 2)),oq (.mkarr 10 1 [.lit (.pointer none)] [(0,.l 3)]),oc 4 4],.reg [ofm 11,oc 5 0],.block 0 (.loop (sq [sq [.reg [oa 4,E0 0,odt 13 1 0],B6 13 0],.block 1 (sq [kad 6,sq [ks 14 4 15 0 16 0,.block 2 (.loop (sq [kh 17 16 15,B6 17 2,.block 3 (sq [kap 1 14 16 1 0 7 1,.G5 7 none 1 0 (sq [.reg [oa 5,oq (.clearM (.l 0))],sq [.reg [oa 7,D9 0,ou 0 1,V8 18 1 2,L9 19 3,ox 20 0],.block 4 (.loop (sq [kh 21 20 19,B6 21 4,.block 5 (sq [.reg [U9 4 18 20,L6 4 0,odh 8 12 0 0 0,ok 4 2 1],.reg [oa 0,oh 4 8,oa 5,oq (.callv (.c (.fn (.func 90) [] [])) [.l 0,.l 1,.l 2])]]),kd 20 1 20 0]))],.G7 [(11,false)] (.reg [ow 22 (.mv (.c (.int .u8 0)))]),.block 6 (.loop (sq [.reg [ow 23 (.bin .lss false (.v 22) (.c (.int .u8 63)))],B6 23 6,.block 7 (sq [kg 22 9 0,.reg [oa 7,oa 9,oq (.build [.nils,.lit (.pointer none),.int .u8 0] [(1,1,.l 0),(2,1,.l 1)]),oq (.box 13 (.l 2)),oc 10 3],sq [.reg [oa 5,oa 9,ow 24 (.lookup 1 false .nils (.l 0) (.l 1)),L9 25 2,ox 26 0],.block 8 (.loop (sq [kh 27 26 25,B6 27 8,.block 9 (sq [.reg [U9 4 24 26,L6 4 0,odh 11 14 0 0 0,ok 4 2 1],sq [.reg [oa 0,oh 4 11,obv 89 0 1,Z3 28 2],kav 28 9],sq [.reg [oa 0,oh 4 11,odx 29 91 0 1],.cond (.v 29) (sq [.reg [oa 10,T9 92 0 15 1,oc 1 1,oba 2],ko]) kc],.reg [obr 10 16 17,J0 10 16,odo 1 16,ocv 0 2 16,P6 1 3 16,oh 4 11,oq (.mkarr 16 4 [.agg [.int .i64 0,.int .i64 0,.int .i64 0,.str ⟨#[]⟩]] [(0,.l 5)]),J3 17 4 40 1 4 6,D9 0,ou 0 8,ok 1 9 7]]),kd 26 1 26 0]))],.reg [oa 10,D9 0,ou 0 1,ob 1 2,E0 3,odt 30 4 0],.cond (.v 30) (.G7 [(17,true),(13,true)] (.G5 10 none 1 0 (.reg [oa 6,oa 10,oq (.mkarr 18 1 [.lit (.pointer none)] [(0,.l 1)]),J3 19 1 8 1 0 2,oc 6 3]))) kc]),.reg [oq (.bin .add false (.v 22) (.c (.int .u8 1))),oc 22 0]]))])]),kd 16 1 16 0]))],.G7 [(19,true)] (.G5 6 none 0 0 (.G5 6 none 1 0 (kg 6 4 0)))])])),.reg [obj 1,oo 2],ko]⟩
def X92:u7:=
 ⟨23,[0,2,3,8],2,[(1,none)],sq [kad 1,kad 2,.G5 2 none 1 1 (sq [.block 0 (.loop (sq [sq [.reg [oa 0,D9 0,ou 1 1,ob 1 2,ow 3 (.eqPtr true (.l 3) (.c (.lit (.pointer none))))],B6 3 0],.block 1 (.reg [oa 2,oa 0,D9 1,ou 2 2,ob 1 3,ofw 0 1 0 0 4,J3 1 1 1 1 0 5,oc 2 6]),.reg [oa 0,D9 0,ou 1 1,ob 1 2,oc 0 3]])),.reg [oa 2,oce 117 0],kg 2 1 0,ko])]⟩
def a7a:u7:=
 ⟨28,[0,2,3,9],2,[],sq [.reg [oa 0,E0 0,obh 1 1,ox 1 0,oc 2 2],.block 0 (.loop (sq [sq [.reg [oa 1,oa 2,oaz 3 0 1],B6 3 0],.block 1 (.reg [oa 0,oa 1,oa 0,oa 2,oa 0,oa 2,oj 1 4 5,ob 1 6,oa 0,oa 1,oj 1 8 9,ob 1 10,oj 1 0 1,ok 1 12 7,oj 1 2 3,ok 1 14 11]),.reg [oa 1,oae 0 1,oa 2,obh 2 1,oc 1 1,oc 2 3]]))]⟩
def X54:u7:=
 ⟨109,[0,1,4,5,6,7,8,9,10,12,14,15,16,30,38,39,40,54,62,63,64,65,74,86,87,88,89],5,[(2,none)],sq [kad 2,.reg [ow 3 (.allocA 0 [.slc [],.slc [],.slc [],.slc [],.slc []])],sq [kk 11 0,.block 0 (.loop (sq [.reg [ow 12 (.bin .lss false (.v 11) (oi 5))],B6 12 0,.block 1 (sq [kg 11 4 0,.reg [oa 4,oa 0,D9 1,ou 0 2,ob 1 3,E0 4,oq (.makeSlice 1 1 24 .nils (.l 5) (.l 5)),ofg 5 1 3 0,ok 1 7 6]]),kd 11 1 11 0]))],sq [.reg [oa 1,E0 0,oc 5 1],.block 2 (.loop (sq [sq [.reg [oa 5,odu 13 0 0],B6 13 2],.block 3 (sq [.reg [oa 5,ofy 0 5,ofg 5 1 3 1,ob 1 2,oc 6 3],.reg [oa 6,L9 14 0,ox 15 0],.block 4 (.loop (sq [kh 16 15 14,B6 16 4,.block 5 (sq [kg 15 7 0,kad 8,.G5 8 none 1 0 (sq [sq [.reg [oa 5,oa 1,E0 1,ocj 0 2,os 3,og 0 4,obk 5 4,obc 1 6 4,oe 1 7 4,og 7 4,oas 1 8 9 4,oe 1 10 4,P3 17 4 11],.cond (.v 17) (.reg [oq (.mkarr 2 1 [.str ⟨#[]⟩] [(0,.c (.str ⟨#[]⟩))]),oc 8 0]) kc],sq [.G7 [(2,true)] (.G5 8 none 0 0 (.reg [oa 0,D9 0,ou 0 1,ob 1 2,oa 7,oj 1 3 4,V8 18 1 5,L9 19 6,ox 20 0])),.block 6 (.loop (sq [kh 21 20 19,B6 21 6,.block 7 (sq [.reg [U9 3 18 20,L6 3 0,ofp 9 3 0,ok 3 2 1],sq [.reg [oa 1,oa 5,oek 1 0 1,od 1 9,ob 1 3,U2 93 2 4 0 0,Z3 22 5],kav 22 7],.reg [oa 5,od 1 9,ob 1 1,E0 2,X2 0 3,ofy 4 5,ofg 5 1 3 5,ob 1 6,od 2 9,ob 1 8,oj 1 7 9,V8 23 1 10,L9 24 11,ox 25 0],.block 8 (.loop (sq [kh 26 25 24,B6 26 8,.block 9 (sq [kap 1 23 25 1 0 10 1,.reg [oa 8,od 0 9,ob 1 1,oa 10,X2 2 3,U2 94 0 4 4 1,oc 8 5]]),kd 25 1 25 0]))]),kd 20 1 20 0]))],.reg [oa 6,oa 7,oa 8,oj 1 0 1,ok 1 3 2]])]),kd 15 1 15 0]))]),.reg [oa 5,obh 0 1,oc 5 1]]))],.reg [oq (.indexAddrA 5 1 (.v 3) (oi 0)),ob 1 0,ock 1 1 0,ob 1 2,oc 2 3],ko]⟩
def X17:u7:=
 ⟨38,[0,1,2,3,4,5,6,7,10,21,28],3,[(2,some (true,3)),(3,none)],sq [.reg [F5 1 0 0,ow 2 (.alloc 1 [.nils,.str ⟨#[]⟩,.str ⟨#[]⟩]),ox 3 0],sq [.reg [oh 3 1,T9 36 0 0 0,Z3 8 1],.cond (.v 8) (kbd 3 2 0 3 20) kc],.reg [oh 3 1,T9 51 0 0 0,oc 4 1],.reg [oa 4,oce 52 0,oce 53 1,os 2,oy 3 0,oy 3 1,oc 5 4,oc 6 5],sq [kak 6 9 0,.cond (.v 9) (kbd 3 2 0 3 0) kc],.G7 [(15,true)] (.G5 5 none 0 0 (.reg [oa 4,oa 5,U2 54 0 1 2 1,oc 7 2])),sq [.reg [oa 7,E0 0,ofh 10 1 2],.cond (.v 10) (kbd 3 2 0 3 0) kc],.reg [oa 5,oa 7,ock 1 1 0,ob 1 2,oa 7,ock 1 4 1,ob 1 5,oq (.build [.nils,.str ⟨#[]⟩,.str ⟨#[]⟩] [(0,1,.l 0),(1,1,.l 3),(2,1,.l 6)]),M1 3 2 7,ox 3 50],ko]⟩
def X18:u7:=
 ⟨32,[0,1,2,3,4,5,15],2,[(4,none)],sq [.reg [F5 2 0 0,F5 3 1 1,oo 4],sq [.reg [oh 3 2,T9 36 0 0 0,ofl 1,os 2,ov 1 3 3,ot 1 4 3,ov 2 3 3,ot 1 6 3,odb 5 7 3,U0 6 3 8],.cond (.v 6) (U4 4) kc],.reg [oh 3 2,T9 51 0 0 0,oc 5 1],.reg [oa 5,od 0 3,ob 1 1,od 1 3,ob 1 3,oq (.call 55 [.l 0,.l 2,.l 4] [(0,0)] false),os 5,og 5 6,om 0 3 6,oe 1 8 6,om 2 3 6,oe 1 10 6,⟨.call 55 [.l 7,.l 9,.l 11] [(0,0)] false,none,some (.l 6,true),[]⟩,ol 6 12,oc 4 13],ko]⟩
def X9:u7:=
 ⟨12,[0,1,2,4],3,[(2,none)],sq [kab 1 0 0 2,.reg [oh 3 1,oq (.call 17 [.l 0] [(1,1),(0,0),(0,0),(0,0)] false),os 1,oy 2 0,oy 2 1,oq (.alloc 2 [.nils,.str ⟨#[]⟩,.str ⟨#[]⟩]),ok 3 5 3,oc 3 4],.reg [oa 3,occ 0 0,oc 2 1],ko]⟩
theorem c136:C4 136 b0E:=C6
theorem c143:C4 143 a7g:=C6
theorem c88:O1 Tryz.prog 88 36=some {X88 with body:=strip X88.body}:=by kernel_rfl
theorem c89:O1 Tryz.prog 89 20=some {X89 with body:=strip X89.body}:=by kernel_rfl
theorem c90:O1 Tryz.prog 90 20=some {X90 with body:=strip X90.body}:=by kernel_rfl
theorem c91:O1 Tryz.prog 91 20=some {X91 with body:=strip X91.body}:=by kernel_rfl
theorem b4o:O1 Tryz.prog 114 27=some {a1F with body:=strip a1F.body}:=by kernel_rfl
theorem c52:O1 Tryz.prog 52 3=some {X52 with body:=strip X52.body}:=by kernel_rfl
theorem c53:O1 Tryz.prog 53 8=some {X53 with body:=strip X53.body}:=by kernel_rfl
theorem c92:C4 92 X92:=C6
theorem c117:O1 Tryz.prog 117 2=some {a7a with body:=strip a7a.body}:=by kernel_rfl
theorem c54:C4 54 X54:=C6
theorem c17:C4 17 X17:=C6
theorem c18:C4 18 X18:=C6
theorem c9:C4 9 X9:=C6
theorem c2P(n:Nd)(hs:n.l.s≤3):F0 116 [0,0,0,0] [NQ n] (NQ n.ord):=by
 refine E4 c116 2 (by simp[a4q]) fun Q c g=>?_;obtain⟨a,b,s,x⟩:=n;dsimp only at hs;by_cases h1:a<b
 . have d:¬((a:Int)=(b:Int)):=i9;simp[a4q,h1];refine c _ _ ?_;simp[a4q,Nd.ord,h1]
 . by_cases d:a=b
   . subst d;by_cases e:s=2
     . subst e;simp[a4q];refine c _ _ ?_;simp[a4q,Nd.ord,Ld.sw]
     . simp[a4q,e];refine c _ _ ?_;simp[a4q,Nd.ord,e]
   . have f:¬((a:Int)=(b:Int)):=i9;have hs:s=0∨s=1∨s=2∨s=3:=i9;rcases hs with rfl|rfl|rfl|rfl<;>simp[a4q,h1,d,f]<;>refine c _ _ ?_<;>simp[a4q,Nd.ord,Ld.sw,h1,d]
theorem c3Q(l p:List Nat)(o:p.length≤1000000):F0 93 [0] [CL l,CL p] (B (decide (p<+:l))):=by
 refine E4 c93 0 (by simp[X93]) fun Q a q=>?_;by_cases f:l.length<p.length
 . have b:¬p<+:l:=fun h=>(by have:=h.length_le;omega);simp[X93,f];refine a _ _ ?_;simp[X93,b]
 . simp[X93,f];refine I6 (fun(k:Nat) vs h=>k≤p.length∧p.take k=l.take k∧vs=[CL l,.uu,.uu,.uu,.uu,.uu,CL p,IN p.length,IN k,.uu,.uu]∧h=[]) (fun k=>p.length-k) 0 ?_ ?_
   . simp
   . rintro k vs h ⟨s,c,rfl,rfl⟩ Q' g i j;by_cases d:k<p.length
     . have e:k<l.length:=i9;have m:=wk1 k i9;by_cases he:l[k]=p[k]
       . simp[d,e,he,m];refine g (k+1) _ _ i9 ?_;simp;refine⟨i9,?_⟩;rw[L3,L3,c,m7 d,m7 e,he]
       . have b:¬p<+:l:=fun⟨r,hr⟩=>he (by grind);have n:¬((l[k]:Int)=(p[k]:Int)):=i9;simp[d,e,he,n];refine j _ _ ?_;refine a _ _ ?_;simp[X93,b]
     . obtain rfl:k=p.length:=i9
       have hp:p<+:l:=⟨l.drop p.length,by rw[M4]at c;conv=>lhs;arg 1;rw[c]
                                          exact a9y _ _⟩
       simp;refine i _ _ _ ?_;simp;refine a _ _ ?_;simp[X93,hp]
abbrev bL(a b:By):Bool:=Op.bytesLess a b
def a1Z(two:List By)(x:By):List By:=match two with
 | []=>[x]
 | [a]=>if bL x a then [x,a]else if x=a then [a]else [a,x]
 |a::b::r=>if bL x a then [x,a]else if x=a then a::b::r else if bL x b then [a,x]else a::b::r
theorem c4L(two:List By)(x:By):F0 94 [1] [.slc (two.map St),St x] (.slc ((a1Z two x).map St)):=by
 refine E4 c94 3 (by simp[X94]) fun Q d f=>?_
 match two with
 | []=>
  simp[X94];refine d _ _ ?_;simp[X94,a1Z]
 | [a]=>
  by_cases h1:bL x a=true
  . simp[X94,h1];refine d _ _ ?_;simp[X94,a1Z,h1]
  . by_cases c:x=a
    . subst c;simp[X94,h1];refine d _ _ ?_;simp[X94,a1Z,h1]
    . simp[X94,h1,c];refine d _ _ ?_;simp[X94,a1Z,h1,c]
 |a::b::r=>
  have g0:¬((r.length:Int)+1+1=0):=i9;have g1:¬((r.length:Int)+1+1=1):=i9;by_cases h1:bL x a=true
  . simp[X94,h1,g0,g1];refine d _ _ ?_;simp[X94,a1Z,h1]
  . by_cases c:x=a
    . subst c;simp[X94,h1,g0,g1];refine d _ _ ?_;simp[X94,a1Z,h1]
    . by_cases e:bL x b=true
      . simp[X94,h1,c,e,g0,g1];refine d _ _ ?_;simp[X94,a1Z,h1,c,e]
      . simp[X94,h1,c,e,g0,g1];refine d _ _ ?_;simp[X94,a1Z,h1,c,e]
abbrev U3(s:J6):PV:=.agg [.int .u8 s.c.toNat,St s.p,IN s.to]
theorem c3L(L:List J6)(s:J6)(o:L.length≤1000000):∃r,(∃m:Int,r=I m∧(0≤m↔s∈L))∧F0 143 [0] [.slc (L.map U3),U3 s] r:=by
 refine a1C mixed (X:=a7g) c143 2 (by simp[a7g]) (by kernel_rfl) fun Q d p=>?_;simp[a7g];refine I6 (fun(k:Nat) vs h=>k≤L.length∧s∉L.take k∧vs=[.slc (L.map U3),.uu,.ptr 1 1 0,.uu,.uu,IN L.length,IN k,.uu,.uu]∧h=[dd,(1,.var [.int .u8 s.c.toNat,St s.p,IN s.to])]) (fun k=>L.length-k) 0 ?_ ?_
 . simp
 . rintro k vs h ⟨q,b,rfl,rfl⟩ Q' g i j;by_cases a:k<L.length
   . have l:=wk1 k i9;obtain⟨x,c⟩:=p7 (L[k]);by_cases he:s=x
     . have hm:s∈L:=(by rw[he,c];exact B7 a);simp[a,←c,←he];refine j _ _ ?_;refine d _ _ _ ⟨(k:Int),rfl,⟨fun _=>hm,fun _=>i9⟩⟩ ?_;simp[a7g]
     . have n:(decide (s.c.toNat=x.c.toNat)&&(s.p==x.p&&decide (s.to=x.to)))=false:=by
        rw[Bool.eq_false_iff];intro h;simp only[G4,beq_iff_eq,decide_eq_true_eq]at h;apply he;obtain⟨h1,e,f⟩:=h;cases s;cases x;simp only at h1 e f⊢;rw[J6.mk.injEq];exact⟨a6N.1 h1,e,f⟩
       simp[a,←c,n,l];refine g (k+1) _ _ i9 ?_;simp;refine⟨i9,fun h=>?_⟩;rw[L3,m7 a]at h;rcases I4.1 h with h|h
       . exact b h
       . grind
   . obtain rfl:k=L.length:=i9;rw[M4]at b;simp;refine i _ _ _ ?_;simp;refine d _ _ _ ⟨-1,rfl,⟨fun h=>i9,fun h=>absurd h b⟩⟩ ?_;simp[a7g]
theorem c5E(L:List J6)(s:J6)(a:L.length≤1000000):F0 136 [0] [.slc (L.map U3),U3 s] (B (decide (s∈L))):=by obtain⟨r,⟨m,rfl,hm⟩,b⟩:=c3L L s a;refine E4 c136 2 (by simp[b0E]) fun Q c d=>?_;simp[b0E];refine m6 b ?_;simp;refine c _ _ ?_;simp[b0E,hm]
section
variable{h h0:l7}{s:J2}{hide:List Nat}{t:j9}{F:FT}{v7:Nat}{ws:List (Nat×Row)}{args vs:List PV}{var:Option Nat}{xs:List l6}{K:B5→Prop}
structure RX where
 (c0 c1 c2 c8 c9 c10 K4 c12 K5 c14 c15 c16 c17 c18 T4 O7 P1 c22 c23 c24 c25 c26 c27 c28 c29 c30 c31 c32 c33 c34 c35 c36 c37 c38 c39 c40:Row)
def RX.l(x:RX):List Row:=[x.c0,x.c1,x.c2,x.c8,x.c9,x.c10,x.K4,x.c12,x.K5,x.c14,x.c15,x.c16,x.c17,x.c18,x.T4,x.O7,x.P1,x.c22,x.c23,x.c24,x.c25,x.c26,x.c27,x.c28,x.c29,x.c30,x.c31,x.c32,x.c33,x.c34,x.c35,x.c36,x.c37,x.c38,x.c39,x.c40]
abbrev HfQ(h:Hf):PV:=.agg [IN h.x,St h.r]
abbrev PrQ(k:Nat×Nat):PV:=.agg [IN k.1,IN k.2]
def zLd:Ld:=⟨0,[]⟩
abbrev SeQ(e:(Nat×Nat)×List Ld):PV:=.agg [IN e.2.length,IN (e.2.getD 0 zLd).s,St (e.2.getD 0 zLd).x,IN (e.2.getD 1 zLd).s,St (e.2.getD 1 zLd).x]
def SLQ:List J6→PV
 | []=>.ne
 |a::l=>.slc ((a::l).map U3)
@[simp] theorem c2N:SLQ []=.ne:=rfl
@[simp] theorem d0P(a:J6)(l:List J6):SLQ (a::l)=.slc (U3 a::l.map U3):=rfl
def OSQ:Option (List J6)→PV
 |none=>.nils
 |some L=>SLQ L
@[simp] theorem d2g:OSQ none=.nils:=rfl
@[simp] theorem d0C(L:List J6):OSQ (some L)=SLQ L:=rfl
theorem c5r(a b:Hf):a1g (HfQ a) (HfQ b)=some (decide (a=b)):=by
 cases a;cases b;have hb:∀r q:By,((ByteArray.mk ⟨r⟩==ByteArray.mk ⟨q⟩))=decide (r=q):=fun r q=>by rw[show(ByteArray.mk ⟨r⟩==ByteArray.mk ⟨q⟩)=((⟨r⟩:Array UInt8)==⟨q⟩)from rfl,Bool.eq_iff_iff];simp
 simp[a1g,X1,a0X,Bool.and_assoc,hb]
@[simp] theorem d2G(a:Nat)(r:By)(L:List Hf):a0t (.agg [.int .i64 a,.str ⟨⟨r⟩⟩]) (L.map HfQ) 0=some (L.idxOf? ⟨a,r⟩):=by have:=a7C c5r ⟨a,r⟩ L 0;simpa using this
theorem c8v(a b:Nat×Nat):a1g (PrQ a) (PrQ b)=some (decide (a=b)):=by cases a;cases b;simp[a1g,X1,a0X]
@[simp] theorem c8a(a b:Nat)(L:List (Nat×Nat)):a0t (.agg [.int .i64 a,.int .i64 b]) (L.map PrQ) 0=some (@List.idxOf? (Nat×Nat) instBEqOfDecidableEq (a,b) L):=by have:=a7C c8v (a,b) L 0;simpa using this
theorem c7L(a b:UInt8):a1g (UB a) (UB b)=some (decide (a=b)):=by simp[a1g,a0X,a6N]
open Classical in
noncomputable abbrev AGR(t:j9):PV:=.fptr [.slc ((gL (E6 t) t).map (SG t)),.slc ((N6 t).map B),B (decide (Live t start))]
noncomputable abbrev SVQ(t:j9)(n:Nat):List PV:=[AGR t,.own 6 1 n 2 0 n,.mapv 3 1,.own 7 1 n 1 0 n,.mapv 4 1]
def FKQ(F:FT):List PV:=(F.map (·.1)).map PrQ
def a3N(F:FT):Row:=(1,.mp false (FKQ F) (F.map SeQ))
noncomputable abbrev SH(t:j9)(s:J2)(F:FT)(v7:Nat)(x:RX):l7:=
 [x.c0,x.c1,x.c2,(1,.mp false (s.1.map HfQ) ((List.range s.1.length).map IN)),a3N F,(1,.var (SVQ t s.1.length)),(1,.arr 2 0 false (s.1.map HfQ)),(1,.arr 1 v7 false (s.2.map OSQ)),
  x.c8,x.c9,x.c10,x.K4,x.c12,x.K5,x.c14,x.c15,x.c16,x.c17,x.c18,x.T4,x.O7,x.P1,x.c22,x.c23,x.c24,x.c25,x.c26,x.c27,x.c28,x.c29,x.c30,x.c31,x.c32,x.c33,x.c34,x.c35,x.c36,x.c37,x.c38,x.c39,x.c40]
theorem M9{α:Type}{h:List α}{n:Nat}(a:h.length=n+1):∃r t,h=r::t∧t.length=n:=by
 cases h with
 |nil=>cases a
 |cons r t=>exact⟨r,t,rfl,by simpa using a⟩
theorem b7t(a:h.length=41)(b:h[3]?=some (1,.mp false (s.1.map HfQ) ((List.range s.1.length).map IN)))(c:h[4]?=some (a3N F))(d:h[5]?=some (1,.var (SVQ t s.1.length)))(e:h[6]?=some (1,.arr 2 0 false (s.1.map HfQ)))(f:h[7]?=some (1,.arr 1 v7 false (s.2.map OSQ))):∃x,h=SH t s F v7 x:=by obtain⟨r0,g1,rfl,g⟩:=M9 a;obtain⟨r1,g2,rfl,i⟩:=M9 g;obtain⟨r2,g3,rfl,j⟩:=M9 i;obtain⟨r3,g4,rfl,k⟩:=M9 j;obtain⟨r4,g5,rfl,l⟩:=M9 k;obtain⟨r5,g6,rfl,m⟩:=M9 l;obtain⟨r6,g7,rfl,n⟩:=M9 m;obtain⟨aH,g8,rfl,o⟩:=M9 n;obtain⟨p,g9,rfl,q⟩:=M9 o;obtain⟨r,g10,rfl,u⟩:=M9 q;obtain⟨r10,g11,rfl,v⟩:=M9 u;obtain⟨w,g12,rfl,y⟩:=M9 v;obtain⟨z,g13,rfl,A⟩:=M9 y;obtain⟨r13,g14,rfl,B⟩:=M9 A;obtain⟨C,g15,rfl,D⟩:=M9 B;obtain⟨E,g16,rfl,G⟩:=M9 D;obtain⟨H,g17,rfl,I⟩:=M9 G;obtain⟨J,g18,rfl,K⟩:=M9 I;obtain⟨L,g19,rfl,M⟩:=M9 K;obtain⟨N,g20,rfl,O⟩:=M9 M;obtain⟨P,g21,rfl,Q⟩:=M9 O;obtain⟨R,g22,rfl,S⟩:=M9 Q;obtain⟨T,g23,rfl,U⟩:=M9 S;obtain⟨V,g24,rfl,W⟩:=M9 U;obtain⟨X,aI,rfl,Y⟩:=M9 W;obtain⟨Z,aJ,rfl,aa⟩:=M9 Y;obtain⟨ab,aK,rfl,ac⟩:=M9 aa;obtain⟨ad,aL,rfl,ae⟩:=M9 ac;obtain⟨af,aM,rfl,ag⟩:=M9 ae;obtain⟨ah,aN,rfl,ai⟩:=M9 ag;obtain⟨aj,aO,rfl,ak⟩:=M9 ai;obtain⟨al,aP,rfl,am⟩:=M9 ak;obtain⟨an,aQ,rfl,ao⟩:=M9 am;obtain⟨ap,aR,rfl,aq⟩:=M9 ao;obtain⟨ar,aS,rfl,au⟩:=M9 aq;obtain⟨av,aT,rfl,aw⟩:=M9 au;obtain⟨ax,aU,rfl,ay⟩:=M9 aw;obtain⟨az,aV,rfl,aA⟩:=M9 ay;obtain⟨aB,aW,rfl,aC⟩:=M9 aA;obtain⟨aD,aX,rfl,aE⟩:=M9 aC;obtain⟨aF,aY,rfl,aG⟩:=M9 aE;obtain rfl:=a0V.1 aG;obtain rfl:=a0c b;obtain rfl:=a0c c;obtain rfl:=a0c d;obtain rfl:=a0c e;obtain rfl:=a0c f;exact⟨⟨r0,r1,r2,p,r,r10,w,z,r13,C,E,H,J,L,N,P,R,T,V,X,Z,ab,ad,af,ah,aj,al,an,ap,ar,av,ax,az,aB,aD,aF⟩,rfl⟩
theorem b4d{m:Nat}{L:List Row}(a:h.length=41)(b:h[3]?=some (1,.mp false (s.1.map HfQ) ((List.range s.1.length).map IN)))(c:h[4]?=some (a3N F))(d:h[5]?=some (1,.var (SVQ t s.1.length)))(e:h[6]?=some (1,.arr 2 0 false (s.1.map HfQ)))(f:h[7]?=some (1,.arr 1 v7 false (s.2.map OSQ)))
 (g:(h.take 3++h.drop 8).take m=L):∃x,h=SH t s F v7 x∧x.l.take m=L:=by
 obtain⟨x,rfl⟩:=b7t a b c d e f;exact⟨x,rfl,g⟩
def a0s(l:List Row):List Row:=l.take 15++l.drop 18
theorem a6q{L:List Row}(a:h.length=41)(b:h[3]?=some (1,.mp false (s.1.map HfQ) ((List.range s.1.length).map IN)))(c:h[4]?=some (a3N F))(d:h[5]?=some (1,.var (SVQ t s.1.length)))(e:h[6]?=some (1,.arr 2 0 false (s.1.map HfQ)))(f:h[7]?=some (1,.arr 1 v7 false (s.2.map OSQ)))
 (g:a0s (h.take 3++h.drop 8)=L):∃x,h=SH t s F v7 x∧a0s x.l=L:=by
 obtain⟨x,rfl⟩:=b7t a b c d e f;exact⟨x,rfl,g⟩
theorem b7d{α:Type} [DecidableEq α]{L:List α}{x:α}{n:Nat}(h:L.idxOf? x=some n):n<L.length:=by rw[List.idxOf?,a1Y]at h;exact h.1
theorem c5l{h':l7}(n:Nat)(a:agr hide h h')(c:∀k,k<h.length→k≠n→hide.contains k=false):h'=h.set n (h'.getD n dd):=by
 apply a3u;intro k;by_cases b:k<h.length
 . by_cases e:k=n
   . subst e;rw[F8 b,u9,m7 (by rw[a.1];exact b)];rfl
   . rw[F7 (Ne.symm e),a.2 k (c k b e)]
 . rw[a0d (by rw[a.1];omega),a0d (by grind)]
theorem c5t{ks:List Nat}(h:∀y∈ws,y.1∈ks){b:A0→PV}(h1:∀n∈hide,n∉ks)(a:∀n∈hide,n<1000000∨∃k,k∉ks∧((∃g o,b (avO (n-1000000))=.ptr k g o)∨∃g c s i j,b (avO (n-1000000))=.eptr k g c s i j)):a2f hide b ws=true:=by
 unfold a2f;rw[G4,B0,B0];refine⟨fun y d=>?_,fun n e=>?_⟩
 . grind
 . rcases a n e with a|⟨k,f,a⟩
   . simp[a1K,a]
   . have l:k∉ws.map (·.1):=fun hm=>by
      obtain⟨y,d,rfl⟩:=E5.1 hm;exact f (h y d)
     rcases a with⟨g,o,a⟩|⟨g,c,s,i,j,a⟩<;>rw[a]<;>
      simp only[a2a,a1j,a6M,List.contains_eq_mem,decide_eq_false_iff_not]<;>exact .inr l
def a9W(h:l7):List (Nat×Row):=(List.range h.length).map fun k=>(k,h.getD k dd)
theorem b7U(h0 h:l7)(a:h.length=h0.length):∀n,n≤h.length→p8 h0 ((List.range n).map fun k=>(k,h.getD k dd))=h.take n++h0.drop n
 |0,_=>by simp[p8]
 |n+1,d=>by
  have b:=b7U h0 h a n i9;rw[a2q,Q9,a3J,b];show(h.take n++h0.drop n).set n (h.getD n dd)=_;have c:h.getD n dd=h[n]:=by grind
  rw[c,List.set_append_right _ _ (by grind),a1W,Nat.min_eq_left i9,a6L];rw[L3,m7 i9,a3t];congr 1;rw[b4R i9];rfl
theorem b0p(a:h.length=h0.length):p8 h0 (a9W h)=h:=by unfold a9W;rw[b7U h0 h a _ (m9 _),M4,b4M i9,a1u]
def U5(rs:List (Nat×Option (Bool×Nat)))(r:PV)(vs:List PV)(h:l7):Prop:=∃l,a2P (l8 h []) vs rs=some l∧(l.length==1||l.all a3i)=true∧a0i l=r
theorem a7F{P:Program}{φ:PV→l7→Prop}(hm:P.follows .mixedOrders=true){f:FuncId}{off s0:Nat}{X:u7}(d:O1 P f off=some {X with sites:=s0,body:=strip X.body})(e:a2g X.body=true){first cap:List PV}(hlen:(first++args++cap).length≤X.ntmps)(g:(first.all one&&cap.all one)=true)(i:noX X.body=true)
 (h:∀Q:J1,(∀r vs h,φ r h→h.length=h0.length→U5 X.results r vs h→Q .ret vs h)→(∀r vs h,φ r h→h.length=h0.length→U5 X.results r vs h→Q .normal vs h)→Xw (fns P) X.body Q (X.vars.map fun s=>(first++args++cap).getD s .uu) h0):∃r ws,φ r (p8 h0 ws)∧FI P (.fn (.func f) first cap) args h0 r ws:=by
 refine a4x hm d e hlen g i fun Q h1 j=>h Q (fun r vs h a b c=>?_) fun r vs h a b c=>?_
 . obtain⟨l,c1,c2,c3⟩:=c;exact h1 r (a9W h) vs h (by rw[b0p b];exact a) ⟨l,c1,c2,c3,(b0p b).symm⟩
 . obtain⟨l,c1,c2,c3⟩:=c;exact j r (a9W h) vs h (by rw[b0p b];exact a) ⟨l,c1,c2,c3,(b0p b).symm⟩
theorem a2Q{f:PV}{l:List PV}{r:PV}{h1 a:l7}(b:FI Tryz.prog f args h1 r ws)(hu:p8 h1 ws=a)(he:h=h1)
 (c:Xr (fns Tryz.prog) xs ⟨l++[r],K0 vs var r,a⟩ K):Xv (fns Tryz.prog) f args var xs ⟨l,vs,h⟩ K:=by
 subst he;subst hu;exact a2H b c
theorem c6b{f:PV}{l:List PV}{r:PV}{h1 a:l7}(b:∀h',agr hide h1 h'→FI Tryz.prog f args h' r ws)(hu:p8 h1 ws=a)(he:h=h1)
 (c:a2f hide (y9 l vs) ws=true) (d:Xr (fns Tryz.prog) xs ⟨l++[r],K0 vs var r,a⟩ K):Xvh (fns Tryz.prog) hide f args var xs ⟨l,vs,h⟩ K:=by
 subst he;subst hu;exact c0v b ⟨c,d⟩
theorem b4e(t:j9)(s:J2)(F:FT)(v7:Nat)(x:RX)(h:Hf)(hs:s.1.length≤1000000)(k:s.2.length=s.1.length):
 ∃ws b,(∀y:RX,y.c36=x.c36→y.c37=x.c37→y.c39=x.c39→FI Tryz.prog (.fn (.func 88) [] []) [.ptr 5 1 0,HfQ h] (SH t s F v7 y) (IN (S9 s h).1) ws)∧p8 (SH t s F v7 x) ws=SH t (S9 s h).2 F v7 b∧
  (∀y∈ws,y.1∈[3,5,6,7,36,37,39])∧{b with c36:=x.c36,c37:=x.c37,c39:=x.c39}=x:=by
 obtain⟨a,r⟩:=h;unfold S9;cases c:s.1.idxOf? ⟨a,r⟩with
 |some n=>
  have l:=b7d c;refine⟨[(36,(x.c36.1+1,.var [IN a,St r]))],{x with c36:=(x.c36.1+1,.var [IN a,St r])},fun y d g i=>?_,rfl,l5,rfl⟩;rw[←d];refine a3n mixed (X:=X88) c88 (by rfl) (by simp[X88]) l5 fun Q e m=>?_;simp[X88,SH,c,l];refine e _ _ ?_;simp[M6,X88]
 |none=>
  obtain⟨H2,f⟩:=p7 (s.1++[⟨a,r⟩]);obtain⟨S2,j⟩:=p7 (s.2++[none]);rw[←f,←j];have o:s.1.map HfQ++[.agg [IN a,St r]]=H2.map HfQ:=by grind
  have p:(List.range s.1.length).map IN++[IN s.1.length]=(List.range H2.length).map IN:=by rw[f,a0D,b1M,a2q,Q9];rfl
  have q:s.2.map OSQ++[.nils]=S2.map OSQ:=by rw[j,Q9];rfl
  have u:s.1.length+1=H2.length:=by rw[f];simp
  have v:S2.length=H2.length:=by grind
  have w:H2.length*24≤140737488355328:=i9;have key:∃ws b,(∀y:RX,y.c36=x.c36→y.c37=x.c37→y.c39=x.c39→FI Tryz.prog (.fn (.func 88) [] []) [.ptr 5 1 0,HfQ ⟨a,r⟩] (SH t s F v7 y) (IN s.1.length) ws)∧p8 (SH t s F v7 x) ws=SH t (H2,S2) F v7 b∧
   (∀y∈ws,y.1∈[3,5,6,7,36,37,39])∧{b with c36:=x.c36,c37:=x.c37,c39:=x.c39}=x:=by
   refine⟨[(3,(1,.mp false (H2.map HfQ) ((List.range H2.length).map IN))),(5,(1,.var (SVQ t H2.length))),(6,(1,.arr 2 0 false (H2.map HfQ))),(7,(1,.arr 1 v7 false (S2.map OSQ))),(36,(x.c36.1+1,.var [IN a,St r])),(37,(x.c37.1+1,.dead)),(39,(x.c39.1+1,.dead))],{x with c36:=(x.c36.1+1,.var [IN a,St r]),c37:=(x.c37.1+1,.dead),c39:=(x.c39.1+1,.dead)},fun y d g i=>?_,rfl,l5,rfl⟩;rw[←d,←g,←i];refine a3n mixed (X:=X88) c88 (by rfl) (by simp[X88]) l5 fun Q e m=>?_;simp[X88,SH,c,o,p,q,u,v,w,k];refine e _ _ ?_;simp[M6,X88]
  exact key
theorem b4D{h:Hf}(a:s.2.length=s.1.length):(S9 s h).2.2.length=(S9 s h).2.1.length:=by
 unfold S9;split
 . exact a
 . simp[a]
theorem get_at(t:j9)(s:J2)(F:FT)(v7:Nat)(x:RX)(h:Hf)(hs:s.1.length≤1000000)(b:s.2.length=s.1.length){l:List PV}{r:By}(he:h0=SH t s F v7 x)(hr:r=h.r)
 (c:∀k,k<41→k≠33→hide.contains k=false) (h1:∀n∈hide,n∉ [3,5,6,7,36,37,39]) (d:∀n∈hide,n<1000000∨∃k,k∉ [3,5,6,7,36,37,39]∧((∃g o,y9 l vs (avO (n-1000000))=.ptr k g o)∨∃g f s i j,y9 l vs (avO (n-1000000))=.eptr k g f s i j))
 (m:∀a:RX,{a with c36:=x.c36,c37:=x.c37,c39:=x.c39}=x→Xr (fns Tryz.prog) xs ⟨l++[IN (S9 s h).1],K0 vs var (IN (S9 s h).1),SH t (S9 s h).2 F v7 a⟩ K):
 Xvh (fns Tryz.prog) hide (.fn (.func 88) [] []) [.ptr 5 1 0,.agg [.int .i64 h.x,.str ⟨⟨r⟩⟩]] var xs ⟨l,vs,h0⟩ K:=by
 subst hr;obtain⟨w0,x0,p,q,u,v⟩:=b4e t s F v7 x h hs b;refine c6b (h1:=SH t s F v7 x) (r:=IN (S9 s h).1) (fun h' w=>?_) q he (c5t u h1 d) (m x0 v);have e:=c5l 33 w c;rw[e];exact p {x with c33:=h'.getD 33 dd} rfl rfl rfl
end
def OV(k sz:Nat)(z tv:PV)(R:Row)(es:List PV):Prop:=(tv=z∧es=[])∨∃g,tv=.own k g es.length sz 0 es.length∧R=(g,.arr sz 0 false es)∧es≠ []
theorem c0x:∀l:List Nat,a1y (l.map UN)=some (cb l)
 | []=>rfl
 |c::l=>by have a:=c0x l;rw[a0N];simp only[a1y,a7A,a,if_true];rfl
theorem b0P{L:List J6}(h:L≠ []):SLQ L=.slc (L.map U3):=by
 cases L with
 |nil=>exact absurd rfl h
 |cons a l=>rfl
theorem c1k(L:List J6):∀x,x∈L.map U3→D5 x=true:=fun x a=>by obtain⟨i,_,rfl⟩:=E5.1 a;rfl
@[simp ↓] theorem d1n(L:List J6):(∀x,x∈L.map U3→D5 x=true)=True:=eq_true (c1k L)
@[simp ↓] theorem d1V(L:List J6):(L.map U3).all D5=true:=B0.2 (c1k L)
@[simp] theorem d1t(L:List J6):List.map (B4∘U3) L=L.map U3:=K3 fun _ _=>rfl
theorem c6X(s:J2)(h:Hf):s.2<+:(S9 s h).2.2∧(S9 s h).2.1.length≤s.1.length+1:=by
 unfold S9
 grind
theorem c0E(t:j9)(s:J2)(d:s.2.length=s.1.length):∀(A:List (Nat×Nat)) (st:J2×List J6),s.2<+:st.1.2→st.1.2.length=st.1.1.length→
 s.2<+:(A.foldl (W5 t) st).1.2∧(A.foldl (W5 t) st).1.2.length=(A.foldl (W5 t) st).1.1.length∧(A.foldl (W5 t) st).1.1.length≤st.1.1.length+A.length∧(A.foldl (W5 t) st).2.length≤st.2.length+A.length
 | [],st,h1,b=>⟨h1,b,m9 _,m9 _⟩
 |a::A,st,h1,b=>by
  have c:=c6X st.1 ⟨a.2,(cb (cls t a.1)).tail⟩;obtain⟨e,f,g,h⟩:=c0E t s d A (W5 t st a) (h1.trans c.1) (b4D b);refine⟨e,f,V1 g ?_,V1 h ?_⟩
  . rw[a0a];have:=c.2;show(S9 st.1 ⟨a.2,(cb (cls t a.1)).tail⟩).2.1.length+_≤_;omega
  . rw[a0a];unfold W5
    grind
structure RF where
 (k:Nat)
 (x:RX)
 (tv w5 w6 w7 w8 w14 w15 w16 w17 w18 w19:PV)
structure RG where
 (j:Nat)
 (tv:PV)
 (c31 c32:Row)
 (w7 w18:PV)
theorem b8K(t:j9)(D:s8 t)(s:J2)(F:FT)(v7:Nat)(x:RX)(n:Nat)(h:Hf)(hs:s.1.length≤900000)(o:s.2.length=s.1.length)(p:s.1[n]?=some h)(W:h.x<(j4 t).length):
 ∃ws b d,FI Tryz.prog (.fn (.func 114) [] []) [.ptr 5 1 0,IN n] (SH t s F v7 x) (SLQ (M3 t s n).2) ws∧p8 (SH t s F v7 x) ws=SH t (M3 t s n).1 F d b∧b.l.take 22=x.l.take 22:=by
 obtain⟨P,an⟩:=B8.1 p;have ao:n<s.2.length:=i9;cases ap:s.2.getD n none with
 |some L=>
  have e:M3 t s n=(s,L):=by unfold M3;rw[ap]
  have w:s.2[n]=some L:=by grind
  rw[e];refine⟨[],x,v7,?_,rfl,rfl⟩;refine a3n mixed (X:=a1F) b4o (by rfl) (by simp[a1F]) l5 fun Q l H=>?_;cases L with
  |nil=>
   simp[a1F,SH,P,o,w];refine l _ _ ?_;simp[M6,a1F]
  |cons a L=>
   have h0:¬((L.length:Int)+1=0):=i9;simp[a1F,SH,P,o,w];refine l _ _ ?_;simp[M6,a1F]
 |none=>
  have e:M3 t s n=a8g t s n:=by unfold M3;rw[ap]
  have w:s.2[n]=none:=by grind
  rw[e];unfold a8g;rw[getD_some p];cases hr:h.r with
  |cons c r=>
   have Y:a1G t s h=((S9 s ⟨h.x,r⟩).2,[⟨c,[],(S9 s ⟨h.x,r⟩).1⟩]):=(by unfold a1G;rw[hr]);rw[Y];obtain⟨g,R⟩:=p7 (S9 s ⟨h.x,r⟩);rw[←R];have S:n<g.2.1.length∧n<g.2.2.length∧g.2.2[n]?=some none:=by
    rw[R];unfold S9;split
    . grind
    . grind
   have aH:g.2.2[n]'(S.2.1)=none:=(by grind);have key:∃r ws,(r=SLQ [⟨c,[],g.1⟩]∧∃d b,p8 (SH t s F v7 x) ws=SH t (g.2.1,g.2.2.set n (some [⟨c,[],g.1⟩])) F d b∧b.l.take 22=x.l.take 22)∧FI Tryz.prog (.fn (.func 114) [] []) [.ptr 5 1 0,IN n] (SH t s F v7 x) r ws:=by
    refine a7F (φ:=fun r h=>r=SLQ [⟨c,[],g.1⟩]∧∃d b,h=SH t (g.2.1,g.2.2.set n (some [⟨c,[],g.1⟩])) F d b∧b.l.take 22=x.l.take 22) mixed (X:=a1F) b4o (by rfl) (by simp[a1F]) l5 (by kernel_rfl) fun Q l H=>?_;have Z:s.1[n]=h:=an;have f1:(1:Int)≤(r.length:Int)+1:=i9;have f2:¬((r.length:Int)+1=0):=i9;simp[a1F,SH,w,P,o,Z,hr,f1,f2];refine get_at t s F v7 {x with c27:=(x.c27.1+1,.var [IN h.x,St (c::r)])} ⟨h.x,r⟩ i9 o rfl rfl (by grind) l5 (fun n p=>?_) fun b aa=>?_
    . simp only[H5]at p;subst p;exact .inr ⟨27,l5,.inl ⟨_,1,rfl⟩⟩
    have aI:b.l.take 22=x.l.take 22:=by have:=congrArg (fun z:RX=>z.l.take 22) aa;exact this
    rw[←R];obtain⟨S2,I⟩:=p7 (g.2.2.set n (some [⟨c,[],g.1⟩]));rw[←I]at l H;have v:(g.2.2.map OSQ).set n (.slc [.agg [.int .u8 c.toNat,St [],IN g.1]])=S2.map OSQ:=(by rw[I,H9];rfl);have aJ:g.2.2.length=g.2.1.length:=(by rw[R];exact b4D o);simp[SH,S.1,aH,aJ,v];refine l _ _ _ ⟨rfl,v7+1,b4d rfl rfl rfl rfl rfl rfl aI⟩ rfl ?_;simp[U5,a1F]
   obtain⟨r1,ws,⟨rfl,d,b,hu,ab⟩,ac⟩:=key;exact⟨ws,b,d,ac,hu,ab⟩
  |nil=>
   obtain⟨A,ad⟩:=p7 (G9 t h.x);have Y:a1G t s h=A.foldl (W5 t) (s,[]):=(by unfold a1G;rw[hr,ad]);rw[Y];have S:(gL (E6 t) t).length=(j4 t).length:=(by simp[gL]);have aK:(gL (E6 t) t)[h.x]'i9=A:=(by grind);obtain⟨E,aq⟩:=p7 (A.foldl (W5 t) (s,[]));rw[←aq];have key:∃r ws,(r=SLQ E.2∧∃d b,p8 (SH t s F v7 x) ws=SH t (E.1.1,E.1.2.set n (some E.2)) F d b∧b.l.take 22=x.l.take 22)∧FI Tryz.prog (.fn (.func 114) [] []) [.ptr 5 1 0,IN n] (SH t s F v7 x) r ws:=by
    refine a7F (φ:=fun r h=>r=SLQ E.2∧∃d b,h=SH t (E.1.1,E.1.2.set n (some E.2)) F d b∧b.l.take 22=x.l.take 22) mixed (X:=a1F) b4o (by rfl) (by simp[a1F]) l5 (by kernel_rfl) fun Q l H=>?_;have Z:s.1[n]=h:=an;simp[a1F,SH,w,P,o,Z,hr,S,W,aK];refine E3 (fun(y:RF) vs h=>y.k≤A.length∧y.x.l.take 22=x.l.take 22∧OV 35 3 .ne y.tv y.x.c35 (((A.take y.k).foldl (W5 t) (s,[])).2.map U3)∧
     vs=[.ptr 5 1 0,IN n,.nils,y.tv,.ptr 27 (x.c27.1+1) 0,y.w5,y.w6,y.w7,y.w8,.bool false,.bool false,.slc (A.map (AG t)),IN A.length,IN y.k,y.w14,y.w15,y.w16,y.w17,y.w18,y.w19]∧h=SH t ((A.take y.k).foldl (W5 t) (s,[])).1 F v7 y.x) (fun y=>A.length-y.k)
     ⟨0,{x with c27:=(x.c27.1+1,.var [IN h.x,St []])},.ne,.uu,.uu,.uu,.uu,.uu,.uu,.uu,.uu,.uu,.uu⟩ ⟨D6 _,rfl,.inl ⟨rfl,rfl⟩,rfl,rfl⟩ ?_
    rintro⟨k,q,tv,w5,w6,w7,w8,w14,w15,w16,w17,w18,w19⟩ vs h1 ⟨aL,T,f,rfl,rfl⟩ Q2 ae aM aX;dsimp only at aL f T;obtain⟨st,J⟩:=p7 ((A.take k).foldl (W5 t) (s,[]));rw[←J]at f⊢;obtain⟨af,K,ar,ag⟩:=c0E t s o (A.take k) (s,[]) (a5g _) o;rw[←J]at af K ar ag;have aY:(A.take k).length≤64:=by rw[a1W];have:=a6A D h.x;rw[←ad]at this;omega
    have aZ:A.length≤64:=(by rw[ad];exact a6A D h.x);dsimp only at ar ag;simp only[a7J]at ag;by_cases au:k<A.length
    . have ah:=wk1 k i9;obtain⟨a,av⟩:=p7 (A[k]);have aw:a∈G9 t h.x:=(by grind);obtain⟨_,_,a0,a1⟩:=a4t D W aw;obtain⟨C,U⟩:=p7 (cls t a.1);have ax:C.length=A7 t a.1:=(by rw[U];rfl);have u:(A.take (k+1)).foldl (W5 t) (s,[])=W5 t st a:=(by rw[a5x _ _ au,←J,av]);simp[au,←av,←U];refine E3 (fun(z:RG) vs h=>z.j≤C.length∧OV 32 1 .nils z.tv z.c32 ((C.take z.j).map UN)∧
       vs=[.ptr 5 1 0,IN n,.nils,tv,.ptr 27 (x.c27.1+1) 0,.ptr 30 (q.c30.1+1) 0,z.tv,z.w7,w8,.bool false,.bool false,.slc (A.map (AG t)),IN A.length,IN k,.bool true,CL C,IN C.length,IN z.j,z.w18,w19]∧
       h=SH t st.1 F v7 {q with c30:=(q.c30.1+1,.var [St (prt t a.1),CL C,IN a.2]),c31:=z.c31,c32:=z.c32}) (fun z=>C.length-z.j) ⟨0,.nils,q.c31,q.c32,_,_⟩ ⟨D6 _,.inl ⟨rfl,rfl⟩,rfl,rfl⟩ ?_
      rintro⟨j,aN,c31,c32,w7,w18⟩ vs h1 ⟨aO,z2,rfl,rfl⟩ Q3 ay aP a2;dsimp only at aO z2;by_cases hj:j<C.length
      . have az:=wk1 j i9;obtain⟨C1,aA⟩:=p7 (C.take j);obtain⟨C2,ai⟩:=p7 (C.take (j+1));rw[←aA]at z2;have aj:C1.map UN++[UN C[j]]=C2.map UN:=(by rw[ai,L3,m7 hj,←aA,Q9];rfl);have M:C1.length+1=C2.length:=(by grind);have aB:C2.map UN≠ []:=fun e=>(by have:=congrArg List.length e;simp at this;rw[this]at M;simp at M);rcases z2 with⟨rfl,z2⟩|⟨g,rfl,rfl,z2⟩
        . have z3:C1=[]:=(by simpa using z2);have aQ:[UN C[j]]=C2.map UN:=(by grind);have aR:C2.length=1:=(by grind);have m:OV 32 1 .nils (.own 32 (c32.1+1) 1 1 0 1) (c32.1+1,.arr 1 0 false [UN C[j]]) ((C.take (j+1)).map UN):=by
           rw[←ai];exact .inr ⟨c32.1+1,by rw[N5,aR],by rw[aQ],aB⟩
          simp[hj,az];exact ay ⟨j+1,.own 32 (c32.1+1) 1 1 0 1,_,(c32.1+1,.arr 1 0 false [UN C[j]]),_,_⟩ _ _ (by grind) ⟨s5,m,rfl,rfl⟩
        . have m:OV 32 1 .nils (.own 32 g C2.length 1 0 C2.length) (g,.arr 1 0 false (C2.map UN)) ((C.take (j+1)).map UN):=by
           rw[←ai];exact .inr ⟨g,by rw[N5],rfl,aB⟩
          have hb:C2.length≤140737488355328:=(by grind);simp[hj,az,aj,M,hb];exact ay ⟨j+1,.own 32 g C2.length 1 0 C2.length,_,(g,.arr 1 0 false (C2.map UN)),_,_⟩ _ _ (by grind) ⟨s5,m,rfl,rfl⟩
      . obtain rfl:j=C.length:=i9;rw[M4]at z2;obtain⟨c0,Cr,aC⟩:∃c0 Cr,C=c0::Cr:=by
         cases aS:C with
         |nil=>rw[aS]at ax;simp at ax;omega
         |cons c0 Cr=>exact⟨c0,Cr,rfl⟩
        obtain⟨g,rfl,rfl⟩:∃g,aN=.own 32 g C.length 1 0 C.length∧c32=(g,.arr 1 0 false (C.map UN)):=by
         rcases z2 with⟨_,z2⟩|⟨g,z2,z3,_⟩
         . rw[aC]at z2;simp at z2
         . grind
        subst aC;have aT:c0<256:=by
         obtain⟨aD,_,_,_⟩:=a4t D W aw;have hm:c0∈t.rules[a.1].cells:=by have:cls t a.1=t.rules[a.1].cells:=(by unfold cls;rw[u9,m7 aD];rfl);rw[←this,←U];exact a3v
         have:=b4H D (B7 aD) hm;omega
        obtain⟨c,rfl⟩:∃c:UInt8,c0=c.toNat:=⟨UInt8.ofNat c0,(ofNat_toNat aT).symm⟩
        have f5:(1:Int)≤(Cr.length:Int)+1:=i9;have f6:1+Cr.length≤Cr.length+1:=i9;have aU:cb (cls t a.1)=c::cb Cr:=(by rw[←U];simp[cb]);obtain⟨G,ak⟩:=p7 (S9 st.1 ⟨a.2,cb Cr⟩);obtain⟨e,he⟩:∃e:J6,e=⟨c,prt t a.1,G.1⟩:=⟨_,rfl⟩
        have a3:G.2.2.length=G.2.1.length:=(by rw[ak];exact b4D K);have aV:W5 t st a=(G.2,if e∈st.2 then st.2 else st.2++[e]):=(by unfold W5 arE;rw[aU,he,ak];rfl);rw[aV]at u;have N:=c5E st.2 e i9;rw[he]at N;simp;refine aP _ _ _ ?_;simp[SH,c0x,f5,f6];refine get_at t st.1 F v7 {q with c30:=(q.c30.1+1,.var [St (prt t a.1),CL (c.toNat::Cr),IN a.2]),c31:=c31,c32:=(g,.arr 1 0 false ((c.toNat::Cr).map UN))} ⟨a.2,cb Cr⟩ i9 K rfl rfl (by grind) l5 (fun n p=>?_) fun b aa=>?_
        . simp only[a0p,List.not_mem_nil,or_false]at p;rcases p with rfl|rfl|rfl
          . exact .inl i9
          . exact .inr ⟨32,l5,.inr ⟨_,_,_,_,_,rfl⟩⟩
          . exact .inr ⟨30,l5,.inl ⟨_,_,rfl⟩⟩
        have al:b.l.take 22=x.l.take 22:=by have:=congrArg (fun z:RX=>z.l.take 22) aa;exact Eq.trans this T
        have aE:b.c35=q.c35:=(by grind);rw[←ak];rcases f with⟨rfl,f⟩|⟨i,rfl,V,f⟩
        . have B:st.2=[]:=(by simpa using f);rw[B]at N u;have m:OV 35 3 .ne (.own 35 (b.c35.1+1) 1 3 0 1) (b.c35.1+1,.arr 3 0 false [U3 e]) (((A.take (k+1)).foldl (W5 t) (s,[])).2.map U3):=by
           rw[u];exact .inr ⟨b.c35.1+1,rfl,rfl,l5⟩
          rw[he]at m;simp[SH];refine m6 N ?_;simp[ah];refine ae ⟨k+1,{b with c33:=(b.c33.1+1,.var [.int .u8 c.toNat,St (prt t a.1),IN G.1]),c34:=(b.c34.1+1,.dead),c35:=(b.c35.1+1,.arr 3 0 false [U3 ⟨c,prt t a.1,G.1⟩])},.own 35 (b.c35.1+1) 1 3 0 1,_,_,_,_,_,_,_,_,_,_⟩ _ _ (by grind) ⟨s5,al,m,rfl,?_⟩;dsimp only;rw[u]
        . rw[N5]at*;by_cases hm:e∈st.2
          . have m:OV 35 3 .ne (.own 35 i st.2.length 3 0 st.2.length) (i,.arr 3 0 false (st.2.map U3)) (((A.take (k+1)).foldl (W5 t) (s,[])).2.map U3):=by
             rw[u,if_pos hm];exact .inr ⟨i,by rw[N5],rfl,f⟩
            have O:=hm;rw[he]at O;simp[SH,aE,V];refine m6 N ?_;simp[ah,O];refine ae ⟨k+1,{b with c33:=(b.c33.1+1,.var [.int .u8 c.toNat,St (prt t a.1),IN G.1]),c35:=(i,.arr 3 0 false (st.2.map U3))},.own 35 i st.2.length 3 0 st.2.length,_,_,_,_,_,_,_,_,_,_⟩ _ _ (by grind) ⟨s5,al,m,rfl,?_⟩;dsimp only;rw[u]
          . obtain⟨L2,am⟩:=p7 (st.2++[e]);have m:OV 35 3 .ne (.own 35 i L2.length 3 0 L2.length) (i,.arr 3 0 false (L2.map U3)) (((A.take (k+1)).foldl (W5 t) (s,[])).2.map U3):=by
             rw[u,if_neg hm,←am];exact .inr ⟨i,by rw[N5],rfl,by rw[am];simp⟩
            have O:=hm;rw[he]at O;have aj:st.2.map U3++[.agg [.int .u8 c.toNat,St (prt t a.1),IN G.1]]=L2.map U3:=(by grind);have M:st.2.length+1=L2.length:=(by rw[am];simp);have hb:L2.length*32≤140737488355328:=i9;simp[SH,aE,V];refine m6 N ?_;simp[ah,O,aj,M,hb];refine ae ⟨k+1,{b with c33:=(b.c33.1+1,.var [.int .u8 c.toNat,St (prt t a.1),IN G.1]),c34:=(b.c34.1+1,.dead),c35:=(i,.arr 3 0 false (L2.map U3))},.own 35 i L2.length 3 0 L2.length,_,_,_,_,_,_,_,_,_,_⟩ _ _ (by grind) ⟨s5,al,m,rfl,?_⟩;dsimp only;rw[u]
    . obtain rfl:k=A.length:=i9;rw[M4,←aq]at J;subst J;obtain⟨S2,I⟩:=p7 (st.1.2.set n (some st.2));rw[←I]at l H;have aW:n<st.1.2.length:=a9B ao af.length_le;have aF:n<st.1.1.length:=i9;have aG:st.1.2[n]=none:=by
       have:=a0m af (by rw[m7 ao]:s.2[n]?=some s.2[n]);rw[m7 aW,w]at this;exact a0c this
      have v:(st.1.2.map OSQ).set n (SLQ st.2)=S2.map OSQ:=(by rw[I,H9];rfl);simp;refine aM _ _ _ ?_;rcases f with⟨rfl,f⟩|⟨i,rfl,V,f⟩
      . have B:st.2=[]:=(by simpa using f);rw[B]at v l H;simp only[c2N]at v;simp[SH,aF,K,aG,v];refine l _ _ _ ⟨rfl,v7+1,b4d rfl rfl rfl rfl rfl rfl T⟩ rfl ?_;simp[U5,a1F]
      . have B:st.2≠ []:=fun e=>f (by rw[e];rfl);rw[b0P B]at v;simp[SH,V,aF,K,aG,v];refine l _ _ _ ⟨(b0P B).symm,v7+1,b4d rfl rfl rfl rfl rfl rfl T⟩ rfl ?_;simp[U5,a1F]
   obtain⟨r1,ws,⟨rfl,d,b,hu,ab⟩,ac⟩:=key;exact⟨ws,b,d,ac,hu,ab⟩
@[simp] theorem d0T(a b:Nat)(F:FT):a0t (.agg [.int .i64 a,.int .i64 b]) (FKQ F) 0=some (@List.idxOf? (Nat×Nat) instBEqOfDecidableEq (a,b) (F.map (·.1))):=c8a a b _
theorem a9Z{a α:Type} [DecidableEq a]{F:List (a×List α)}{k:a}{l:α}(h:(F.map (·.1)).idxOf? k=none):Y9 F k l=F++[(k,[l])]∧D3 F k=[]:=by unfold Y9 D3;rw[h];exact⟨rfl,rfl⟩
theorem a7X{a α:Type} [DecidableEq a]{F:List (a×List α)}{k:a}{l:α}{i:Nat}(h:(F.map (·.1)).idxOf? k=some i):∃hi:i<F.length,F[i]=(k,D3 F k)∧Y9 F k l=F.set i (k,D3 F k++[l]):=by
 have h1:=b7d h;rw[N5]at h1;have b:F[i].1=k:=by
  rw[List.idxOf?,a1Y]at h
  grind
 have c:D3 F k=F[i].2:=by unfold D3;rw[h];simp only;rw[m7 h1]
 refine⟨h1,by rw[c,←b],?_⟩;unfold Y9;rw[h]
theorem c2E{F:FT}{i:Nat}{k:Nat×Nat}{ls:List Ld}(hi:i<F.length)(h:F[i].1=k):FKQ (F.set i (k,ls))=FKQ F:=by
 unfold FKQ;rw[H9];congr 1;show(F.map (·.1)).set i k=_;apply W3 l5
 grind
@[simp] theorem d1B{k g o s l:Nat}:isStr (.vsl k g o s l)=false:=rfl
theorem a4o{t:j9}{s:J2}{F:FT}{v7:Nat}{h:l7}{L:List Row}(a:h.length=41)(b:h[3]?=some (1,.mp false (s.1.map HfQ) ((List.range s.1.length).map IN)))(c:h[4]?=some (1,.mp false (FKQ F) (F.map SeQ)))(d:h[5]?=some (1,.var (SVQ t s.1.length)))(e:h[6]?=some (1,.arr 2 0 false (s.1.map HfQ)))(f:h[7]?=some (1,.arr 1 v7 false (s.2.map OSQ)))(g:a0s (h.take 3++h.drop 8)=L):∃x,h=SH t s F v7 x∧a0s x.l=L:=a6q a b c d e f g
theorem ww1:IntKind.i64.wrap 1=1:=I9
theorem ww2:IntKind.i64.wrap 2=2:=I9
theorem b3I(t:j9)(s:J2)(F:FT)(v7:Nat)(x:RX)(n:Nd)(N:∀e∈F,e.2.length≤2):
 ∃ws j,FI Tryz.prog (.fn (.func 89) [] []) [.ptr 5 1 0,NQ n] (SH t s F v7 x) (B (Y5 F n).1) ws∧p8 (SH t s F v7 x) ws=SH t s (Y5 F n).2 v7 j∧a0s j.l=a0s x.l:=by
 obtain⟨a,b,l⟩:=n;obtain⟨ls,A⟩:=p7 (D3 F (a,b));have O:ls.length≤2:=by
  rcases a8D (k:=(a,b)) (F:=F)with e|e
  . rw[A,e];simp
  . rw[A];exact N _ e
 have key:∃r ws,(r=B (Y5 F ⟨a,b,l⟩).1∧∃j,p8 (SH t s F v7 x) ws=SH t s (Y5 F ⟨a,b,l⟩).2 v7 j∧a0s j.l=a0s x.l)∧FI Tryz.prog (.fn (.func 89) [] []) [.ptr 5 1 0,NQ ⟨a,b,l⟩] (SH t s F v7 x) r ws:=by
  refine a7F (φ:=fun r h=>r=B (Y5 F ⟨a,b,l⟩).1∧∃j,h=SH t s (Y5 F ⟨a,b,l⟩).2 v7 j∧a0s j.l=a0s x.l) mixed (X:=X89) c89 (by rfl) (by simp[X89]) l5 (by kernel_rfl) fun Q d D=>?_;unfold Y5 at d D;dsimp only[Nd.k]at d D;rw[←A]at d D;cases m:@List.idxOf? (Nat×Nat) instBEqOfDecidableEq (a,b) (F.map (·.1))with
  |none=>
   obtain⟨P,R⟩:=a9Z (l:=l) m;rw[R]at A;subst A;rw[P]at d D;have hb:S0 [] l=false:=rfl;obtain⟨F2,p⟩:=p7 (F++[((a,b),[l])]);rw[←p]at d;have I:FKQ F++[.agg [IN a,IN b]]=FKQ F2:=(by rw[p];unfold FKQ;rw[Q9,Q9];rfl);have E:F.map SeQ++[.agg [.int .i64 1,IN l.s,St l.x,IN 0,St []]]=F2.map SeQ:=(by rw[p,Q9];rfl);simp[X89,SH,a3N,m,zLd];refine E3 (fun(y:Nat×Row×PV×PV×PV) vs h=>y.1≤0∧(([]:List Ld).take y.1).any (fun k=>k==l||k.s==3)=false∧vs=[.ptr 5 1 0,NQ ⟨a,b,l⟩,.ptr 20 (x.O7.1+1) 0,.bool false,.ptr 21 (x.P1.1+1) 0,y.2.2.1,.vsl 21 (x.P1.1+1) 1 2 0,IN 0,IN y.1,y.2.2.2.1,y.2.2.2.2,.uu]∧h=SH t s F v7 {x with O7:=(x.O7.1+1,.var [IN a,IN b,IN l.s,St l.x]),P1:=(x.P1.1+1,.var [IN 0,IN (zLd).s,St (zLd).x,IN (zLd).s,St (zLd).x]),c22:=y.2.1}) (fun y=>0-y.1) (0,x.c22,_,_,_) ⟨D6 _,rfl,rfl,rfl⟩ ?_;rintro⟨k,c22,w5,w9,w10⟩ vs h1 ⟨w,q,rfl,rfl⟩ Q2 C z o;dsimp only at w q;obtain rfl:k=0:=i9;have f:S0 [] l=false:=(by unfold S0;simp);rw[f]at d;simp only[a3W,if_false]at d;simp[SH];refine z _ _ _ ?_;simp[m,I,E,a3N,zLd,ww1,ww2];refine d _ _ _ ⟨rfl,a4o rfl rfl rfl rfl rfl rfl rfl⟩ rfl ?_;simp[U5,X89]
  |some i=>
   obtain⟨hi,G,K⟩:=a7X (l:=l) m;rw[←A]at G K;rw[K]at d D;obtain⟨F2,p⟩:=p7 (F.set i ((a,b),ls++[l]));rw[←p]at d;have I:FKQ F2=FKQ F:=by rw[p];exact c2E hi (by rw[G])
   match ls,O with
   | [],_=>
    have E:(F.map SeQ).set i (.agg [.int .i64 1,IN l.s,St l.x,IN 0,St []])=F2.map SeQ:=(by rw[p,H9];rfl);simp[X89,SH,a3N,m,hi,G,zLd];refine E3 (fun(y:Nat×Row×PV×PV×PV) vs h=>y.1≤0∧(([]:List Ld).take y.1).any (fun k=>k==l||k.s==3)=false∧vs=[.ptr 5 1 0,NQ ⟨a,b,l⟩,.ptr 20 (x.O7.1+1) 0,.bool false,.ptr 21 (x.P1.1+1) 0,y.2.2.1,.vsl 21 (x.P1.1+1) 1 2 0,IN 0,IN y.1,y.2.2.2.1,y.2.2.2.2,.uu]∧h=SH t s F v7 {x with O7:=(x.O7.1+1,.var [IN a,IN b,IN l.s,St l.x]),P1:=(x.P1.1+1,.var [IN 0,IN (zLd).s,St (zLd).x,IN (zLd).s,St (zLd).x]),c22:=y.2.1}) (fun y=>0-y.1) (0,x.c22,_,_,_) ⟨D6 _,rfl,rfl,rfl⟩ ?_;rintro⟨k,c22,w5,w9,w10⟩ vs h1 ⟨w,q,rfl,rfl⟩ Q2 C z o;dsimp only at w q;obtain rfl:k=0:=i9;have f:S0 [] l=false:=(by unfold S0;simp);rw[f]at d;simp only[a3W,if_false]at d;simp[SH];refine z _ _ _ ?_;simp[m,hi,E,a3N,zLd,ww1,ww2];refine d _ _ _ ⟨rfl,a4o rfl rfl (by rw[I];rfl) rfl rfl rfl rfl⟩ rfl ?_;simp[U5,X89]
   | [c],_=>
    have E:(F.map SeQ).set i (.agg [.int .i64 2,IN c.s,St c.x,IN l.s,St l.x])=F2.map SeQ:=(by rw[p,H9];rfl);simp[X89,SH,a3N,m,hi,G,zLd];refine E3 (fun(y:Nat×Row×PV×PV×PV) vs h=>y.1≤1∧(([c]:List Ld).take y.1).any (fun k=>k==l||k.s==3)=false∧vs=[.ptr 5 1 0,NQ ⟨a,b,l⟩,.ptr 20 (x.O7.1+1) 0,.bool false,.ptr 21 (x.P1.1+1) 0,y.2.2.1,.vsl 21 (x.P1.1+1) 1 2 1,IN 1,IN y.1,y.2.2.2.1,y.2.2.2.2,.uu]∧h=SH t s F v7 {x with O7:=(x.O7.1+1,.var [IN a,IN b,IN l.s,St l.x]),P1:=(x.P1.1+1,.var [IN 1,IN (c).s,St (c).x,IN (zLd).s,St (zLd).x]),c22:=y.2.1}) (fun y=>1-y.1) (0,x.c22,_,_,_) ⟨D6 _,rfl,rfl,rfl⟩ ?_;rintro⟨k,c22,w5,w9,w10⟩ vs h1 ⟨w,q,rfl,rfl⟩ Q2 C z o;dsimp only at w q;by_cases J:k=0
    . subst J;by_cases he:(c).s=l.s∧(c).x=l.x
      . have f:S0 [c] l=true:=by
         have:c=l:=(by cases h0:c;rw[h0]at he;cases l;simp only at he;rw[he.1,he.2]);unfold S0;simp[this]
        rw[f]at d;simp only[if_true]at d;simp[SH,he.1,he.2];refine o _ _ ?_;refine d _ _ _ ⟨rfl,a4o rfl rfl rfl rfl rfl rfl rfl⟩ rfl ?_;simp[U5,X89]
      . have u:(decide ((c).s=l.s)&&(c).x==l.x)=false:=by
         rw[Bool.eq_false_iff];intro h;simp only[G4,decide_eq_true_eq,beq_iff_eq]at h;exact he h
        have L:(c==l)=false:=(by grind);by_cases g:(c).s=3
        . have f:S0 [c] l=true:=(by unfold S0;simp[g]);rw[f]at d;simp only[if_true]at d;have v:=u;rw[g]at v;simp[SH,v,g];refine o _ _ ?_;refine d _ _ _ ⟨rfl,a4o rfl rfl rfl rfl rfl rfl rfl⟩ rfl ?_;simp[U5,X89]
        . have M:((c).s==3)=false:=(by simp[g]);have H:(([c]:List Ld).take 1).any (fun k=>k==l||k.s==3)=false:=(by grind);simp[SH,u,g];exact C (1,_,_,_,_) _ _ i9 ⟨s5,H,rfl,rfl⟩
    obtain rfl:k=1:=i9;have f:S0 [c] l=false:=(by unfold S0;simpa using q);rw[f]at d;simp only[a3W,if_false]at d;simp[SH];refine z _ _ _ ?_;simp[m,hi,E,a3N,zLd,ww1,ww2];refine d _ _ _ ⟨rfl,a4o rfl rfl (by rw[I];rfl) rfl rfl rfl rfl⟩ rfl ?_;simp[U5,X89]
   | [c,l1],_=>
    simp[X89,SH,a3N,m,hi,G,zLd];refine E3 (fun(y:Nat×Row×PV×PV×PV) vs h=>y.1≤2∧(([c,l1]:List Ld).take y.1).any (fun k=>k==l||k.s==3)=false∧vs=[.ptr 5 1 0,NQ ⟨a,b,l⟩,.ptr 20 (x.O7.1+1) 0,.bool false,.ptr 21 (x.P1.1+1) 0,y.2.2.1,.vsl 21 (x.P1.1+1) 1 2 2,IN 2,IN y.1,y.2.2.2.1,y.2.2.2.2,.uu]∧h=SH t s F v7 {x with O7:=(x.O7.1+1,.var [IN a,IN b,IN l.s,St l.x]),P1:=(x.P1.1+1,.var [IN 2,IN (c).s,St (c).x,IN (l1).s,St (l1).x]),c22:=y.2.1}) (fun y=>2-y.1) (0,x.c22,_,_,_) ⟨D6 _,rfl,rfl,rfl⟩ ?_;rintro⟨k,c22,w5,w9,w10⟩ vs h1 ⟨w,q,rfl,rfl⟩ Q2 C z o;dsimp only at w q;by_cases J:k=0
    . subst J;by_cases he:(c).s=l.s∧(c).x=l.x
      . have f:S0 [c,l1] l=true:=by
         have:c=l:=(by cases h0:c;rw[h0]at he;cases l;simp only at he;rw[he.1,he.2]);unfold S0;simp[this]
        rw[f]at d;simp only[if_true]at d;simp[SH,he.1,he.2];refine o _ _ ?_;refine d _ _ _ ⟨rfl,a4o rfl rfl rfl rfl rfl rfl rfl⟩ rfl ?_;simp[U5,X89]
      . have u:(decide ((c).s=l.s)&&(c).x==l.x)=false:=by
         rw[Bool.eq_false_iff];intro h;simp only[G4,decide_eq_true_eq,beq_iff_eq]at h;exact he h
        have L:(c==l)=false:=(by grind);by_cases g:(c).s=3
        . have f:S0 [c,l1] l=true:=(by unfold S0;simp[g]);rw[f]at d;simp only[if_true]at d;have v:=u;rw[g]at v;simp[SH,v,g];refine o _ _ ?_;refine d _ _ _ ⟨rfl,a4o rfl rfl rfl rfl rfl rfl rfl⟩ rfl ?_;simp[U5,X89]
        . have M:((c).s==3)=false:=(by simp[g]);have H:(([c,l1]:List Ld).take 1).any (fun k=>k==l||k.s==3)=false:=(by grind);simp[SH,u,g];exact C (1,_,_,_,_) _ _ i9 ⟨s5,H,rfl,rfl⟩
    by_cases S:k=1
    . subst S;by_cases he:(l1).s=l.s∧(l1).x=l.x
      . have f:S0 [c,l1] l=true:=by
         have:l1=l:=(by cases h0:l1;rw[h0]at he;cases l;simp only at he;rw[he.1,he.2]);unfold S0;simp[this]
        rw[f]at d;simp only[if_true]at d;simp[SH,he.1,he.2];refine o _ _ ?_;refine d _ _ _ ⟨rfl,a4o rfl rfl rfl rfl rfl rfl rfl⟩ rfl ?_;simp[U5,X89]
      . have u:(decide ((l1).s=l.s)&&(l1).x==l.x)=false:=by
         rw[Bool.eq_false_iff];intro h;simp only[G4,decide_eq_true_eq,beq_iff_eq]at h;exact he h
        have L:(l1==l)=false:=(by grind);by_cases g:(l1).s=3
        . have f:S0 [c,l1] l=true:=(by unfold S0;simp[g]);rw[f]at d;simp only[if_true]at d;have v:=u;rw[g]at v;simp[SH,v,g];refine o _ _ ?_;refine d _ _ _ ⟨rfl,a4o rfl rfl rfl rfl rfl rfl rfl⟩ rfl ?_;simp[U5,X89]
        . have M:((l1).s==3)=false:=(by simp[g]);have H:(([c,l1]:List Ld).take 2).any (fun k=>k==l||k.s==3)=false:=(by grind);simp[SH,u,g];exact C (2,_,_,_,_) _ _ i9 ⟨s5,H,rfl,rfl⟩
    obtain rfl:k=2:=i9;have f:S0 [c,l1] l=true:=(by unfold S0;simp);rw[f]at d;simp only[if_true]at d;simp[SH];refine z _ _ _ ?_;simp;refine d _ _ _ ⟨rfl,a4o rfl rfl rfl rfl rfl rfl rfl⟩ rfl ?_;simp[U5,X89]
 obtain⟨r1,ws,⟨rfl,j,hu,T⟩,U⟩:=key;exact⟨ws,j,U,hu,T⟩
theorem b5G(t:j9)(s:J2)(F:FT)(v7:Nat)(x:RX)(n:Nd)(g hb:Hf)(C:s.1[n.a]?=some g)(D:s.1[n.b]?=some hb)(w:g.x<(j4 t).length)(A:hb.x<(j4 t).length):
 ∃(c:Bool) (ws:List (Nat×Row)) (i:RX),(c=true↔Cls t s.1 n)∧FI Tryz.prog (.fn (.func 91) [] []) [.ptr 5 1 0,NQ n] (SH t s F v7 x) (B c) ws∧p8 (SH t s F v7 x) ws=SH t s F v7 i∧a0s i.l=a0s x.l:=by
 obtain⟨j,k⟩:=B8.1 C;obtain⟨m,o⟩:=B8.1 D;have E:(N6 t).length=(j4 t).length:=by simp[N6]
 have acc:∀y,(H:y<(j4 t).length)→(N6 t)[y]'i9=C0 t ((j4 t).getD y D7):=fun y H=>by simp only[N6,a0b];rw[u9,m7 H];rfl
 have p:Cls t s.1 n↔n.l.s≠0∧HE t g∧HE t hb:=by
  constructor
  . rintro⟨h1,N,O,d,f,q,u⟩;rw[C]at d;cases d;rw[D]at f;cases f;exact⟨h1,q,u⟩
  . rintro⟨h1,d,f⟩;exact⟨h1,g,hb,C,D,d,f⟩
 have key:∃r ws,(∃c:Bool,r=B c∧(c=true↔Cls t s.1 n)∧∃i,p8 (SH t s F v7 x) ws=SH t s F v7 i∧a0s i.l=a0s x.l)∧FI Tryz.prog (.fn (.func 91) [] []) [.ptr 5 1 0,NQ n] (SH t s F v7 x) r ws:=by
  refine a7F (φ:=fun r h=>∃c:Bool,r=B c∧(c=true↔Cls t s.1 n)∧∃i,h=SH t s F v7 i∧a0s i.l=a0s x.l) mixed (X:=X91) c91 (by rfl) (by simp[X91]) l5 (by kernel_rfl) fun Q v P=>?_;obtain⟨a,b,l⟩:=n;dsimp only at j m k o;by_cases h1:l.s=0
  . simp[X91,SH,j,m,k,o,h1];refine v _ _ _ ⟨false,rfl,by simp[p,h1],a6q rfl rfl rfl rfl rfl rfl rfl⟩ rfl ?_;simp[U5,X91]
  . by_cases d:g.r=[]
    . by_cases f:hb.r=[]
      . cases q:C0 t ((j4 t).getD g.x D7)with
        |false=>
         have e:=acc g.x w;rw[q]at e;simp[X91,SH,j,m,k,o,h1,d,f,E,w,e];refine v _ _ _ ⟨false,rfl,?_,a6q rfl rfl rfl rfl rfl rfl rfl⟩ rfl ?_
         . rw[p];unfold HE;rw[q];simp
         simp[U5,X91]
        |true=>
         have e:=acc g.x w;rw[q]at e;cases u:C0 t ((j4 t).getD hb.x D7)with
         |false=>
          have z:=acc hb.x A;rw[u]at z;simp[X91,SH,j,m,k,o,h1,d,f,E,w,A,e,z];refine v _ _ _ ⟨false,rfl,?_,a6q rfl rfl rfl rfl rfl rfl rfl⟩ rfl ?_
          . rw[p];unfold HE;rw[u];simp
          simp[U5,X91]
         |true=>
          have z:=acc hb.x A;rw[u]at z;simp[X91,SH,j,m,k,o,h1,d,f,E,w,A,e,z];refine v _ _ _ ⟨true,rfl,?_,a6q rfl rfl rfl rfl rfl rfl rfl⟩ rfl ?_
          . rw[p];unfold HE;rw[q,u];simp[h1,d,f]
          simp[U5,X91]
      . have I:hb.r.isEmpty=false:=by cases G:hb.r with|nil=>exact absurd G f|cons=>rfl
        simp[X91,SH,j,m,k,o,h1,d,I];refine v _ _ _ ⟨false,rfl,?_,a6q rfl rfl rfl rfl rfl rfl rfl⟩ rfl ?_
        . rw[p];unfold HE;simp[f]
        simp[U5,X91]
    . have J:g.r.isEmpty=false:=by cases G:g.r with|nil=>exact absurd G d|cons=>rfl
      simp[X91,SH,j,m,k,o,h1,J];refine v _ _ _ ⟨false,rfl,?_,a6q rfl rfl rfl rfl rfl rfl rfl⟩ rfl ?_
      . rw[p];unfold HE;simp[d]
      simp[U5,X91]
 obtain⟨r1,ws,⟨c,rfl,K,i,hu,L⟩,M⟩:=key;exact⟨c,ws,i,K,M,hu,L⟩
def BKQ(B:BM):List PV:=(B.map (·.1)).map UB
def BVQ(B:BM):List PV:=B.map fun e=>.uslc (e.2.map NQ)
@[simp] theorem d1N(c:UInt8)(B:BM):a0t (.int .u8 c.toNat) (BKQ B) 0=some ((B.map (·.1)).idxOf? c):=by have:=a7C c7L c (B.map (·.1)) 0;unfold BKQ;simpa using this
@[simp] theorem c1C(B:BM):(BVQ B).length=B.length:=by simp[BVQ]
def BdM(M:Nat)(B:BM):Prop:=∀e∈B,e.2≠ []∧e.2.length≤M
theorem BdM.put{M:Nat}{B:BM}(h:BdM M B)(c:UInt8)(m:Nd):BdM (M+1) (Y9 B c m):=fun e he=>by
 rcases b0w he with he|rfl
 . obtain⟨h1,a⟩:=h e he;exact⟨h1,i9⟩
 . refine⟨l5,?_⟩;rw[a0D,b1M];rcases a8D (k:=c) (F:=B)with e|e
   . rw[e];simp
   . have:=(h _ e).2;simp only at this;omega
theorem BdM.up{M M':Nat}{B:BM}(h:BdM M B)(a:M≤M'):BdM M' B:=fun e he=>⟨(h e he).1,V1 (h e he).2 a⟩
theorem BdM.a0B{M:Nat}{B:BM}(h:BdM M B)(l:Ld)(X y:J6):BdM (M+1) (T.a0B l X B y):=by
 unfold T.a0B;split
 . exact h.put _ _
 . exact h.up (Nat.le_succ _)
theorem BdM.b2a{l:Ld}{X:J6}:∀{L:List J6} {M:Nat} {B:BM},BdM M B→BdM (M+L.length) (L.foldl (T.a0B l X) B)
 | [],_,_,h=>h
 |y::L,M,B,h=>by
  have:=BdM.b2a (l:=l) (X:=X) (L:=L) (h.a0B l X y)
  grind
theorem BdM.b3K{l:Ld}{Lb:List J6}:∀{La:List J6} {M:Nat} {B:BM},BdM M B→BdM (M+La.length*Lb.length) (La.foldl (a1O l Lb) B)
 | [],_,_,h=>by simpa using h
 |y::La,M,B,h=>by
  have h1:BdM (M+Lb.length) (a1O l Lb B y):=h.b2a;have:=BdM.b3K (l:=l) (Lb:=Lb) (La:=La) h1
  grind
theorem c6M{B:BM}{c:UInt8}{m:Nd}:(∀{i},(B.map (·.1)).idxOf? c=some i→BKQ (Y9 B c m)=BKQ B∧BVQ (Y9 B c m)=(BVQ B).set i (.uslc ((D3 B c++[m]).map NQ))∧i<B.length∧(BVQ B)[i]?=some (.uslc ((D3 B c).map NQ))∧(c,D3 B c)∈B)∧
 ((B.map (·.1)).idxOf? c=none→BKQ (Y9 B c m)=BKQ B++[UB c]∧BVQ (Y9 B c m)=BVQ B++[.uslc [NQ m]]):=by
 constructor
 . intro i a;obtain⟨hi,h1,b⟩:=a7X (l:=m) a;rw[b];refine⟨?_,?_,hi,?_,?_⟩
   . unfold BKQ;congr 1;rw[H9];apply W3 l5;intro j g1 g2;rw[a3w];split
     . rename_i e;subst e;simp[h1]
     . rfl
   . unfold BVQ;rw[H9]
   . unfold BVQ;rw[H6,m7 hi,h1];rfl
   . rw[←h1];exact B7 hi
 . intro a;obtain⟨h1,_⟩:=a9Z (l:=m) a;rw[h1];unfold BKQ BVQ;simp
theorem c8n(L:List Nd):∀x,x∈L.map NQ→D5 x=true:=fun x a=>by obtain⟨i,_,rfl⟩:=E5.1 a;rfl
@[simp ↓] theorem d1q(L:List Nd):(L.map NQ).all D5=true:=B0.2 (c8n L)
@[simp] theorem d0t(L:List Nd):List.map (B4∘NQ) L=L.map NQ:=K3 fun _ _=>rfl
theorem c5q(L:List Nd):a2x 4 (L.map NQ)=true:=B0.2 fun x a=>by obtain⟨i,_,rfl⟩:=E5.1 a;rfl
theorem Stp.C5{t:j9}(b:s8 t){h h':Hf}{c:UInt8}{p:By}(hs:Stp t h c p h'):p.length≤4:=by
 rcases hs with⟨_,rfl,_⟩|⟨_,a,_,_,rfl,_⟩
 . simp
 . exact b4p b _
structure RH where
 (k:Nat)
 (x:RX)
 (v7:Nat)
 (w4 w5 w6 w10 w11 w12 w13 w14 w15:PV)
abbrev BR(B:BM):Row:=(1,.mp false (BKQ B) (BVQ B))
theorem b8N(t:j9)(f:s8 t)(I:Sm t)(s:J2)(hi:HSI t s)(F:FT)(v7:Nat)(x:RX)(n:Nd)(w:By)(ba:NS t s.1 w n)(B:BM)(bb:BdM 2000000000000 B)(aC:x.K4=BR B)(bc:x.c24.2=.dead)(bd:n.l.x.length≤1000000000000):
 ∃(ws:List (Nat×Row)) (a:RX) (o:Nat),FI Tryz.prog (.fn (.func 90) [] []) [.ptr 5 1 0,NQ n,.mapv 11 1] (SH t s F v7 x) (.tup []) ws∧p8 (SH t s F v7 x) ws=SH t (a0J t s B n).1 F o a∧a.K4=BR (a0J t s B n).2∧{a with K4:=x.K4}.l.take 15=x.l.take 15∧a.c24.2=.dead:=by
 have key:∃r ws,(r=.tup []∧∃a o,p8 (SH t s F v7 x) ws=SH t (a0J t s B n).1 F o a∧a.K4=BR (a0J t s B n).2∧{a with K4:=x.K4}.l.take 15=x.l.take 15∧a.c24.2=.dead)∧FI Tryz.prog (.fn (.func 90) [] []) [.ptr 5 1 0,NQ n,.mapv 11 1] (SH t s F v7 x) r ws:=by
  refine a7F (φ:=fun r h=>r=.tup []∧∃a o,h=SH t (a0J t s B n).1 F o a∧a.K4=BR (a0J t s B n).2∧{a with K4:=x.K4}.l.take 15=x.l.take 15∧a.c24.2=.dead) mixed (X:=X90) c90 (by rfl) (first:=[]) (cap:=[]) (args:=[.ptr 5 1 0,NQ n,.mapv 11 1]) (h0:=SH t s F v7 x) (by simp[X90]) l5 (by kernel_rfl) fun Q J p=>?_;obtain⟨u,v,aD,hb,aa,ab,bz,bA,aE⟩:=id ba;have bB:=a4A f I hi.nd hi.hb;obtain⟨K,a2,a3,a4,a5⟩:=a7u f I hi aa;have aF:=a4A f I K.nd K.hb;obtain⟨L,ac,R,ad,S⟩:=a7u f I K (a0m a2 ab);have ae:=a4A f I L.nd L.hb;simp[X90,SH];obtain⟨bC,af,v1,aG,aH,aI⟩:=b8K t f s F v7 {x with O7:=(x.O7.1+1,.var [IN n.a,IN n.b,IN n.l.s,St n.l.x])} n.a aD i9 hi.sl aa (hi.hb aD (D4 aa)).1;obtain⟨D,aJ⟩:=p7 ((M3 t s n.a).1);obtain⟨La,aK⟩:=p7 ((M3 t s n.a).2);rw[←aK]at aG a3 a4;rw[←aJ]at aH K a2 a3 aF L ac R ad S ae;refine a2Q aG aH rfl ?_;unfold a0J at J p;rw[←aK,←aJ]at J p;by_cases E:La=[]
  . rw[if_pos E]at J p;have g:=aI;simp[RX.l]at g;rw[E];simp[SH];refine E3 (fun(_:Unit) vs h=>vs=[.ptr 5 1 0,NQ n,.mapv 11 1,.ptr 20 (x.O7.1+1) 0,.uu,.uu,.uu,.ne,IN 0,IN 0,.uu,.uu,.uu,.uu,.uu,.uu]∧h=SH t D F v1 af) (fun _=>0) () ⟨rfl,rfl⟩ ?_;rintro _ vs h1 ⟨rfl,rfl⟩ Q2 ag M be;simp[SH];refine M _ _ _ ?_;simp;refine p _ _ _ ⟨rfl,af,v1,rfl,?_,?_,?_⟩ rfl ?_
    . rw[g.2.2.2.2.2.2.1];exact aC
    . simp[RX.l,g]
    . grind
    simp[U5,X90]
  . rw[if_neg E]at J p;rw[b0P E];obtain⟨q,ah⟩:=p7 ((M3 t D n.b).1);obtain⟨Lb,ai⟩:=p7 ((M3 t D n.b).2);rw[←ai,←ah]at J p;rw[←ai]at R ad;rw[←ah]at L ac R S ae;have aL:M3 t D n.b=(q,Lb):=(by rw[ah,ai]);rw[aL]at S;have g:=aI;simp[RX.l]at g;simp[SH];refine E3 (fun(y:RH) vs h=>y.k≤La.length∧y.x.O7=(x.O7.1+1,.var [IN n.a,IN n.b,IN n.l.s,St n.l.x])∧y.x.K4=BR ((La.take y.k).foldl (a1O n.l Lb) B)∧{y.x with K4:=x.K4}.l.take 15=x.l.take 15∧y.x.c24.2=.dead∧
     vs=[.ptr 5 1 0,NQ n,.mapv 11 1,.ptr 20 (x.O7.1+1) 0,y.w4,y.w5,y.w6,.slc (La.map U3),IN La.length,IN y.k,y.w10,y.w11,y.w12,y.w13,y.w14,y.w15]∧h=SH t (if y.k=0 then D else q) F y.v7 y.x) (fun y=>La.length-y.k)
     ⟨0,af,v1,.uu,.uu,.uu,.uu,.uu,.uu,.uu,.uu,.uu⟩ ⟨D6 _,g.2.2.2.2.2.2.2.2.2.2.2.2.2.2.2.1,g.2.2.2.2.2.2.1.trans aC,by simp[RX.l,g],(congrArg Prod.snd g.2.2.2.2.2.2.2.2.2.2.2.2.2.2.2.2.2.2.2.1).trans bc,rfl,rfl⟩ ?_
    rintro⟨k,d,v2,w4,w5,w6,w10,w11,w12,w13,w14,w15⟩ vs h1 ⟨bf,T,N,aj,ak,rfl,rfl⟩ Q2 ag M be;dsimp only at bf T N aj ak;by_cases aM:k<La.length
    . have aN:=wk1 k i9;obtain⟨X,aO⟩:=p7 (La[k]);have bg:X∈La:=(by grind);obtain⟨A,aP⟩:∃A,A=if k=0 then D else q:=⟨_,rfl⟩
      obtain⟨Bk,al⟩:=p7 ((La.take k).foldl (a1O n.l Lb) B);have bh:M3 t A n.b=(q,Lb)∧HSI t A∧A.1[n.b]?=some hb∧A.1.length≤16128:=by
       rw[aP];split
       . exact⟨aL,K,a0m a2 ab,aF⟩
       . exact⟨S,L,a0m (a2.trans ac) ab,ae⟩
      obtain⟨bi,aQ,aR,p4⟩:=bh;rw[←al]at N;have aS:(La.take (k+1)).foldl (a1O n.l Lb) B=Lb.foldl (a0B n.l X) Bk:=(by rw[a5x _ _ aM,←al,←aO];rfl);obtain⟨bD,l,v3,aT,aU,am⟩:=b8K t f A F v2 {d with P1:=(d.P1.1+1,.var [.int .u8 X.c.toNat,St X.p,IN X.to])} n.b hb i9 aQ.sl aR (aQ.hb hb (D4 aR)).1;rw[bi]at aT aU;have G:=am;simp[RX.l]at G;rw[←aP];simp[SH,aM,←aO,T];refine a2Q aT aU (by rw[←T]) ?_;have aV:l.O7=(x.O7.1+1,.var [IN n.a,IN n.b,IN n.l.s,St n.l.x]):=G.2.2.2.2.2.2.2.2.2.2.2.2.2.2.2.1.trans T;have bj:l.P1=(d.P1.1+1,.var [.int .u8 X.c.toNat,St X.p,IN X.to]):=G.2.2.2.2.2.2.2.2.2.2.2.2.2.2.2.2.1;have aW:l.K4=BR Bk:=G.2.2.2.2.2.2.1.trans N;have aX:l.c24.2=.dead:=(congrArg Prod.snd G.2.2.2.2.2.2.2.2.2.2.2.2.2.2.2.2.2.2.2.1).trans ak;have aY:{l with K4:=x.K4}.l.take 15=x.l.take 15:=by refine Eq.trans ?_ aj;simp[RX.l,G]
      by_cases an:Lb=[]
      . have bk:(La.take (k+1)).foldl (a1O n.l Lb) B=Bk:=(by rw[aS,an];rfl);rw[show SLQ (q,Lb).2=.ne from by show SLQ Lb=_;rw[an];rfl];simp[SH];refine E3 (fun(_:Unit) vs h=>vs=[.ptr 5 1 0,NQ n,.mapv 11 1,.ptr 20 (x.O7.1+1) 0,.ptr 21 (d.P1.1+1) 0,w5,w6,.slc (La.map U3),IN La.length,IN k,.bool true,.ne,IN 0,IN 0,w14,w15]∧h=SH t q F v3 l) (fun _=>0) () ⟨rfl,rfl⟩ ?_;rintro _ vs h1 ⟨rfl,rfl⟩ Q3 U ao bl;simp[SH];refine ao _ _ _ ?_;simp[aN];refine ag ⟨k+1,l,v3,_,_,_,_,_,_,_,_,_⟩ _ _ (by grind) ⟨s5,aV,?_,aY,aX,rfl,rfl⟩;dsimp only;rw[bk];exact aW
      . rw[b0P an];simp[SH];refine E3 (fun(z:Nat×RX×PV×PV×PV×PV) vs h=>z.1≤Lb.length∧z.2.1.O7=(x.O7.1+1,.var [IN n.a,IN n.b,IN n.l.s,St n.l.x])∧z.2.1.P1=(d.P1.1+1,.var [.int .u8 X.c.toNat,St X.p,IN X.to])∧z.2.1.K4=BR ((Lb.take z.1).foldl (a0B n.l X) Bk)∧{z.2.1 with K4:=x.K4}.l.take 15=x.l.take 15∧z.2.1.c24.2=.dead∧
         vs=[.ptr 5 1 0,NQ n,.mapv 11 1,.ptr 20 (x.O7.1+1) 0,.ptr 21 (d.P1.1+1) 0,z.2.2.1,z.2.2.2.1,.slc (La.map U3),IN La.length,IN k,.bool true,.slc (Lb.map U3),IN Lb.length,IN z.1,z.2.2.2.2.1,z.2.2.2.2.2]∧h=SH t q F v3 z.2.1) (fun z=>Lb.length-z.1)
         (0,l,_,_,_,_) ⟨D6 _,aV,bj,aW,aY,aX,rfl,rfl⟩ ?_
        rintro⟨j,b,w5,w6,w14,w15⟩ vs h1 ⟨bm,z2,z3,z4,z5,V,rfl,rfl⟩ Q3 U ao bl;dsimp only at bm z2 z3 z4 z5 V;obtain⟨g24,aZ⟩:∃g24,b.c24=(g24,.dead):=⟨b.c24.1,Prod.ext rfl V⟩
        by_cases hj:j<Lb.length
        . have ap:=wk1 j i9;obtain⟨Y,W⟩:=p7 (Lb[j]);have bn:Y∈Lb:=(by grind);obtain⟨Bj,aq⟩:=p7 ((Lb.take j).foldl (a0B n.l X) Bk);rw[←aq]at z4;have ar:(Lb.take (j+1)).foldl (a0B n.l X) Bk=a0B n.l X Bj Y:=(by rw[a5x _ _ hj,←aq,←W]);have bo:BdM 2000000005000 Bj:=by
           have h1:BdM (2000000000000+(La.take k).length*Lb.length) Bk:=(by rw[al];exact bb.b3K);have au:BdM (2000000000000+(La.take k).length*Lb.length+(Lb.take j).length) Bj:=(by rw[aq];exact h1.b2a);refine au.up ?_;have a0:(La.take k).length*Lb.length≤64*64:=a5S (by grind) ad;have bE:(Lb.take j).length≤64:=(by grind);omega
          by_cases Z:X.c=Y.c
          . have a1:Y.c=X.c:=Z.symm;have am:n.l.s≤3:=(by rw[aE];exact b2f u v);obtain⟨_,_,M⟩:=a3.1 X bg;obtain⟨_,_,bp⟩:=R.1 Y bn;have bF:=M.C5 f;have bG:=bp.C5 f;obtain⟨C,av⟩:=p7 (n.l.aft X.p Y.p);have bq:C.s≤3:=(by rw[av,aE,a3M];exact b2f _ _);have aw:=c3r n.l am X.p Y.p bd i9 i9;rw[←av]at aw;obtain⟨m2,a6⟩:=p7 (Nd.ord ⟨X.to,Y.to,C⟩);have ax:=c2P ⟨X.to,Y.to,C⟩ bq;rw[←a6]at ax;have O:a0B n.l X Bj Y=Y9 Bj X.c m2:=(by unfold a0B;rw[if_pos Z,a6,av]);obtain⟨B2,br⟩:=p7 (Y9 Bj X.c m2);obtain⟨a7,a8⟩:=c6M (B:=Bj) (c:=X.c) (m:=m2);rw[←br]at a7 a8 O;cases H:(Bj.map (·.1)).idxOf? X.c with
            |none=>
             obtain⟨ay,P⟩:=a8 H;simp[SH,hj,←W,z2,z3,a1];refine m6 aw ?_;simp[z4,H,aZ];refine m6 ax ?_;simp[H,←ay,←P,ap];refine U (j+1,{b with K4:=BR B2,O7:=(x.O7.1+1,.var [IN n.a,IN n.b,IN n.l.s,St n.l.x]),P1:=(d.P1.1+1,.var [.int .u8 X.c.toNat,St X.p,IN X.to]),c22:=(b.c22.1+1,.var [.int .u8 X.c.toNat,St Y.p,IN Y.to]),c23:=(b.c23.1+1,.var [IN X.to,IN Y.to,IN C.s,St C.x]),c24:=(g24,.dead),c25:=(b.c25.1+1,.dead),c26:=(b.c26.1+1,.dead)},_,_,_,_) _ _ i9 ⟨s5,rfl,rfl,?_,?_,rfl,rfl,?_⟩
             . dsimp only;rw[ar,O]
             . exact z5
             . rfl
            |some i=>
             obtain⟨ay,P,az,bs,bt⟩:=a7 H;have aA:=bo _ bt;simp only at aA;obtain⟨ns,bu⟩:=p7 (D3 Bj X.c);rw[←bu]at P bs aA;have g1:(BVQ Bj)[i]'(by rw[c1C];exact az)=.uslc (ns.map NQ):=(by grind);have g2:0<ns.length:=a2p.2 aA.1;obtain⟨aB,a9⟩:=p7 (ns++[m2]);rw[←a9]at P;have g3:ns.map NQ++[.agg [IN m2.a,IN m2.b,IN m2.l.s,St m2.l.x]]=aB.map NQ:=(by grind);have g4:ns.length+1=aB.length:=(by rw[a9];simp);have g5:aB.length*40≤140737488355328:=i9;simp[SH,hj,←W,z2,z3,a1];refine m6 aw ?_;simp[z4,H,az,g1,g2,c5q,aZ];refine m6 ax ?_;simp[H,az,g1,g2,g3,g4,g5,←P,ap];refine U (j+1,{b with K4:=BR B2,O7:=(x.O7.1+1,.var [IN n.a,IN n.b,IN n.l.s,St n.l.x]),P1:=(d.P1.1+1,.var [.int .u8 X.c.toNat,St X.p,IN X.to]),c22:=(b.c22.1+1,.var [.int .u8 X.c.toNat,St Y.p,IN Y.to]),c23:=(b.c23.1+1,.var [IN X.to,IN Y.to,IN C.s,St C.x]),c24:=(g24+1,.dead),c25:=(b.c25.1+1,.dead),c26:=b.c26},_,_,_,_) _ _ i9 ⟨s5,rfl,rfl,?_,?_,rfl,rfl,?_⟩
             . dsimp only;rw[ar,O]
             . exact z5
             . rw[←ay]
               all_goals rfl
          . have O:a0B n.l X Bj Y=Bj:=(by unfold a0B;rw[if_neg Z]);have bv:¬X.c.toNat=Y.c.toNat:=fun e=>Z (a6N.1 e);have bw:¬((X.c.toNat:Int)=(Y.c.toNat:Int)):=i9;simp[SH,hj,←W,z2,z3,bv,bw,ap];refine U (j+1,{b with O7:=(x.O7.1+1,.var [IN n.a,IN n.b,IN n.l.s,St n.l.x]),P1:=(d.P1.1+1,.var [.int .u8 X.c.toNat,St X.p,IN X.to]),c22:=(b.c22.1+1,.var [.int .u8 Y.c.toNat,St Y.p,IN Y.to])},_,_,_,_) _ _ i9 ⟨s5,rfl,rfl,?_,?_,V,rfl,rfl⟩
            . dsimp only;rw[ar,O];exact z4
            . exact z5
        . obtain rfl:j=Lb.length:=i9;rw[M4]at z4;simp[SH];refine ao _ _ _ ?_;simp[aN];refine ag ⟨k+1,b,v3,_,_,_,_,_,_,_,_,_⟩ _ _ (by grind) ⟨s5,z2,?_,z5,V,rfl,rfl⟩;dsimp only;rw[aS];exact z4
    . obtain rfl:k=La.length:=i9;rw[M4]at N;have bH:La.length≠0:=fun e=>E (a0V.1 e);simp[SH];refine M _ _ _ ?_;simp;refine p _ _ _ ⟨rfl,d,v2,?_,N,aj,ak⟩ rfl ?_
      . rw[if_neg E]
      simp[U5,X90]
 obtain⟨r1,ws,⟨rfl,a,o,hu,h1,au,a0⟩,bx⟩:=key;exact⟨ws,a,o,bx,hu,h1,au,a0⟩
abbrev O6:=List (List Nd×UInt8)
def GP:O6→PV
 | []=>.lit (.pointer none)
 |(ns,c)::g=>.fptr [.slc (ns.map NQ),GP g,.int .u8 c.toNat]
@[simp] theorem d0y:GP []=.lit (.pointer none):=rfl
@[simp] theorem b5J(ns:List Nd)(c:UInt8)(g:O6):GP ((ns,c)::g)=.fptr [.slc (ns.map NQ),GP g,.int .u8 c.toNat]:=rfl
def Y6:O6→By
 | []=>[]
 | [_]=>[]
 |(_,c)::g::gs=>Y6 (g::gs)++[c]
def a6E(l m:By)(k:Nat):Prop:=m.length=l.length∧∀i,i<l.length→m[i]?=if i<k∨l.length≤i+k then l[l.length-1-i]? else l[i]?
theorem a6E.fin{l m:By}{k:Nat}(h:a6E l m k)(a:l.length≤2*k+1):m=l.reverse:=by
 apply a3u;intro i;by_cases hi:i<l.length
 . rw[h.2 i hi,List.getElem?_reverse hi];split
   . rfl
   . congr 1;omega
 . rw[a0d (by rw[h.1];omega),a0d (by grind)]
theorem a6E.next{l m:By}{k:Nat}(h:a6E l m k)(g:2*k+1<l.length)(h1:k<m.length)(d:l.length-1-k<m.length):a6E l ((m.set k m[l.length-1-k]).set (l.length-1-k) m[k]) (k+1):=by
 refine⟨by simp[h.1],fun i hi=>?_⟩;have a:m[k]?=l[k]?:=by rw[h.2 k i9,if_neg i9]
 have b:m[l.length-1-k]?=l[l.length-1-k]?:=by rw[h.2 _ i9,if_neg i9]
 rw[m7 h1,m7 i9]at a;rw[m7 d,m7 i9]at b;rw[a0c a,a0c b];by_cases e:i=l.length-1-k
 . grind
 . rw[F7 (Ne.symm e)];by_cases f:i=k
   . grind
   . rw[F7 (Ne.symm f),h.2 i hi];by_cases c:i<k∨l.length≤i+k
     . rw[if_pos c,if_pos i9]
     . rw[if_neg c,if_neg i9]
theorem c7W(l:By)(R0:Row)(D:l.length≤4000000000):FI Tryz.prog (.fn (.func 117) [] []) [.own 1 1 l.length 1 0 l.length] [R0,(1,.arr 1 0 false (l.map UB))] (.tup []) [(1,(1,.arr 1 0 false (l.reverse.map UB)))]:=by
 refine a3n mixed (X:=a7a) c117 (by rfl) (by simp[a7a]) l5 fun Q E d=>?_;have hw:IntKind.i64.wrap ((l.length:Int)-1)=(l.length:Int)-1:=I9;simp[a7a,hw];refine E3 (fun(y:Nat×By×PV) vs h=>y.1≤l.length∧a6E l y.2.1 y.1∧(2*y.1≤l.length+1)∧vs=[.own 1 1 l.length 1 0 l.length,IN y.1,I ((l.length:Int)-1-y.1),y.2.2]∧h=[R0,(1,.arr 1 0 false (y.2.1.map UB))]) (fun y=>l.length-y.1) (0,l,.uu) ⟨D6 _,⟨rfl,fun i hi=>by rw[if_neg i9]⟩,s5,l5,rfl⟩ ?_;rintro⟨k,m,w3⟩ vs h1 ⟨e,a,f,rfl,rfl⟩ Q2 g n F;dsimp only at e a f;have o:=a.1;by_cases p:2*k+1<l.length
 . have h0:(k:Int)<(l.length:Int)-1-(k:Int):=i9;obtain⟨j,hj⟩:=p7 (l.length-1-k);have q:(l.length:Int)-1-(k:Int)=(j:Int):=i9;have r:k<m.length:=i9;have G:j<m.length:=i9;have s:k<l.length:=i9;have t:j<l.length:=i9;have H:j≠k:=i9;have u:=wk1 k i9;have v:IntKind.i64.wrap ((j:Int)-1)=(l.length:Int)-1-((k+1:Nat):Int):=(by rw[wrap_ok i9 i9];omega);have w:=a.next p r i9;obtain⟨m1,b⟩:=p7 (m.set k m[j]);obtain⟨m2,c⟩:=p7 (m1.set j m[k]);have x:(m.map UB).set k (.int .u8 m[j].toNat)=m1.map UB:=(by rw[b,H9]);have z:(m1.map UB).set j (.int .u8 m[k].toNat)=m2.map UB:=(by rw[c,H9]);have A:m1.length=l.length:=(by grind);have B:a6E l m2 (k+1):=by
    subst hj;rw[c,b];exact w
   rw[q]at h0⊢;simp[h0,s,t,o,A,u,v,x,z];exact g (k+1,m2,_) _ _ i9 ⟨s5,B,s5,rfl,rfl⟩
 . have h0:¬((k:Int)<(l.length:Int)-1-(k:Int)):=i9;have C:=a.fin i9;simp[h0];refine n _ _ _ ?_;simp;refine d _ _ ?_;simp[M6,a7a,C]
theorem c0e(g:O6)(i:g≠ [])(q:g.length≤3000000000):F0 92 [1] [GP g] (.uslc ((Y6 g).map UB)):=by
 refine E4 c92 2 (by simp[X92]) fun Q j r=>?_;simp[X92];refine E3 (fun(y:O6×By×Nat×PV) vs h=>y.1≠ []∧y.1.length+y.2.1.length=g.length∧Y6 g=Y6 y.1++y.2.1.reverse∧vs=[GP y.1,.nils,.own 1 1 y.2.1.length 1 0 y.2.1.length,y.2.2.2]∧h=[(y.2.2.1,.dead),(1,.arr 1 0 false (y.2.1.map UB))]) (fun y=>y.1.length) (g,[],0,.uu) ⟨i,l5,l5,rfl,rfl⟩ ?_;rintro⟨g1,acc,g0,w3⟩ vs h1 ⟨e,b,d,rfl,rfl⟩ Q2 k l s;dsimp only at e b d
 match g1,e with
 | [(ns,c)],_=>
  have m:acc.length≤4000000000:=i9;simp;refine l _ _ _ ?_;simp;refine a2H (c7W acc _ m) ?_;simp;refine j _ _ ?_;simp[X92,d,Y6]
 |(ns,c)::(n,c2)::g2,_=>
  obtain⟨a,f⟩:=p7 (acc++[c]);have o:acc.map UB++[.int .u8 c.toNat]=a.map UB:=by grind
  have p:acc.length+1=a.length:=by rw[f];simp
  have hb:a.length≤140737488355328:=by simp at b;omega
  simp[o,p,hb];refine k ((n,c2)::g2,a,g0+1,_) _ _ l5 ⟨l5,?_,?_,rfl,rfl⟩
  . simp at b⊢;omega
  . dsimp only;rw[d,f,Y6];simp
def gn(g:O6):List Nd:=match g with
 | []=>[]
 |(ns,_)::_=>ns
section
variable{t:j9}
def GOk(t:j9)(Hs:List Hf)(F:FT)(d:Nat)(g:O6):Prop:=g.length=d+1∧∀n∈gn g,NS t Hs (Y6 g) n∧Rec F n
theorem GOk.mono{Hs Hs':List Hf}{F F':FT}{d:Nat}{g:O6}(hp:Hs<+:Hs')(b:FLe F F')(h:GOk t Hs F d g):GOk t Hs' F' d g:=
 ⟨h.1,fun n a=>⟨(h.2 n a).1.mono hp,b _ _ (h.2 n a).2⟩⟩
theorem GOk.word{Hs:List Hf}{F:FT}{d:Nat}{g:O6}(h:GOk t Hs F d g)(ns:List Nd)(c:UInt8):Y6 ((ns,c)::g)=Y6 g++[c]:=by
 cases g with
 |nil=>cases h.1
 |cons a g=>rfl
def a7Z(t:j9)(Hs:List Hf)(B:BM)(n:Nd):Prop:=∀c p q a hb b d,Hs[n.a]?=some a→Hs[n.b]?=some hb→Stp t a c p b→Stp t hb c q d→∃i j,Hs[i]?=some b∧Hs[j]?=some d∧Nd.ord ⟨i,j,n.l.aft p q⟩∈D3 B c
theorem a7Z.mono{Hs Hs':List Hf}{B B':BM}{n:Nd}{w:By}(k:NS t Hs w n)(hp:Hs<+:Hs')(l:∀c m,m∈D3 B c→m∈D3 B' c)(h:a7Z t Hs B n):a7Z t Hs' B' n:=fun c p q y hb o r h1 d s x=>by obtain⟨u,v,z,A,f,g,_⟩:=k;rw[a0m hp f]at h1;cases h1;rw[a0m hp g]at d;cases d;obtain⟨i,j,a,b,e⟩:=h c p q _ _ o r f g s x;exact⟨i,j,a0m hp a,a0m hp b,l _ _ e⟩
structure FoI(t:j9)(s0 s:J2)(w:By)(B:BM)(ns:List Nd)(j:Nat):Prop where
 hs:HSI t s
 pre:s0.1<+:s.1
 snd:∀c m,m∈D3 B c→NS t s.1 (w++[c]) m∧m.a≤m.b
 fol:∀n∈ns.take j,a7Z t s.1 B n
 bd:BdM (4096*j) B
theorem FoI.start{s:J2}(hs:HSI t s)(w:By)(ns:List Nd):FoI t s s w [] ns 0:=
 ⟨hs,a5g _,fun c m h=>(by cases h),fun n a=>(by simp at a),fun e he=>(by cases he)⟩
theorem c8H(a:s8 t)(hs:Sm t){s:J2}(hi:HSI t s){B:BM}{n:Nd}{w:By}(c:NS t s.1 w n){M:Nat}(b:BdM M B):BdM (M+4096) (a0J t s B n).2:=by
 obtain⟨u,v,h,hb,d,e,_⟩:=c;obtain⟨f,a2,_,a4,_⟩:=a7u a hs hi d;obtain⟨_,_,_,g,_⟩:=a7u a hs f (a0m a2 e);unfold a0J;split
 . exact b.up i9
 . refine b.b3K.up ?_;have:(M3 t s n.a).2.length*(M3 t (M3 t s n.a).1 n.b).2.length≤64*64:=a5S a4 g;omega
theorem FoI.next(d:s8 t)(e:Sm t){s0 s:J2}{w:By}{B:BM}{ns:List Nd}{j:Nat}(h:FoI t s0 s w B ns j)(f:∀n∈ns,NS t s0.1 w n)(hj:j<ns.length):FoI t s0 (a0J t s B ns[j]).1 w (a0J t s B ns[j]).2 ns (j+1):=by
 have b:NS t s.1 w ns[j]:=(f _ (B7 hj)).mono h.pre;obtain⟨f1,f2,f3,f4,_,f6⟩:=c8f d e h.hs (B:=B) b;refine⟨f1,h.pre.trans f2,fun c m hm=>?_,fun n a=>?_,?_⟩
 . rcases f4 c m hm with g|g
   . exact⟨(h.snd c m g).1.mono f2,(h.snd c m g).2⟩
   . exact g
 . rw[L3,m7 hj]at a;rcases I4.1 a with a|a
   . exact(h.fol n a).mono ((f n (b1N a)).mono h.pre) f2 f3
   . simp only[a9G,H5]at a;subst a;intro c p q l hb o r g1 g2 g3 g4;obtain⟨u,v,x,y,i,k,_⟩:=b;rw[a0m f2 i]at g1;cases g1;rw[a0m f2 k]at g2;cases g2
     grind
 . have:=c8H d e h.hs b h.bd;omega
structure CI(t:j9)(Hs:List Hf)(Q:Nd→Prop)(B:BM)(d c0:Nat)(F:FT)(next:List O6)(c:Nat):Prop where
 sr:SrI t Hs F fun n=>Q n∨∃g∈next,n∈gn g
 hd:∀c':UInt8,c'.toNat<c→∀m∈D3 B c',Hdl F m
 nx:∀g∈next,GOk t Hs F (d+1) g∧(gn g).length≤L8 F
 ct:c0+next.length≤L8 F
structure NI(t:j9)(Hs:List Hf)(Q:Nd→Prop)(B:BM)(d c0:Nat)(next:List O6)(w:By)(c:UInt8)(L:List Nd)(F:FT)(nodes:List Nd)(j:Nat):Prop where
 sr:SrI t Hs F fun n=>(Q n∨∃g∈next,n∈gn g)∨n∈nodes
 hd:∀c':UInt8,c'.toNat<c.toNat→∀m∈D3 B c',Hdl F m
 hj:∀m∈L.take j,Hdl F m
 nx:∀g∈next,GOk t Hs F (d+1) g∧(gn g).length≤L8 F
 nd:∀m∈nodes,NS t Hs (w++[c]) m∧Rec F m
 ct:c0+next.length+nodes.length≤L8 F
theorem CI.enter{Hs:List Hf}{Q:Nd→Prop}{B:BM}{d c0:Nat}{F:FT}{next:List O6}{c:UInt8}(h:CI t Hs Q B d c0 F next c.toNat)(w:By)(L:List Nd):NI t Hs Q B d c0 next w c L F [] 0:=
 ⟨h.sr.mono fun n _ hp=>.inl (.inl hp),h.hd,fun m hm=>(by simp at hm),h.nx,fun m hm=>(by cases hm),by simpa using h.ct⟩
theorem b9N{α:Type}{L:List α}{j:Nat}(hj:j<L.length){m:α}(hm:m∈L.take (j+1)):m∈L.take j∨m=L[j]:=by
 rw[L3,m7 hj]at hm
 grind
theorem NI.skip{Hs:List Hf}{Q:Nd→Prop}{B:BM}{d c0:Nat}{F:FT}{next:List O6}{w:By}{c:UInt8}{L nodes:List Nd}{j:Nat}(h:NI t Hs Q B d c0 next w c L F nodes j)(hj:j<L.length)(hb:(Y5 F L[j]).1=false):
 (Y5 F L[j]).2=F∧NI t Hs Q B d c0 next w c L F nodes (j+1):=by
 unfold Y5 at hb⊢;split at hb
 . rename_i a;rw[if_pos a];exact⟨rfl,h.sr,h.hd,fun m hm=>(b9N hj hm).elim (h.hj m) fun e=>by rw[e];exact c2g h.sr a,h.nx,h.nd,h.ct⟩
 . cases hb
theorem NI.add{Hs:List Hf}{Q:Nd→Prop}{B:BM}{d c0:Nat}{F:FT}{next:List O6}{w:By}{c:UInt8}{L nodes:List Nd}{j:Nat}(h:NI t Hs Q B d c0 next w c L F nodes j)(hj:j<L.length)(hb:(Y5 F L[j]).1=true)(a:NS t Hs (w++[c]) L[j]∧L[j].a≤L[j].b)(i:¬Cls t Hs L[j]):
 NI t Hs Q B d c0 next w c L (Y5 F L[j]).2 (nodes++[L[j]]) (j+1):=by
 have hle:=FLe.rec F L[j];unfold Y5 at hb hle⊢;split at hb
 . cases hb
 . rename_i b;rw[if_neg b]at hle⊢;simp only at hle⊢;have l:L8 (Y9 F (L[j]).k (L[j]).l)=L8 F+1:=b2H _ _ _;refine⟨(c6W h.sr a.1 a.2 i b).mono fun m _ hm=>?_,fun c' k m hm=>hle.hdl (h.hd c' k m hm),fun m hm=>(b9N hj hm).elim (fun g=>hle.hdl (h.hj m g)) fun e=>by rw[e];exact .inl b7D,fun g f=>⟨(h.nx g f).1.mono (a5g _) hle,by have:=(h.nx g f).2;omega⟩,fun m hm=>?_,?_⟩
   . grind
   . rcases I4.1 hm with hm|hm
     . exact⟨(h.nd m hm).1,hle _ _ (h.nd m hm).2⟩
     . rw[H5]at hm;subst hm;exact⟨a.1,b7D⟩
   . rw[a0D,b1M];have:=h.ct;omega
theorem b0h(F:FT)(n:Nd):L8 F≤L8 (Y5 F n).2:=by
 unfold Y5;split
 . exact m9 _
 . show L8 F≤L8 (Y9 F n.k n.l);rw[b2H];omega
theorem c4c{c c':UInt8}(h:c'.toNat<c.toNat+1):c'.toNat<c.toNat∨c'=c:=by
 rcases a5O c'.toNat c.toNat with g|g
 . exact .inl g
 . exact .inr (a6N.1 i9)
theorem NI.leave{Hs Hs0:List Hf}{Q:Nd→Prop}{B:BM}{d c0:Nat}{F F0:FT}{next:List O6}{c:UInt8}{g:O6}{nodes:List Nd}(b:GOk t Hs0 F0 d g)(h:NI t Hs Q B d c0 next (Y6 g) c (D3 B c) F nodes (D3 B c).length):
 CI t Hs Q B d c0 F (if nodes=[]then next else next++[(nodes,c)::g]) (c.toNat+1):=by
 have hj:=h.hj;rw[M4]at hj;have hd:∀c':UInt8,c'.toNat<c.toNat+1→∀m∈D3 B c',Hdl F m:=fun c' i m hm=>by
  rcases c4c i with g1|rfl
  . exact h.hd c' g1 m hm
  . exact hj m hm
 split
 . rename_i he;subst he;exact⟨h.sr.mono fun n _ hp=>.inl (hp.elim id fun e=>by cases e),hd,h.nx,by have:=h.ct;omega⟩
 . rename_i he;have j:0<nodes.length:=a2p.2 he;refine⟨h.sr.mono fun n _ hp=>.inl ?_,hd,fun f a=>?_,?_⟩
   . rcases hp with(hp|⟨f,h1,k⟩)|hp
     . exact .inl hp
     . grind
     . exact .inr ⟨(nodes,c)::g,l5,hp⟩
   . rcases I4.1 a with a|a
     . exact h.nx f a
     . rw[H5]at a;subst a;refine⟨⟨by rw[a0a,b.1],fun m hm=>?_⟩,?_⟩
       . rw[b.word];exact h.nd m hm
       . have:=h.ct;show nodes.length≤_;omega
   . rw[a0D,b1M];have:=h.ct;omega
theorem Stp.cell(b:s8 t){h h':Hf}{c:UInt8}{p:By}(hb:HfB t h)(hs:Stp t h c p h'):c.toNat<63:=by
 have key:∀r∈t.rules,∀c∈cb r.cells,c.toNat<63:=fun r hr c d=>by unfold cb at d;obtain⟨k,f,rfl⟩:=E5.1 d;have:=b4H b hr f;rw[ofNat_toNat i9];exact this
 rcases hs with⟨h1,_,_⟩|⟨_,a,g,h1,_,_⟩
 . have hm:=hb.2;rw[h1]at hm;rcases a0p.1 hm with e|e
   . cases e
   . obtain⟨r,hr,e⟩:=a4a.1 e;refine key r hr c ?_;rcases a0p.1 e with e|e
     . exact List.mem_of_mem_drop (by rw[←e];exact a3v)
     . exact List.mem_of_mem_drop (by rw[←H5.1 e];exact a3v)
 . obtain⟨l1,_,_,_⟩:=a4t b hb.1 g;have e:cls t a.1=t.rules[a.1].cells:=by unfold cls;rw[u9,m7 l1];rfl
   grind
theorem CI.done(k:s8 t){s:J2}(hi:HSI t s){Q:Nd→Prop}{B:BM}{d c0:Nat}{F:FT}{next:List O6}{ns:List Nd}(h:CI t s.1 Q B d c0 F next 63)(l:∀n∈ns,a7Z t s.1 B n){Q':Nd→Prop}(m:∀n,Q n→Q' n∨n∈ns):CI t s.1 Q' B d c0 F next 0:=by
 refine⟨h.sr.mono fun n w hp=>?_,fun c' x=>i9,h.nx,h.ct⟩;rcases hp with hp|hp
 . rcases m n hp with hp|hp
   . exact .inl (.inl hp)
   . right
     intro c p q f hb o r h1 u g v;obtain⟨i,j,a,b,e⟩:=l n hp c p q f hb o r h1 u g v;exact⟨i,j,a,b,h.hd c (g.cell k (hi.hb f (D4 h1))) _ e⟩
 . exact .inl (.inr hp)
theorem b7H(a:s8 t){Hs:List Hf}{w:By}{n:Nd}(d:NS t Hs w n)(f:Cls t Hs n):∃x y,T8 t (w.map UInt8.toNat) x∧T8 t (w.map UInt8.toNat) y∧x≠y:=by obtain⟨u,v,o,hb,g,h,i,j,k⟩:=d;obtain⟨h1,p,q,b,c,l,m⟩:=f;rw[g]at b;cases b;rw[h]at c;cases c;exact⟨u,v,i.lng a l,j.lng a m,fun e=>h1 (by rw[k,a5o];exact e)⟩
end
section
variable{t:j9}
def ShR(t:j9)(x:RX)(r:PV)(h:l7):Prop:=((r=.tup [.nils,B false]∧¬Two t)∨∃(w:By) (g:Nat),r=.tup [.own 15 g w.length 1 0 w.length,B true]∧h[15]?=some (g,.arr 1 0 false (w.map UB))∧w.length≤260128513∧∃a b,T8 t (w.map UInt8.toNat) a∧T8 t (w.map UInt8.toNat) b∧a≠b)∧h.take 3=[x.c0,x.c1,x.c2]
theorem c3j{t:j9}(h:¬Live t start):¬Two t:=fun⟨_,_,_,⟨q,a,h1,b,_,_⟩,_,_⟩=>h ⟨q,a,h1,b⟩
theorem HSI.root(b:s8 t):HSI t ([⟨0,[]⟩],[none]):=by
 refine⟨l5,fun h a=>?_,rfl,fun n L h h1 c=>?_⟩
 . rw[H5]at a;subst a;exact HfB.root b
 . grind
def stN:Nd:=⟨0,0,⟨0,[]⟩⟩
def a4m:FT:=[((0,0),[⟨0,[]⟩])]
theorem SrI.root:SrI t [⟨0,[]⟩] a4m fun n=>n=stN:=by
 have d:∀n,Rec a4m n→n=stN:=fun n c=>by
  obtain⟨a,b,l⟩:=n;unfold Rec a4m at c;rw[a4p]at c;split at c
  . rename_i e;have g:0=a:=congrArg Prod.fst e;have h:0=b:=congrArg Prod.snd e;have f:=H5.1 c;simp only at f;rw[←g,←h,f];rfl
  . cases c
 refine⟨fun n c=>?_,fun n c=>.inl (d n c),by simp[a4m],fun e he=>?_,fun e he=>?_,rfl,?_⟩
 . rw[d n c];exact⟨⟨[],[],[],⟨0,[]⟩,⟨0,[]⟩,rfl,rfl,⟨rfl,rfl⟩,⟨rfl,rfl⟩,rfl⟩,fun i=>i.1 rfl⟩
 . rw[a4m,H5]at he;subst he;simp
 . rw[a4m,H5]at he;subst he;simp
 . unfold Rec a4m;rw[a4p];simp
theorem HP.C5(a:s8 t):∀{w:By} {h:Hf} {p:By} {h':Hf},HP t h w p h'→p.length≤4*w.length
 | [],h,p,h',hp=>by obtain⟨rfl,rfl⟩:=hp;simp
 |c::w,h,p,h',hp=>by
  obtain⟨d,h1,e,b,a2,rfl⟩:=hp;have:=b.C5 a;have:=HP.C5 a a2
  grind
theorem NS.b8B(a:s8 t){Hs:List Hf}{w:By}{n:Nd}(h:NS t Hs w n):n.l.x.length≤8*w.length∧n.l.s≤3:=by obtain⟨u,v,d,hb,_,_,h1,b,c⟩:=h;have e:=h1.C5 a;have f:=b.C5 a;have g:=b6z u v;rw[c];exact⟨i9,b2f u v⟩
theorem a8W:∀g:O6,(Y6 g).length=g.length-1
 | []=>rfl
 | [_]=>rfl
 |(_,c)::g::gs=>by rw[Y6,a0D,a8W (g::gs)];simp
structure Kp(x y:RX):Prop where
 a:y.l.take 3=x.l.take 3
 d:y.c24.2=.dead
theorem Kp.of{x y z:RX}(h:Kp x y)(e:a0s z.l=a0s y.l):Kp x z:=by
 simp[a0s,RX.l]at e;refine⟨?_,?_⟩
 . have:=h.a;simp[RX.l]at this⊢;simp[e,this]
 . rw[show z.c24=y.c24 from by simp[e]];exact h.d
theorem Kp.of2{x y z:RX}(h:Kp x y)(e:{z with K4:=y.K4}.l.take 15=y.l.take 15)(hd:z.c24.2=.dead):Kp x z:=by simp[RX.l]at e;refine⟨?_,hd⟩;have:=h.a;simp[RX.l]at this⊢;simp[e,this]
@[simp ↓] theorem d2h(lk:E1)(g:O6):fzC lk (GP g)=GP g:=by cases g<;>rfl
@[simp ↓] theorem d2p(g:O6):A9 (GP g)=true:=by cases g<;>rfl
@[simp ↓] theorem d1k(g:O6):l9 (GP g)=[GP g]:=by cases g<;>rfl
@[simp ↓] theorem d2B(g:O6):one (GP g)=true:=by cases g<;>rfl
@[simp ↓] theorem c2L(g:O6):B4 (GP g)=GP g:=by cases g<;>rfl
@[simp ↓] theorem c4m(g:O6):D5 (GP g)=true:=by cases g<;>rfl
theorem c7j(L:List O6):∀x,x∈L.map GP→D5 x=true:=fun x a=>by obtain⟨g,_,rfl⟩:=E5.1 a;exact c4m g
@[simp ↓] theorem d2m(L:List O6):(L.map GP).all D5=true:=B0.2 (c7j L)
@[simp] theorem d2T(L:List O6):List.map (B4∘GP) L=L.map GP:=K3 fun g _=>c2L g
theorem b1f{y z:RX}(e:a0s z.l=a0s y.l):z.K4=y.K4∧z.K5=y.K5∧z.c14=y.c14∧z.c15=y.c15∧z.c17=y.c17∧z.T4=y.T4:=by simp[a0s,RX.l]at e;simp[e]
structure WV where
 (w6 w7 w8 w9 w10 w11 w13 w14 w15 w16 w17 w18 w19 w20 w21 w22 w23 w24 w25 w26 w27 w28 w29 w30:PV)
abbrev VSL(g8:Nat)(v4:PV)(w:WV):List PV:=[.ptr 5 1 0,.nils,.bool false,.ptr 8 g8 0,v4,.mapv 11 1,w.w6,w.w7,w.w8,w.w9,w.w10,w.w11,.bool false,w.w13,w.w14,w.w15,w.w16,w.w17,w.w18,w.w19,w.w20,w.w21,w.w22,w.w23,w.w24,w.w25,w.w26,w.w27,w.w28,w.w29,w.w30]
def LVr(v4:PV)(x:RX)(layer:List O6):Prop:=v4=.slc (layer.map GP)∨∃g10 g9,v4=.own 10 g10 1 1 0 1∧x.c10=(g10,.arr 1 0 false [.ptr 9 g9 0])∧x.c9=(g9,.var [.slc [NQ stN],.lit (.pointer none),.int .u8 0])∧layer=[[([stN],0)]]
structure RLs where
 (s:J2)
 (F:FT)
 (v7:Nat)
 (layer:List O6)
 (d:Nat)
 (x:RX)
 (v4:PV)
 (w:WV)
structure a5y(t:j9)(s:J2)(F:FT)(layer:List O6)(d:Nat):Prop where
 hs:HSI t s
 sr:SrI t s.1 F fun n=>∃g∈layer,n∈gn g
 ok:∀g∈layer,GOk t s.1 F d g∧(gn g).length≤L8 F
 len:layer.length≤L8 F
 dep:layer≠ []→d+1≤L8 F
theorem a5y.root(c:s8 t):a5y t ([⟨0,[]⟩],[none]) a4m [[([stN],0)]] 0:=by refine⟨HSI.root c,SrI.root.mono fun n _ e=>.inl ⟨_,H5.2 rfl,by rw[e];exact H5.2 rfl⟩,fun g b=>?_,m9 _,fun _=>m9 _⟩;rw[H5]at b;subst b;refine⟨⟨rfl,fun n a=>?_⟩,m9 _⟩;have a:n∈[stN]:=a;rw[H5]at a;subst a;exact⟨⟨[],[],⟨0,[]⟩,⟨0,[]⟩,rfl,rfl,⟨rfl,rfl⟩,⟨rfl,rfl⟩,rfl⟩,(SrI.root (t:=t)).rt⟩
structure RGp where
 (k:Nat)
 (s:J2)
 (F:FT)
 (v7:Nat)
 (next:List O6)
 (x:RX)
 (w:WV)
structure GrI(t:j9)(layer:List O6)(d c0 k:Nat)(s:J2)(F:FT)(next:List O6):Prop where
 hs:HSI t s
 ci:CI t s.1 (fun n=>∃g∈layer.drop k,n∈gn g) [] d c0 F next 0
 ok:∀g∈layer.drop k,GOk t s.1 F d g∧(gn g).length≤L8 F
theorem a5y.enter{s:J2}{F:FT}{layer:List O6}{d:Nat}(h:a5y t s F layer d):GrI t layer d (L8 F) 0 s F []:=
 ⟨h.hs,⟨h.sr.mono fun n _ hp=>.inl (.inl (by grind)),fun c b=>absurd b (a7S _),fun g a=>(by cases a),m9 _⟩,fun g a=>h.ok g (by grind)⟩
theorem CI.start{Hs Hs':List Hf}{Q:Nd→Prop}{B B':BM}{d c0:Nat}{F:FT}{next:List O6}(hp:Hs<+:Hs')(h:CI t Hs Q B d c0 F next 0):CI t Hs' Q B' d c0 F next 0:=
 ⟨h.sr.pre hp,fun c b=>absurd b (a7S _),fun g a=>⟨(h.nx g a).1.mono hp fun _ _ x=>x,(h.nx g a).2⟩,h.ct⟩
def BSQ(B:BM):List PV:=B.map fun e=>.slc (e.2.map NQ)
@[simp] theorem d2W(B:BM):(BVQ B).map K8=BSQ B:=by unfold BVQ BSQ;rw[a1w];exact K3 fun _ _=>rfl
@[simp ↓] theorem d1J(B:BM):(BVQ B).all mvS=true:=B0.2 fun x a=>by obtain⟨e,_,rfl⟩:=E5.1 a;rfl
@[simp] theorem d1o(B:BM):(BSQ B).length=B.length:=by simp[BSQ]
theorem b9G{B:BM}{c:UInt8}{i:Nat}(a:(B.map (·.1)).idxOf? c=some i):∃hi:i<B.length,(BSQ B)[i]'(by simpa using hi)=.slc ((D3 B c).map NQ):=by obtain⟨hi,h1,_⟩:=a7X (l:=stN) a;refine⟨hi,?_⟩;simp[BSQ,h1]
structure RFo where
 (j:Nat)
 (s:J2)
 (v7:Nat)
 (B:BM)
 (x:RX)
 (w8 w21:PV)
structure RCl where
 (c:Nat)
 (F:FT)
 (next:List O6)
 (x:RX)
 (w6 w9 w10 w11 w23 w24 w25 w26 w27 w28 w29 w30:PV)
structure RNo where
 (j:Nat)
 (F:FT)
 (nodes:List Nd)
 (x:RX)
 (tvn w11 w27 w28 w29:PV)
theorem c9x(t:j9)(I:s8 t)(Z:Sm t)(x:RX)(cc:x.c24.2=.dead)(cM:x.K4=dd):∃r ws,ShR t x r (p8 (SH t ([],[]) [] 0 x) ws)∧FI Tryz.prog (.fn (.func 53) [] []) [.ptr 5 1 0] (SH t ([],[]) [] 0 x) r ws:=by
 refine a7F (φ:=fun r h=>ShR t x r h) mixed (X:=X53) c53 (by rfl) (first:=[]) (cap:=[]) (args:=[.ptr 5 1 0]) (h0:=SH t ([],[]) [] 0 x) (by simp[X53]) l5 (by kernel_rfl) fun Q aN cN=>?_;by_cases C:Live t start
 . obtain⟨w1,bo,bp,bq,_,aa⟩:=b4e t ([],[]) [] 0 x ⟨0,[]⟩ l5 rfl;have aO:S9 ([],[]) ⟨0,[]⟩=(0,([⟨0,[]⟩],[none])):=rfl;rw[aO]at bp bq;obtain⟨w2,ay,br,bs,_,bt⟩:=b4e t ([⟨0,[]⟩],[none]) [] 0 bo ⟨0,[]⟩ l5 rfl;have K:S9 ([⟨0,[]⟩],[none]) ⟨0,[]⟩=(0,([⟨0,[]⟩],[none])):=rfl;rw[K]at br bs;obtain⟨w3,az,b9,ca,bu⟩:=b3I t ([⟨0,[]⟩],[none]) [] 0 {ay with c8:=(ay.c8.1+1,.var [IN 0,IN 0,IN 0,St []])} ⟨0,0,⟨0,[]⟩⟩ l5;simp[X53,SH,C];refine a2Q (bp x rfl rfl rfl) bq rfl ?_;simp;refine a2Q (br bo rfl rfl rfl) bs rfl ?_;simp[SH];refine a2Q b9 ca rfl ?_;have cd:(Y5 [] ⟨0,0,⟨0,[]⟩⟩).2=a4m:=rfl;rw[cd];have bv:=bu;simp[a0s,RX.l]at bv;have bw:Kp x bo:=⟨by have:=congrArg (fun z:RX=>z.l.take 3) aa;exact this,by have:=congrArg (fun z:RX=>z.c24.2) aa;exact Eq.trans this cc⟩
   have bx:Kp x ay:=⟨by have:=congrArg (fun z:RX=>z.l.take 3) bt;exact Eq.trans this bw.a,by have:=congrArg (fun z:RX=>z.c24.2) bt;exact Eq.trans this bw.d⟩
   have Y:az.K4=dd:=(by grind);have bz:Kp x az:=Kp.of (y:={ay with c8:=(ay.c8.1+1,.var [IN 0,IN 0,IN 0,St []])}) ⟨bx.a,bx.d⟩ bu;simp[SH,bv.2.2.2.1,Y];refine E3 (fun(y:RLs) vs h=>a5y t y.s y.F y.layer y.d∧Kp x y.x∧LVr y.v4 y.x y.layer∧(∃ks vs,y.x.K4=(1,.mp false ks vs))∧vs=VSL (ay.c8.1+1) y.v4 y.w∧h=SH t y.s y.F y.v7 y.x) (fun y=>2*(260128513-L8 y.F)+(if y.layer=[]then 0 else 1))
    ⟨([⟨0,[]⟩],[none]),a4m,0,[[([stN],0)]],0,{az with c8:=(ay.c8.1+1,.var [IN 0,IN 0,IN 0,St []]),c9:=(az.c9.1+1,.var [.slc [NQ stN],.lit (.pointer none),.int .u8 0]),c10:=(az.c10.1+1,.arr 1 0 false [.ptr 9 (az.c9.1+1) 0]),K4:=(1,.mp false [] [])},.own 10 (az.c10.1+1) 1 1 0 1,⟨_,_,_,_,_,_,_,_,_,_,_,_,_,_,_,_,_,_,_,_,_,_,_,_⟩⟩
    ⟨a5y.root I,⟨bz.a,bz.d⟩,.inr ⟨_,_,rfl,rfl,rfl,rfl⟩,⟨[],[],rfl⟩,rfl,rfl⟩ ?_
   clear bu bv bw bx bz Y bp br b9 bq bs ca aa bt aO K;obtain⟨g8,ce⟩:=p7 (ay.c8.1+1);rw[←ce];rintro⟨s,F,v7,layer,d,cb,v4,⟨w6,w7,w8,w9,w10,w11,w13,w14,w15,w16,w17,w18,w19,w20,w21,w22,w23,w24,w25,w26,w27,w28,w29,w30⟩⟩ vs h ⟨ab,bh,aA,⟨ks,bi,bA⟩,rfl,rfl⟩ Q2 bj cf bk;dsimp only at ab bh aA bA;have cO:L8 F≤260128512:=a5V ab.sr.Z2 (a4A I Z ab.hs.nd ab.hs.hb);by_cases bl:layer=[]
   . subst bl;have cg:v4=.slc []:=by
      rcases aA with aA|⟨_,_,_,_,_,aA⟩
      . exact aA
      . cases aA
     subst cg;have P:¬Two t:=(ab.sr.mono fun n _ ⟨g,L,_⟩=>by cases L).fin I;simp[SH];refine cf _ _ _ ?_;simp;refine aN _ _ _ ⟨.inl ⟨rfl,P⟩,?_⟩ rfl ?_
     . have:=bh.a;exact this
     simp[U5,X53,a3i]
   . have ch:0<layer.length:=a2p.2 bl;rcases aA with rfl|⟨g10,g9,rfl,bB,ci,cj⟩
     . simp[SH,ch];refine E3 (fun(y:RGp) vs h=>GrI t layer d (L8 F) y.k y.s y.F y.next∧y.k≤layer.length∧Kp x y.x∧(∃ks vs,y.x.K4=(1,.mp false ks vs))∧OV 19 1 .nils y.w.w6 y.x.T4 (y.next.map GP)∧True∧
        vs=VSL g8 (.slc (layer.map GP)) {y.w with w13:=.bool true,w14:=.slc (layer.map GP),w15:=IN layer.length,w16:=IN y.k}∧h=SH t y.s y.F y.v7 y.x) (fun y=>layer.length-y.k)
        ⟨0,s,F,v7,[],cb,⟨_,_,_,_,_,_,.uu,.uu,.uu,.uu,_,_,_,_,_,_,_,_,_,_,_,_,_,_⟩⟩ ⟨ab.enter,D6 _,bh,⟨ks,bi,bA⟩,.inl ⟨rfl,rfl⟩,trivial,rfl,rfl⟩ ?_
       rintro⟨k,s1,F1,aj,next,T,⟨w6,w7,w8,w9,w10,w11,w13,w14,w15,w16,w17,w18,w19,w20,w21,w22,w23,w24,w25,w26,w27,w28,w29,w30⟩⟩ vs h ⟨q,z2,z3,⟨ks,bi,z4⟩,z5,bm,rfl,rfl⟩ Q3 bC bD aQ;dsimp only at q z2 z3 z4 z5 bm;have ck:L8 F1≤260128512:=a5V q.ci.sr.Z2 (a4A I Z q.hs.nd q.hs.hb);have cl:=ab.len;have cm:=ab.dep bl;by_cases bn:k<layer.length
       . have bE:=wk1 k i9;have bF:layer.drop k=layer[k]::layer.drop (k+1):=b4R bn;obtain⟨E,aB⟩:=q.ok layer[k] (by grind);obtain⟨ns,G,H,aP⟩:∃ns G H,layer[k]=(ns,G)::H:=by
          cases cn:layer[k]with
          |nil=>rw[cn]at E;cases E.1
          |cons a H=>exact⟨a.1,a.2,H,rfl⟩
         rw[aP]at E aB;obtain⟨g,L⟩:∃g,g=(ns,G)::H:=⟨_,rfl⟩
         rw[←L]at E aB;have bG:gn g=ns:=(by rw[L];rfl);rw[bG]at aB;have aR:∀n∈ns,NS t s1.1 (Y6 g) n:=fun n ak=>(E.2 n (by grind)).1;have co:(Y6 g).length=d:=(by rw[a8W,E.1];rfl);have aC:GP g=.fptr [.slc (ns.map NQ),GP H,.int .u8 G.toNat]:=(by rw[L];rfl);have cp:g≠ []:=(by rw[L];simp);have aS:l9 (GP g)=[GP g]:=(by rw[aC];rfl);have aT:one (GP g)=true:=(by rw[aC];rfl);simp[SH,bn,aP,z4];refine E3 (fun(y:RFo) vs h=>y.j≤ns.length∧FoI t s1 y.s (Y6 g) y.B ns y.j∧Kp x y.x∧y.x.K4=BR y.B∧OV 19 1 .nils w6 y.x.T4 (next.map GP)∧
          vs=VSL g8 (.slc (layer.map GP)) ⟨w6,GP g,y.w8,w9,w10,w11,.bool true,.slc (layer.map GP),IN layer.length,IN k,.bool true,.slc (ns.map NQ),IN ns.length,IN y.j,y.w21,w22,w23,w24,w25,w26,w27,w28,w29,w30⟩∧h=SH t y.s F1 y.v7 y.x) (fun y=>ns.length-y.j)
          ⟨0,s1,aj,[],{T with K4:=(1,.mp false [] [])},w8,w21⟩ ⟨D6 _,FoI.start q.hs _ _,⟨z3.a,z3.d⟩,rfl,z5,by rw[←aC];rfl,rfl⟩ ?_
         rintro⟨j,s2,v72,B,ac,w8,w21⟩ vs h ⟨bH,a2,a3,a4,a5,rfl,rfl⟩ Q4 bI bJ cq;dsimp only at bH a2 a3 a4 a5;by_cases hj:j<ns.length
         . have ad:=wk1 j i9;have ak:=(aR _ (B7 hj)).mono a2.pre;have bK:=ak.b8B I;obtain⟨n,aU⟩:=p7 (ns[j]);have aV:=a2.next I Z aR hj;rw[←aU]at ak bK aV;obtain⟨cr,p,bL,bM,bN,bO,aW,bP⟩:=b8N t I Z s2 a2.hs F1 v72 {ac with c12:=(ac.c12.1+1,.var [IN n.a,IN n.b,IN n.l.s,St n.l.x])} n (Y6 g) ak B (a2.bd.up i9) a4 a3.d i9;have aX:=aW;simp[RX.l]at aX;simp[SH,hj,←aU];refine a2Q bM bN rfl ?_;simp[ad];exact bI ⟨j+1,_,bL,_,p,_,_⟩ _ _ (by grind) ⟨s5,aV,Kp.of2 (y:={ac with c12:=(ac.c12.1+1,.var [IN n.a,IN n.b,IN n.l.s,St n.l.x])}) ⟨a3.a,a3.d⟩ aW bP,bO,by dsimp only;rw[aX.2.2.2.2.2.2.2.2.2.2.2.2.2];exact a5,rfl,rfl⟩
         . obtain rfl:j=ns.length:=i9;have aY:=a2.fol;rw[M4]at aY;simp[SH];refine bJ _ _ _ ?_;simp[SH,a4];refine E3 (fun(y:RCl) vs h=>y.c≤63∧CI t s2.1 (fun n=>∃g∈layer.drop k,n∈gn g) B d (L8 F) y.F y.next y.c∧Kp x y.x∧y.x.K4=(1,.mp false (BKQ B) (BSQ B))∧OV 19 1 .nils y.w6 y.x.T4 (y.next.map GP)∧FLe F1 y.F∧L8 F1≤L8 y.F∧
            vs=VSL g8 (.slc (layer.map GP)) ⟨y.w6,GP g,w8,y.w9,y.w10,y.w11,.bool true,.slc (layer.map GP),IN layer.length,IN k,.bool true,.slc (ns.map NQ),IN ns.length,IN ns.length,.bool false,.int .u8 y.c,y.w23,y.w24,y.w25,y.w26,y.w27,y.w28,y.w29,y.w30⟩∧h=SH t s2 y.F v72 y.x) (fun y=>63-y.c)
            ⟨0,F1,next,{ac with K4:=(1,.mp false (BKQ B) (BSQ B))},_,_,_,_,_,_,_,_,_,_,_,_⟩ ⟨D6 _,q.ci.start a2.pre,⟨a3.a,a3.d⟩,rfl,a5,fun _ _ h=>h,m9 _,rfl,rfl⟩ ?_
           rintro⟨c,F2,M,p,w6,w9,w10,w11,w23,w24,w25,w26,w27,w28,w29,w30⟩ vs h ⟨bQ,U,V,N,al,am,an,rfl,rfl⟩ Q5 ao bR aZ;dsimp only at bQ U V N al am an;have cs:L8 F2≤260128512:=a5V U.sr.Z2 (a4A I Z a2.hs.nd a2.hs.hb);have ct:=U.ct;by_cases a0:c<63
           . obtain⟨f,rfl⟩:∃f:UInt8,c=f.toNat:=⟨UInt8.ofNat c,(ofNat_toNat i9).symm⟩
             have ae:IntKind.u8.wrap ((f.toNat:Int)+1)=((f.toNat+1:Nat):Int):=b0c i9 i9;cases af:(B.map (·.1)).idxOf? f with
             |none=>
              have bS:D3 B f=[]:=(a9Z (l:=stN) af).2;have C:=NI.leave E (by rw[bS];exact U.enter (Y6 g) []);simp[SH,a0,af,ae,N,aS,aT];refine E3 (fun(_:Unit) vs h=>vs=VSL g8 (.slc (layer.map GP)) ⟨w6,GP g,w8,.int .u8 f.toNat,.ptr 13 (p.K5.1+1) 0,w11,.bool true,.slc (layer.map GP),IN layer.length,IN k,.bool true,.slc (ns.map NQ),IN ns.length,IN ns.length,.bool false,.int .u8 f.toNat,.bool true,.nils,IN 0,IN 0,w27,w28,w29,w30⟩∧h=SH t s2 F2 v72 {p with K5:=(p.K5.1+1,.var [.nils,GP g,.int .u8 f.toNat])}) (fun _=>0) () ?_ ?_
              . exact⟨rfl,by simp[SH,N]⟩
              rintro _ vs h1 ⟨rfl,rfl⟩ Q6 ap aD aE;simp[SH];refine aD _ _ _ ?_;simp[ae];rw[if_pos rfl]at C;exact ao ⟨f.toNat+1,F2,M,{p with K5:=(p.K5.1+1,.var [.nils,GP g,.int .u8 f.toNat])},w6,_,_,_,_,_,_,_,_,_,_,_⟩ _ _ (by grind) ⟨s5,C,⟨V.a,V.d⟩,N,al,am,an,rfl,rfl⟩
             |some i=>
              obtain⟨hi,bT⟩:=b9G af;have cu:(D3 B f).length≤4096*ns.length:=by obtain⟨bU,h1,_⟩:=a7X (l:=stN) af;have P:=(a2.bd _ (B7 bU)).2;rw[h1]at P;exact P
              simp[SH,a0,af,hi,bT,N,aS,aT];refine E3 (fun(y:RNo) vs h=>y.j≤(D3 B f).length∧NI t s2.1 (fun n=>∃g∈layer.drop k,n∈gn g) B d (L8 F) M (Y6 g) f (D3 B f) y.F y.nodes y.j∧FLe F1 y.F∧L8 F1≤L8 y.F∧Kp x y.x∧y.x.K4=(1,.mp false (BKQ B) (BSQ B))∧OV 19 1 .nils w6 y.x.T4 (M.map GP)∧
               y.x.K5=(p.K5.1+1,.var [y.tvn,GP g,.int .u8 f.toNat])∧OV 17 4 .nils y.tvn y.x.c17 (y.nodes.map NQ)∧vs=VSL g8 (.slc (layer.map GP)) ⟨w6,GP g,w8,.int .u8 f.toNat,.ptr 13 (p.K5.1+1) 0,y.w11,.bool true,.slc (layer.map GP),IN layer.length,IN k,.bool true,.slc (ns.map NQ),IN ns.length,IN ns.length,.bool false,.int .u8 f.toNat,.bool true,.slc ((D3 B f).map NQ),IN (D3 B f).length,IN y.j,y.w27,y.w28,y.w29,w30⟩∧h=SH t s2 y.F v72 y.x) (fun y=>(D3 B f).length-y.j)
               ⟨0,F2,[],{p with K5:=(p.K5.1+1,.var [.nils,GP g,.int .u8 f.toNat])},.nils,w11,w27,w28,w29⟩ ?_ ?_
              . exact⟨D6 _,U.enter _ _,am,an,⟨V.a,V.d⟩,N,al,rfl,.inl ⟨rfl,rfl⟩,rfl,by simp[SH,N]⟩
              rintro⟨j,F3,nodes,w,tvn,w11,w27,w28,w29⟩ vs h ⟨aO,K,R,S,J,ag,A,ah,o,rfl,rfl⟩ Q6 ap aD aE;dsimp only at aO K R S J ag A ah o;have cv:L8 F3≤260128512:=a5V K.sr.Z2 (a4A I Z a2.hs.nd a2.hs.hb);have cw:=K.ct;by_cases hj:j<(D3 B f).length
              . have ad:=wk1 j i9;obtain⟨m,hm⟩:=p7 ((D3 B f)[j]);obtain⟨aF,bV⟩:=a2.snd f _ (B7 hj);rw[←hm]at aF bV;obtain⟨cx,aG,bW,bX,a1⟩:=b3I t s2 F3 v72 {w with c14:=(w.c14.1+1,.var [IN m.a,IN m.b,IN m.l.s,St m.l.x])} m (fun e he=>(K.sr.tw e he).1);have a6:Kp x aG:=Kp.of (y:={w with c14:=(w.c14.1+1,.var [IN m.a,IN m.b,IN m.l.s,St m.l.x])}) ⟨J.a,J.d⟩ a1;obtain⟨Y,aq,ar,bY,a7,a8⟩:=b1f a1;dsimp only at Y aq ar bY a7 a8;rw[ag]at Y;rw[ah]at aq;rw[←a7]at o;rw[←a8]at A;simp[SH,hj,←hm];refine a2Q bW bX rfl ?_;cases cy:(Y5 F3 m).1 with
                |false=>
                 obtain⟨a9,bZ⟩:=K.skip hj (by grind);rw[←hm]at a9;rw[a9];simp[ad,SH];exact ap ⟨j+1,F3,nodes,aG,tvn,_,_,_,_⟩ _ _ (by grind) ⟨s5,bZ,R,S,a6,Y,A,aq,o,rfl,rfl⟩
                |true=>
                 obtain⟨u,v,ba,hb,bb,bc,_⟩:=id aF;obtain⟨c,cz,O,b0,b1,b2,bd⟩:=b5G t s2 (Y5 F3 m).2 v72 aG m ba hb bb bc (a2.hs.hb ba (D4 bb)).1 (a2.hs.hb hb (D4 bc)).1;have W:Kp x O:=Kp.of a6 bd;obtain⟨aH,r13,ai,cA,b3,b4⟩:=b1f bd;rw[Y]at aH;rw[aq]at r13;rw[←b3]at o;rw[←b4]at A;rw[ar]at ai;simp[SH,ar];refine a2Q b1 b2 (by simp[SH,ar]) ?_;cases c with
                 |true=>
                  have aI:=c0e ((nodes,f)::g) l5 (by simp only[a0a,E.1];omega);obtain⟨be,ty,aa,aJ,bf⟩:=b7H I aF (b0.1 rfl);rw[←E.word nodes f]at aa aJ;have cB:(Y6 ((nodes,f)::g)).length=d+1:=(by rw[a8W,a0a,E.1];rfl);rcases o with⟨rfl,o⟩|⟨g17,rfl,o,aK⟩
                  . obtain rfl:=a5h.1 o;rw[b5J,List.map_nil]at aI;simp[SH,r13,ai];refine m6 aI ?_;simp;refine aE _ _ ?_;simp;refine aZ _ _ ?_;simp;refine aQ _ _ ?_;simp;refine bk _ _ ?_;simp;refine aN _ _ _ ⟨.inr ⟨_,_,rfl,rfl,i9,be,ty,aa,aJ,bf⟩,W.a⟩ rfl ?_;simp[U5,X53,a3i]
                  . simp[SH,r13,ai,o];refine m6 aI ?_;simp;refine aE _ _ ?_;simp;refine aZ _ _ ?_;simp;refine aQ _ _ ?_;simp;refine bk _ _ ?_;simp;refine aN _ _ _ ⟨.inr ⟨_,_,rfl,rfl,i9,be,ty,aa,aJ,bf⟩,W.a⟩ rfl ?_;simp[U5,X53,a3i]
                 |false=>
                  have au:=K.add hj (by grind) (by grind) (by grind);rw[←hm]at au;rcases o with⟨rfl,o⟩|⟨g17,rfl,o,aK⟩
                  . obtain rfl:=a5h.1 o;simp[SH,r13,ai,ad];exact ap ⟨j+1,(Y5 F3 m).2,[m],{O with K5:=(p.K5.1+1,.var [.own 17 (O.c17.1+1) 1 4 0 1,GP g,.int .u8 f.toNat]),c14:=(w.c14.1+1,.var [IN m.a,IN m.b,IN m.l.s,St m.l.x]),c16:=(O.c16.1+1,.dead),c17:=(O.c17.1+1,.arr 4 0 false [NQ m])},.own 17 (O.c17.1+1) 1 4 0 1,_,_,_,_⟩ _ _ (by grind) ⟨s5,au,fun a b h=>FLe.rec _ _ a b (R a b h),V1 S (b0h _ _),⟨W.a,W.d⟩,aH,A,rfl,.inr ⟨_,rfl,rfl,l5⟩,rfl,rfl⟩
                  . obtain⟨D,aL⟩:=p7 (nodes++[m]);have f1:nodes.map NQ++[NQ m]=D.map NQ:=(by grind);have f2:nodes.length+1=D.length:=(by rw[aL];simp);have f3:D.length*40≤140737488355328:=i9;have f4:D≠ []:=(by rw[aL];simp);rw[←aL]at au;simp[SH,r13,ai,o,ad,f1,f2,f3];exact ap ⟨j+1,(Y5 F3 m).2,D,{O with K5:=(p.K5.1+1,.var [.own 17 g17 D.length 4 0 D.length,GP g,.int .u8 f.toNat]),c14:=(w.c14.1+1,.var [IN m.a,IN m.b,IN m.l.s,St m.l.x]),c16:=(O.c16.1+1,.dead),c17:=(g17,.arr 4 0 false (D.map NQ))},.own 17 g17 D.length 4 0 D.length,_,_,_,_⟩ _ _ (by grind) ⟨s5,au,fun a b h=>FLe.rec _ _ a b (R a b h),V1 S (b0h _ _),⟨W.a,W.d⟩,aH,A,rfl,.inr ⟨g17,by rw[N5],rfl,by simp[f4]⟩,rfl,rfl⟩
              . obtain rfl:j=(D3 B f).length:=i9;have C:=NI.leave E K;simp[SH];refine aD _ _ _ ?_;rcases o with⟨rfl,o⟩|⟨g17,rfl,o,aK⟩
                . obtain rfl:=a5h.1 o;rw[if_pos rfl]at C;simp[ah,ae];exact ao ⟨f.toNat+1,F3,M,{w with K5:=(p.K5.1+1,.var [.nils,GP g,.int .u8 f.toNat])},w6,_,_,_,_,_,_,_,_,_,_,_⟩ _ _ (by grind) ⟨s5,C,⟨J.a,J.d⟩,ag,A,R,S,rfl,rfl⟩
                . have av:nodes≠ []:=fun h=>aK (by rw[h];rfl);have aM:0<nodes.length:=a2p.2 av;rw[if_neg av]at C;subst L;rcases A with⟨rfl,A⟩|⟨g19,rfl,A,cC⟩
                  . obtain rfl:=a5h.1 A;simp[ah,o,ae,aM];exact ao ⟨f.toNat+1,F3,[(nodes,f)::(ns,G)::H],{w with K5:=(p.K5.1+1,.dead),c17:=(g17,.arr 4 1 true (nodes.map NQ)),c18:=(w.c18.1+1,.dead),T4:=(w.T4.1+1,.arr 1 0 false [GP ((nodes,f)::(ns,G)::H)])},.own 19 (w.T4.1+1) 1 1 0 1,_,_,_,_,_,_,_,_,_,_,_⟩ _ _ (by grind) ⟨s5,C,⟨J.a,J.d⟩,ag,.inr ⟨_,rfl,rfl,l5⟩,R,S,rfl,rfl⟩
                  . obtain⟨nx,aw⟩:∃nx,nx=M++[(nodes,f)::(ns,G)::H]:=⟨_,rfl⟩
                    have f1:M.map GP++[.fptr [.slc (nodes.map NQ),.fptr [.slc (ns.map NQ),GP H,.int .u8 G.toNat],.int .u8 f.toNat]]=nx.map GP:=(by rw[aw,Q9];rfl);have f2:M.length+1=nx.length:=(by rw[aw];simp);have f3:nx.length*8≤140737488355328:=i9;have f4:nx≠ []:=(by rw[aw];simp);rw[←aw]at C;simp[ah,o,A,ae,aM,f1,f2,f3];exact ao ⟨f.toNat+1,F3,nx,{w with K5:=(p.K5.1+1,.dead),c17:=(g17,.arr 4 1 true (nodes.map NQ)),c18:=(w.c18.1+1,.dead),T4:=(g19,.arr 1 0 false (nx.map GP))},.own 19 g19 nx.length 1 0 nx.length,_,_,_,_,_,_,_,_,_,_,_⟩ _ _ (by grind) ⟨s5,C,⟨J.a,J.d⟩,ag,.inr ⟨g19,by rw[N5],rfl,by simp[f4]⟩,R,S,rfl,rfl⟩
           . obtain rfl:c=63:=i9;have b5:=U.done I a2.hs (ns:=ns) aY (Q':=fun n=>∃g∈layer.drop (k+1),n∈gn g) fun n ⟨ax,h1,P⟩=>by
              rw[bF]at h1;rcases a0p.1 h1 with h1|h1
              . rw[h1,aP]at P;exact .inr P
              . exact .inl ⟨ax,h1,P⟩
             simp[SH];refine bR _ _ _ ?_;simp[bE];exact bC ⟨k+1,s2,F2,v72,M,p,⟨w6,_,_,_,_,_,.uu,.uu,.uu,.uu,_,_,_,_,_,_,_,_,_,_,_,_,_,_⟩⟩ _ _ (by grind) ⟨⟨a2.hs,b5.start (a5g _),fun ax cD=>⟨(q.ok ax (by grind)).1.mono a2.pre am,V1 (q.ok ax (by grind)).2 an⟩⟩,s5,V,⟨_,_,N⟩,al,trivial,rfl,rfl⟩
       . obtain rfl:k=layer.length:=i9;have cE:=q.ci.ct;simp[SH];refine bD _ _ _ ?_;have bg:a5y t s1 F1 next (d+1):=⟨q.hs,q.ci.sr.mono fun n _ hp=>.inl (hp.elim (fun⟨g,L,_⟩=>by simp at L) id),q.ci.nx,i9,fun b6=>by have:=a2p.2 b6;omega⟩
         rcases z5 with⟨rfl,z5⟩|⟨g19,rfl,z5,b7⟩
         . obtain rfl:=a5h.1 z5;simp[-W8];exact bj ⟨s1,F1,aj,[],d+1,{T with T4:=(T.T4.1,W8 (SH t s1 F1 aj T) true T.T4.2)},.slc [],⟨_,_,_,_,_,_,_,_,_,_,_,_,_,_,_,_,_,_,_,_,_,_,_,_⟩⟩ _ _ (by grind) ⟨bg,⟨z3.a,z3.d⟩,.inl rfl,⟨_,_,z4⟩,rfl,rfl⟩
         . have av:next≠ []:=fun h=>b7 (by rw[h];rfl)
           have aM:0<next.length:=a2p.2 av
           simp[z5];exact bj ⟨s1,F1,aj,next,d+1,{T with T4:=(g19,.arr 1 1 true (next.map GP))},.slc (next.map GP),⟨_,_,_,_,_,_,_,_,_,_,_,_,_,_,_,_,_,_,_,_,_,_,_,_⟩⟩ _ _ (by grind) ⟨bg,⟨z3.a,z3.d⟩,.inl rfl,⟨_,_,z4⟩,rfl,rfl⟩
     . simp[SH,bB];have cF:layer.length=1:=(by rw[cj];rfl);refine E3 (fun(y:RGp) vs h=>GrI t layer d (L8 F) y.k y.s y.F y.next∧y.k≤layer.length∧Kp x y.x∧(∃ks vs,y.x.K4=(1,.mp false ks vs))∧OV 19 1 .nils y.w.w6 y.x.T4 (y.next.map GP)∧(y.k=0→y.x.c10=(g10,.arr 1 0 false [.ptr 9 g9 0])∧y.x.c9=(g9,.var [.slc [NQ stN],.lit (.pointer none),.int .u8 0]))∧
        vs=VSL g8 (.own 10 g10 1 1 0 1) {y.w with w13:=.bool true,w14:=.own 10 g10 1 1 0 1,w15:=IN 1,w16:=IN y.k}∧h=SH t y.s y.F y.v7 y.x) (fun y=>layer.length-y.k)
        ⟨0,s,F,v7,[],cb,⟨_,_,_,_,_,_,.uu,.uu,.uu,.uu,_,_,_,_,_,_,_,_,_,_,_,_,_,_⟩⟩ ⟨ab.enter,D6 _,bh,⟨ks,bi,bA⟩,.inl ⟨rfl,rfl⟩,fun _=>⟨bB,ci⟩,rfl,by dsimp only[SH];rw[bB]⟩ ?_
       rintro⟨k,s1,F1,aj,next,T,⟨w6,w7,w8,w9,w10,w11,w13,w14,w15,w16,w17,w18,w19,w20,w21,w22,w23,w24,w25,w26,w27,w28,w29,w30⟩⟩ vs h ⟨q,z2,z3,⟨ks,bi,z4⟩,z5,bm,rfl,rfl⟩ Q3 bC bD aQ;dsimp only at q z2 z3 z4 z5 bm;have ck:L8 F1≤260128512:=a5V q.ci.sr.Z2 (a4A I Z q.hs.nd q.hs.hb);have cl:=ab.len;have cm:=ab.dep bl;by_cases bn:k<layer.length
       . have bE:=wk1 k i9;have bF:layer.drop k=layer[k]::layer.drop (k+1):=b4R bn;obtain⟨E,aB⟩:=q.ok layer[k] (by grind);obtain⟨ns,G,H,aP⟩:∃ns G H,layer[k]=(ns,G)::H:=(by grind);rw[aP]at E aB;obtain⟨g,L⟩:∃g,g=(ns,G)::H:=⟨_,rfl⟩
         rw[←L]at E aB;have bG:gn g=ns:=(by rw[L];rfl);rw[bG]at aB;have aR:∀n∈ns,NS t s1.1 (Y6 g) n:=fun n ak=>(E.2 n (by grind)).1;have co:(Y6 g).length=d:=(by rw[a8W,E.1];rfl);have aC:GP g=.fptr [.slc (ns.map NQ),GP H,.int .u8 G.toNat]:=(by rw[L];rfl);have cp:g≠ []:=(by rw[L];simp);have aS:l9 (GP g)=[GP g]:=(by rw[aC];rfl);have aT:one (GP g)=true:=(by rw[aC];rfl);have b8:k=0:=i9;obtain⟨cG,z9⟩:=bm b8;obtain⟨cH,cI,cJ⟩:ns=[stN]∧G=0∧H=[]:=(by grind);have cK:GP g=.fptr [.slc (ns.map NQ),.lit (.pointer none),.int .u8 G.toNat]:=(by rw[aC,cJ];rfl);have cL:T.c9=(g9,.var [.slc (ns.map NQ),.lit (.pointer none),.int .u8 G.toNat]):=(by rw[z9,cH,cI];rfl);simp[SH,b8,cG,cL,z4];refine E3 (fun(y:RFo) vs h=>y.j≤ns.length∧FoI t s1 y.s (Y6 g) y.B ns y.j∧Kp x y.x∧y.x.K4=BR y.B∧OV 19 1 .nils w6 y.x.T4 (next.map GP)∧
          vs=VSL g8 (.own 10 g10 1 1 0 1) ⟨w6,GP g,y.w8,w9,w10,w11,.bool true,.own 10 g10 1 1 0 1,IN 1,IN k,.bool true,.slc (ns.map NQ),IN ns.length,IN y.j,y.w21,w22,w23,w24,w25,w26,w27,w28,w29,w30⟩∧h=SH t y.s F1 y.v7 y.x) (fun y=>ns.length-y.j)
          ⟨0,s1,aj,[],{T with c9:=(g9,.dead),c10:=(g10,.arr 1 0 false [.ptr 9 g9 0]),K4:=(1,.mp false [] [])},w8,w21⟩ ⟨D6 _,FoI.start q.hs _ _,⟨z3.a,z3.d⟩,rfl,z5,by rw[←cK,b8];rfl,rfl⟩ ?_
         rintro⟨j,s2,v72,B,ac,w8,w21⟩ vs h ⟨bH,a2,a3,a4,a5,rfl,rfl⟩ Q4 bI bJ cq;dsimp only at bH a2 a3 a4 a5;by_cases hj:j<ns.length
         . have ad:=wk1 j i9;have ak:=(aR _ (B7 hj)).mono a2.pre;have bK:=ak.b8B I;obtain⟨n,aU⟩:=p7 (ns[j]);have aV:=a2.next I Z aR hj;rw[←aU]at ak bK aV;obtain⟨cr,p,bL,bM,bN,bO,aW,bP⟩:=b8N t I Z s2 a2.hs F1 v72 {ac with c12:=(ac.c12.1+1,.var [IN n.a,IN n.b,IN n.l.s,St n.l.x])} n (Y6 g) ak B (a2.bd.up i9) a4 a3.d i9;have aX:=aW;simp[RX.l]at aX;simp[SH,hj,←aU];refine a2Q bM bN rfl ?_;simp[ad];exact bI ⟨j+1,_,bL,_,p,_,_⟩ _ _ (by grind) ⟨s5,aV,Kp.of2 (y:={ac with c12:=(ac.c12.1+1,.var [IN n.a,IN n.b,IN n.l.s,St n.l.x])}) ⟨a3.a,a3.d⟩ aW bP,bO,by dsimp only;rw[aX.2.2.2.2.2.2.2.2.2.2.2.2.2];exact a5,rfl,rfl⟩
         . obtain rfl:j=ns.length:=i9;have aY:=a2.fol;rw[M4]at aY;simp[SH];refine bJ _ _ _ ?_;simp[SH,a4];refine E3 (fun(y:RCl) vs h=>y.c≤63∧CI t s2.1 (fun n=>∃g∈layer.drop k,n∈gn g) B d (L8 F) y.F y.next y.c∧Kp x y.x∧y.x.K4=(1,.mp false (BKQ B) (BSQ B))∧OV 19 1 .nils y.w6 y.x.T4 (y.next.map GP)∧FLe F1 y.F∧L8 F1≤L8 y.F∧
            vs=VSL g8 (.own 10 g10 1 1 0 1) ⟨y.w6,GP g,w8,y.w9,y.w10,y.w11,.bool true,.own 10 g10 1 1 0 1,IN 1,IN k,.bool true,.slc (ns.map NQ),IN ns.length,IN ns.length,.bool false,.int .u8 y.c,y.w23,y.w24,y.w25,y.w26,y.w27,y.w28,y.w29,y.w30⟩∧h=SH t s2 y.F v72 y.x) (fun y=>63-y.c)
            ⟨0,F1,next,{ac with K4:=(1,.mp false (BKQ B) (BSQ B))},_,_,_,_,_,_,_,_,_,_,_,_⟩ ⟨D6 _,q.ci.start a2.pre,⟨a3.a,a3.d⟩,rfl,a5,fun _ _ h=>h,m9 _,rfl,rfl⟩ ?_
           rintro⟨c,F2,M,p,w6,w9,w10,w11,w23,w24,w25,w26,w27,w28,w29,w30⟩ vs h ⟨bQ,U,V,N,al,am,an,rfl,rfl⟩ Q5 ao bR aZ;dsimp only at bQ U V N al am an;have cs:L8 F2≤260128512:=a5V U.sr.Z2 (a4A I Z a2.hs.nd a2.hs.hb);have ct:=U.ct;by_cases a0:c<63
           . obtain⟨f,rfl⟩:∃f:UInt8,c=f.toNat:=⟨UInt8.ofNat c,(ofNat_toNat i9).symm⟩
             have ae:IntKind.u8.wrap ((f.toNat:Int)+1)=((f.toNat+1:Nat):Int):=b0c i9 i9;cases af:(B.map (·.1)).idxOf? f with
             |none=>
              have bS:D3 B f=[]:=(a9Z (l:=stN) af).2;have C:=NI.leave E (by rw[bS];exact U.enter (Y6 g) []);simp[SH,a0,af,ae,N,aS,aT];refine E3 (fun(_:Unit) vs h=>vs=VSL g8 (.own 10 g10 1 1 0 1) ⟨w6,GP g,w8,.int .u8 f.toNat,.ptr 13 (p.K5.1+1) 0,w11,.bool true,.own 10 g10 1 1 0 1,IN 1,IN k,.bool true,.slc (ns.map NQ),IN ns.length,IN ns.length,.bool false,.int .u8 f.toNat,.bool true,.nils,IN 0,IN 0,w27,w28,w29,w30⟩∧h=SH t s2 F2 v72 {p with K5:=(p.K5.1+1,.var [.nils,GP g,.int .u8 f.toNat])}) (fun _=>0) () ?_ ?_
              . exact⟨rfl,by simp[SH,N]⟩
              rintro _ vs h1 ⟨rfl,rfl⟩ Q6 ap aD aE;simp[SH];refine aD _ _ _ ?_;simp[ae];rw[if_pos rfl]at C;exact ao ⟨f.toNat+1,F2,M,{p with K5:=(p.K5.1+1,.var [.nils,GP g,.int .u8 f.toNat])},w6,_,_,_,_,_,_,_,_,_,_,_⟩ _ _ (by grind) ⟨s5,C,⟨V.a,V.d⟩,N,al,am,an,rfl,rfl⟩
             |some i=>
              obtain⟨hi,bT⟩:=b9G af;have cu:(D3 B f).length≤4096*ns.length:=by obtain⟨bU,h1,_⟩:=a7X (l:=stN) af;have P:=(a2.bd _ (B7 bU)).2;rw[h1]at P;exact P
              simp[SH,a0,af,hi,bT,N,aS,aT];refine E3 (fun(y:RNo) vs h=>y.j≤(D3 B f).length∧NI t s2.1 (fun n=>∃g∈layer.drop k,n∈gn g) B d (L8 F) M (Y6 g) f (D3 B f) y.F y.nodes y.j∧FLe F1 y.F∧L8 F1≤L8 y.F∧Kp x y.x∧y.x.K4=(1,.mp false (BKQ B) (BSQ B))∧OV 19 1 .nils w6 y.x.T4 (M.map GP)∧
               y.x.K5=(p.K5.1+1,.var [y.tvn,GP g,.int .u8 f.toNat])∧OV 17 4 .nils y.tvn y.x.c17 (y.nodes.map NQ)∧vs=VSL g8 (.own 10 g10 1 1 0 1) ⟨w6,GP g,w8,.int .u8 f.toNat,.ptr 13 (p.K5.1+1) 0,y.w11,.bool true,.own 10 g10 1 1 0 1,IN 1,IN k,.bool true,.slc (ns.map NQ),IN ns.length,IN ns.length,.bool false,.int .u8 f.toNat,.bool true,.slc ((D3 B f).map NQ),IN (D3 B f).length,IN y.j,y.w27,y.w28,y.w29,w30⟩∧h=SH t s2 y.F v72 y.x) (fun y=>(D3 B f).length-y.j)
               ⟨0,F2,[],{p with K5:=(p.K5.1+1,.var [.nils,GP g,.int .u8 f.toNat])},.nils,w11,w27,w28,w29⟩ ?_ ?_
              . exact⟨D6 _,U.enter _ _,am,an,⟨V.a,V.d⟩,N,al,rfl,.inl ⟨rfl,rfl⟩,rfl,by simp[SH,N]⟩
              rintro⟨j,F3,nodes,w,tvn,w11,w27,w28,w29⟩ vs h ⟨aO,K,R,S,J,ag,A,ah,o,rfl,rfl⟩ Q6 ap aD aE;dsimp only at aO K R S J ag A ah o;have cv:L8 F3≤260128512:=a5V K.sr.Z2 (a4A I Z a2.hs.nd a2.hs.hb);have cw:=K.ct;by_cases hj:j<(D3 B f).length
              . have ad:=wk1 j i9;obtain⟨m,hm⟩:=p7 ((D3 B f)[j]);obtain⟨aF,bV⟩:=a2.snd f _ (B7 hj);rw[←hm]at aF bV;obtain⟨cx,aG,bW,bX,a1⟩:=b3I t s2 F3 v72 {w with c14:=(w.c14.1+1,.var [IN m.a,IN m.b,IN m.l.s,St m.l.x])} m (fun e he=>(K.sr.tw e he).1);have a6:Kp x aG:=Kp.of (y:={w with c14:=(w.c14.1+1,.var [IN m.a,IN m.b,IN m.l.s,St m.l.x])}) ⟨J.a,J.d⟩ a1;obtain⟨Y,aq,ar,bY,a7,a8⟩:=b1f a1;dsimp only at Y aq ar bY a7 a8;rw[ag]at Y;rw[ah]at aq;rw[←a7]at o;rw[←a8]at A;simp[SH,hj,←hm];refine a2Q bW bX rfl ?_;cases cy:(Y5 F3 m).1 with
                |false=>
                 obtain⟨a9,bZ⟩:=K.skip hj (by grind);rw[←hm]at a9;rw[a9];simp[ad,SH];exact ap ⟨j+1,F3,nodes,aG,tvn,_,_,_,_⟩ _ _ (by grind) ⟨s5,bZ,R,S,a6,Y,A,aq,o,rfl,rfl⟩
                |true=>
                 obtain⟨u,v,ba,hb,bb,bc,_⟩:=id aF;obtain⟨c,cz,O,b0,b1,b2,bd⟩:=b5G t s2 (Y5 F3 m).2 v72 aG m ba hb bb bc (a2.hs.hb ba (D4 bb)).1 (a2.hs.hb hb (D4 bc)).1;have W:Kp x O:=Kp.of a6 bd;obtain⟨aH,r13,ai,cA,b3,b4⟩:=b1f bd;rw[Y]at aH;rw[aq]at r13;rw[←b3]at o;rw[←b4]at A;rw[ar]at ai;simp[SH,ar];refine a2Q b1 b2 (by simp[SH,ar]) ?_;cases c with
                 |true=>
                  have aI:=c0e ((nodes,f)::g) l5 (by grind);obtain⟨be,ty,aa,aJ,bf⟩:=b7H I aF (b0.1 rfl);rw[←E.word nodes f]at aa aJ;have cB:(Y6 ((nodes,f)::g)).length=d+1:=(by rw[a8W,a0a,E.1];rfl);rcases o with⟨rfl,o⟩|⟨g17,rfl,o,aK⟩
                  . obtain rfl:=a5h.1 o;rw[b5J,List.map_nil]at aI;simp[SH,r13,ai];refine m6 aI ?_;simp;refine aE _ _ ?_;simp;refine aZ _ _ ?_;simp;refine aQ _ _ ?_;simp;refine bk _ _ ?_;simp;refine aN _ _ _ ⟨.inr ⟨_,_,rfl,rfl,i9,be,ty,aa,aJ,bf⟩,W.a⟩ rfl ?_;simp[U5,X53,a3i]
                  . simp[SH,r13,ai,o];refine m6 aI ?_;simp;refine aE _ _ ?_;simp;refine aZ _ _ ?_;simp;refine aQ _ _ ?_;simp;refine bk _ _ ?_;simp;refine aN _ _ _ ⟨.inr ⟨_,_,rfl,rfl,i9,be,ty,aa,aJ,bf⟩,W.a⟩ rfl ?_;simp[U5,X53,a3i]
                 |false=>
                  have au:=K.add hj (by grind) (by grind) (by grind);rw[←hm]at au;rcases o with⟨rfl,o⟩|⟨g17,rfl,o,aK⟩
                  . obtain rfl:=a5h.1 o;simp[SH,r13,ai,ad];exact ap ⟨j+1,(Y5 F3 m).2,[m],{O with K5:=(p.K5.1+1,.var [.own 17 (O.c17.1+1) 1 4 0 1,GP g,.int .u8 f.toNat]),c14:=(w.c14.1+1,.var [IN m.a,IN m.b,IN m.l.s,St m.l.x]),c16:=(O.c16.1+1,.dead),c17:=(O.c17.1+1,.arr 4 0 false [NQ m])},.own 17 (O.c17.1+1) 1 4 0 1,_,_,_,_⟩ _ _ (by grind) ⟨s5,au,fun a b h=>FLe.rec _ _ a b (R a b h),V1 S (b0h _ _),⟨W.a,W.d⟩,aH,A,rfl,.inr ⟨_,rfl,rfl,l5⟩,rfl,rfl⟩
                  . obtain⟨D,aL⟩:=p7 (nodes++[m]);have f1:nodes.map NQ++[NQ m]=D.map NQ:=(by grind);have f2:nodes.length+1=D.length:=(by rw[aL];simp);have f3:D.length*40≤140737488355328:=i9;have f4:D≠ []:=(by rw[aL];simp);rw[←aL]at au;simp[SH,r13,ai,o,ad,f1,f2,f3];exact ap ⟨j+1,(Y5 F3 m).2,D,{O with K5:=(p.K5.1+1,.var [.own 17 g17 D.length 4 0 D.length,GP g,.int .u8 f.toNat]),c14:=(w.c14.1+1,.var [IN m.a,IN m.b,IN m.l.s,St m.l.x]),c16:=(O.c16.1+1,.dead),c17:=(g17,.arr 4 0 false (D.map NQ))},.own 17 g17 D.length 4 0 D.length,_,_,_,_⟩ _ _ (by grind) ⟨s5,au,fun a b h=>FLe.rec _ _ a b (R a b h),V1 S (b0h _ _),⟨W.a,W.d⟩,aH,A,rfl,.inr ⟨g17,by rw[N5],rfl,by simp[f4]⟩,rfl,rfl⟩
              . obtain rfl:j=(D3 B f).length:=i9;have C:=NI.leave E K;simp[SH];refine aD _ _ _ ?_;rcases o with⟨rfl,o⟩|⟨g17,rfl,o,aK⟩
                . obtain rfl:=a5h.1 o;rw[if_pos rfl]at C;simp[ah,ae];exact ao ⟨f.toNat+1,F3,M,{w with K5:=(p.K5.1+1,.var [.nils,GP g,.int .u8 f.toNat])},w6,_,_,_,_,_,_,_,_,_,_,_⟩ _ _ (by grind) ⟨s5,C,⟨J.a,J.d⟩,ag,A,R,S,rfl,rfl⟩
                . have av:nodes≠ []:=fun h=>aK (by rw[h];rfl);have aM:0<nodes.length:=a2p.2 av;rw[if_neg av]at C;subst L;rcases A with⟨rfl,A⟩|⟨g19,rfl,A,cC⟩
                  . obtain rfl:=a5h.1 A;simp[ah,o,ae,aM];exact ao ⟨f.toNat+1,F3,[(nodes,f)::(ns,G)::H],{w with K5:=(p.K5.1+1,.dead),c17:=(g17,.arr 4 1 true (nodes.map NQ)),c18:=(w.c18.1+1,.dead),T4:=(w.T4.1+1,.arr 1 0 false [GP ((nodes,f)::(ns,G)::H)])},.own 19 (w.T4.1+1) 1 1 0 1,_,_,_,_,_,_,_,_,_,_,_⟩ _ _ (by grind) ⟨s5,C,⟨J.a,J.d⟩,ag,.inr ⟨_,rfl,rfl,l5⟩,R,S,rfl,rfl⟩
                  . obtain⟨nx,aw⟩:∃nx,nx=M++[(nodes,f)::(ns,G)::H]:=⟨_,rfl⟩
                    have f1:M.map GP++[.fptr [.slc (nodes.map NQ),.fptr [.slc (ns.map NQ),GP H,.int .u8 G.toNat],.int .u8 f.toNat]]=nx.map GP:=(by rw[aw,Q9];rfl);have f2:M.length+1=nx.length:=(by rw[aw];simp);have f3:nx.length*8≤140737488355328:=i9;have f4:nx≠ []:=(by rw[aw];simp);rw[←aw]at C;simp[ah,o,A,ae,aM,f1,f2,f3];exact ao ⟨f.toNat+1,F3,nx,{w with K5:=(p.K5.1+1,.dead),c17:=(g17,.arr 4 1 true (nodes.map NQ)),c18:=(w.c18.1+1,.dead),T4:=(g19,.arr 1 0 false (nx.map GP))},.own 19 g19 nx.length 1 0 nx.length,_,_,_,_,_,_,_,_,_,_,_⟩ _ _ (by grind) ⟨s5,C,⟨J.a,J.d⟩,ag,.inr ⟨g19,by rw[N5],rfl,by simp[f4]⟩,R,S,rfl,rfl⟩
           . obtain rfl:c=63:=i9;have b5:=U.done I a2.hs (ns:=ns) aY (Q':=fun n=>∃g∈layer.drop (k+1),n∈gn g) fun n ⟨ax,h1,P⟩=>by
              rw[bF]at h1;rcases a0p.1 h1 with h1|h1
              . rw[h1,aP]at P;exact .inr P
              . exact .inl ⟨ax,h1,P⟩
             simp[SH];refine bR _ _ _ ?_;simp[bE];exact bC ⟨k+1,s2,F2,v72,M,p,⟨w6,_,_,_,_,_,.uu,.uu,.uu,.uu,_,_,_,_,_,_,_,_,_,_,_,_,_,_⟩⟩ _ _ (by grind) ⟨⟨a2.hs,b5.start (a5g _),fun ax cD=>⟨(q.ok ax (by grind)).1.mono a2.pre am,V1 (q.ok ax (by grind)).2 an⟩⟩,s5,V,⟨_,_,N⟩,al,fun h=>absurd h (Nat.succ_ne_zero _),rfl,rfl⟩
       . obtain rfl:k=layer.length:=i9;have cE:=q.ci.ct;simp[SH,cF];refine bD _ _ _ ?_;have bg:a5y t s1 F1 next (d+1):=⟨q.hs,q.ci.sr.mono fun n _ hp=>.inl (hp.elim (fun⟨g,L,_⟩=>by simp at L) id),q.ci.nx,i9,fun b6=>by have:=a2p.2 b6;omega⟩
         rcases z5 with⟨rfl,z5⟩|⟨g19,rfl,z5,b7⟩
         . obtain rfl:=a5h.1 z5;simp[-W8];exact bj ⟨s1,F1,aj,[],d+1,{T with T4:=(T.T4.1,W8 (SH t s1 F1 aj T) true T.T4.2)},.slc [],⟨_,_,_,_,_,_,_,_,_,_,_,_,_,_,_,_,_,_,_,_,_,_,_,_⟩⟩ _ _ (by grind) ⟨bg,⟨z3.a,z3.d⟩,.inl rfl,⟨_,_,z4⟩,rfl,rfl⟩
         . have av:next≠ []:=fun h=>b7 (by rw[h];rfl)
           have aM:0<next.length:=a2p.2 av
           simp[z5];exact bj ⟨s1,F1,aj,next,d+1,{T with T4:=(g19,.arr 1 1 true (next.map GP))},.slc (next.map GP),⟨_,_,_,_,_,_,_,_,_,_,_,_,_,_,_,_,_,_,_,_,_,_,_,_⟩⟩ _ _ (by grind) ⟨bg,⟨z3.a,z3.d⟩,.inl rfl,⟨_,_,z4⟩,rfl,rfl⟩
 . simp[X53,SH,C];refine aN _ _ _ ⟨.inl ⟨rfl,c3j C⟩,rfl⟩ rfl ?_;simp[U5,X53,a3i]
end
noncomputable abbrev SH0(x:RX):l7:=
 [x.c0,x.c1,x.c2,dd,dd,dd,dd,dd,
  x.c8,x.c9,x.c10,x.K4,x.c12,x.K5,x.c14,x.c15,x.c16,x.c17,x.c18,x.T4,x.O7,x.P1,x.c22,x.c23,x.c24,x.c25,x.c26,x.c27,x.c28,x.c29,x.c30,x.c31,x.c32,x.c33,x.c34,x.c35,x.c36,x.c37,x.c38,x.c39,x.c40]
theorem d0m(t:j9)(x:RX):∃ws,FI Tryz.prog (.fn (.func 52) [] []) [AGR t] (SH0 x) (.ptr 5 1 0) ws∧p8 (SH0 x) ws=SH t ([],[]) [] 0 x:=by refine⟨[(3,(1,.mp false [] [])),(4,(1,.mp false [] [])),(5,(1,.var (SVQ t 0))),(6,(1,.arr 2 0 false [])),(7,(1,.arr 1 0 false []))],?_,rfl⟩;refine a3n mixed (X:=X52) c52 (by rfl) (by simp[X52]) l5 fun Q a b=>?_;simp[X52];refine a _ _ ?_;simp[M6,X52]
section
variable{t:j9}{u:By}{x n:Nat}{ac:Bool}
theorem b2T:∀x y:By,bL x y=false→x≠y→bL y x=true
 | [],[],_,h=>absurd rfl h
 | [],_::_,h,_=>by cases h
 |_::_,[],_,_=>rfl
 |a::x,b::y,h,c=>by
  have h:(decide (a<b)||(a==b&&Op.bytesLess x y))=false:=h;rw[Bool.or_eq_false_iff,decide_eq_false_iff_not]at h;show(decide (b<a)||(b==a&&Op.bytesLess y x))=true;by_cases d:a=b
  . subst d;have f:=b2T x y (by simpa using h.2) fun e=>c (by rw[e])
    grind
  . grind
theorem b4j:∀x:By,bL x x=false
 | []=>rfl
 |a::x=>by have:=b4j x;have:Op.bytesLess x x=false:=this;show(decide (a<a)||(a==a&&Op.bytesLess x x))=false;simp[this]
def GoX(t:j9)(l:List Nat)(i x:Nat)(u:By):Prop:=∃q a,F6 t ((j4 t).getD x D7) q=some a∧C0 t a=true∧C8 t q=l.drop i∧J8 t q=u
theorem GoX.stop{l:List Nat}(h:C0 t ((j4 t).getD x D7)=true):GoX t l l.length x []:=⟨[],_,rfl,h,by simp[C8],rfl⟩
theorem GoX.step{t:j9}(d:s8 t){l:List Nat}{i x:Nat}{u:By}(b:x<(j4 t).length){a:Nat×Nat}(e:a∈G9 t x)(f:fits t l i a.1)(h:GoX t l (i+A7 t a.1) a.2 u):GoX t l i x (prt t a.1++u):=by
 obtain⟨s',h1,_,g,_⟩:=a6C b e;obtain⟨q,j,c,k,m,n⟩:=h;rw[g,a2z (a0g d (a2l b) h1)]at c;refine⟨a.1::q,j,?_,k,?_,?_⟩
 . show(T.step t _ a.1).bind _=_;rw[h1];exact c
 . rw[b0a f,←m];rfl
 . rw[a3R,n];rfl
theorem GoX.cases(n:s8 t){l:List Nat}{i:Nat}(g:x<(j4 t).length)(hi:i≤l.length)(h:GoX t l i x u):(i=l.length∧C0 t ((j4 t).getD x D7)=true∧u=[])∨∃a∈G9 t x,fits t l i a.1∧∃v,GoX t l (i+A7 t a.1) a.2 v∧u=prt t a.1++v:=by
 obtain⟨q,e,b,f,c,d⟩:=h
 match q,b,c,d with
 | [],b,c,d=>
  obtain rfl:=a0c b;have:(l.drop i).length=0:=by rw[←c];rfl
  rw[a4H]at this;exact .inl ⟨i9,f,d.symm⟩
 |k::q,b,c,d=>
  obtain⟨s1,j,m⟩:=Y4.1 (show(T.step t _ k).bind (fun s'=>F6 t s' q)=some e from b);have hd:l.drop i=cls t k++C8 t q:=by rw[←c];rfl
  obtain⟨f1,f2⟩:=b2F hd;have o:=a0g n (a2l g) j;exact .inr ⟨_,b0q g j ⟨q,e,m,f⟩,f1,J8 t q,⟨q,e,by rw[a2z o];exact m,f,f2.symm,rfl⟩,by rw[←d,a3R];rfl⟩
theorem GoX.lng(a:s8 t){l:List Nat}:GoX t l 0 0 u↔T8 t l u:=by
 have e:(j4 t).getD 0 D7=start:=by rw[u9,a2D a];rfl
 unfold GoX T8;rw[e,a9C]
theorem GoX.len(a:s8 t){l:List Nat}{i:Nat}(h:GoX t l i x u):u.length≤4*l.length:=by
 obtain⟨q,c,b,_,d,rfl⟩:=h;have h1:=b2R a q _ _ b
 grind
structure TwI(S:By→Prop)(l:List By):Prop where
 le:l.length≤2
 so:l.Pairwise fun a b=>bL a b=true
 sd:∀x∈l,S x
 cm:∀x,S x→x∈l∨l.length=2
theorem TwI.iff{S S':By→Prop}{l:List By}(h:TwI S l)(e:∀x,S' x↔S x):TwI S' l:=
 ⟨h.le,h.so,fun x a=>(e x).2 (h.sd x a),fun x a=>h.cm x ((e x).1 a)⟩
theorem TwI.ins{S:By→Prop}{l:List By}(h:TwI S l)(x:By):TwI (fun y=>S y∨y=x) (a1Z l x):=by
 have two:∀{a b:By},(∀y∈[a,b],S y∨y=x)→bL a b=true→TwI (fun y=>S y∨y=x) [a,b]:=fun hs hb=>⟨m9 _,by simpa using hb,hs,fun _ _=>.inr rfl⟩
 match l,h with
 | [],h=>
  refine⟨by simp[a1Z],by simp[a1Z],fun y d=>.inr (H5.1 d),fun y d=>?_⟩;rcases d with d|rfl
  . rcases h.cm y d with h1|h1<;>cases h1
  . exact .inl (H5.2 rfl)
 | [a],h=>
  have e:=h.sd a (H5.2 rfl);unfold a1Z;simp only;split
  . rename_i h1;exact two (by simp[e]) h1
  . rename_i h1;have h1:bL x a=false:=(by simpa using h1);split
    . rename_i f;subst f;refine⟨h.le,h.so,fun y d=>.inl (h.sd y d),fun y d=>?_⟩;rcases d with d|rfl
      . exact h.cm y d
      grind
    . rename_i f;exact two (by simp[e]) (b2T x a h1 f)
 | [a,b],h=>
  have e:=h.sd a l5;have hb:=h.sd b l5;have g:bL a b=true:=by simpa using h.so
  unfold a1Z;simp only;split
  . rename_i h1;exact two (by simp[e]) h1
  . rename_i h1;have h1:bL x a=false:=(by simpa using h1);split
    . exact two (by simp[e,hb]) g
    . rename_i f;split
      . exact two (by simp[e]) (b2T x a h1 f)
      grind
 |a::b::c::r,h=>have:=h.le;simp at this
theorem TwI.close{S T:By→Prop}{p:By}{two R:List By}(h:TwI (fun u=>S u∨∃v∈R,u=p++v) two)(f:TwI T R):TwI (fun u=>S u∨∃v,T v∧u=p++v) two:=by
 refine⟨h.le,h.so,fun x d=>(h.sd x d).imp id fun⟨v,g,e⟩=>⟨v,f.sd v g,e⟩,fun x d=>?_⟩;rcases d with d|⟨v,g,rfl⟩
 . exact h.cm x (.inl d)
 . rcases f.cm v g with h1|h1
   . exact h.cm _ (.inr ⟨v,h1,rfl⟩)
   . right
     obtain⟨a,b,rfl⟩:∃a b,R=[a,b]:=by
      match R,h1 with
      | [a,b],_=>exact⟨a,b,rfl⟩
     have i:bL a b=true:=(by simpa using f.so);rcases h.cm (p++a) (.inr ⟨a,l5,rfl⟩)with g1|g1
     . rcases h.cm (p++b) (.inr ⟨b,l5,rfl⟩)with g2|g2
       . have hle:=h.le
         match two,hle,g1,g2 with
         | [c],_,g1,g2=>
          rw[H5]at g1 g2;have:=List.append_cancel_left (g1.trans g2.symm);subst this;rw[b4j]at i;cases i
         | [_,_],_,_,_=>rfl
         |_::_::_::_,hle,_,_=>simp at hle
       . exact g2
     . exact g1
theorem TwI.diff{S:By→Prop}{l:List By}(h:TwI S l){x y:By}(g:S x)(i:S y)(j:x≠y):∃a b,l=[a,b]∧bL a b=true∧a≠b:=by
 have key:l.length=2:=by
  rcases h.cm x g with h1|h1
  . rcases h.cm y i with d|d
    . have hle:=h.le
      match l,hle,h1,d with
      | [c],_,h1,d=>
       rw[H5]at h1 d;exact absurd (h1.trans d.symm) j
      | [_,_],_,_,_=>rfl
      |_::_::_::_,hle,_,_=>simp at hle
    . exact d
  . exact h1
 match l,key with
 | [a,b],_=>
  have f:bL a b=true:=by simpa using h.so
  refine⟨a,b,rfl,f,fun e=>?_⟩;subst e;rw[b4j]at f;cases f
def SX(t:j9)(l:List Nat)(n:Nat)(ac:Bool)(A:List (Nat×Nat))(j:Nat)(u:By):Prop:=(n=l.length∧ac=true∧u=[])∨∃a∈A.take j,fits t l n a.1∧∃v,GoX t l (n+A7 t a.1) a.2 v∧u=prt t a.1++v
theorem c7p{l:List Nat}{j:Nat}{A:List (Nat×Nat)}(hj:j<A.length)(c:¬fits t l n A[j].1)(u:By):SX t l n ac A (j+1) u↔SX t l n ac A j u:=by
 refine or_congr Iff.rfl ⟨fun⟨a,b,h1,d⟩=>?_,fun⟨a,b,h⟩=>⟨a,by rw[L3];exact a4G _ b,h⟩⟩;rw[L3,m7 hj]at b
 grind
theorem c5c{l:List Nat}{j:Nat}{A:List (Nat×Nat)}(hj:j<A.length)(c:fits t l n A[j].1)(u:By):SX t l n ac A (j+1) u↔SX t l n ac A j u∨∃v,GoX t l (n+A7 t A[j].1) A[j].2 v∧u=prt t A[j].1++v:=by
 unfold SX;rw[or_assoc];refine or_congr Iff.rfl ⟨fun⟨a,b,h1,d⟩=>?_,fun h=>?_⟩
 . rw[L3,m7 hj]at b
   grind
 . rcases h with⟨a,b,h⟩|h
   . grind
   . exact⟨A[j],by rw[L3,m7 hj];exact a7N _ (H5.2 rfl),c,h⟩
theorem c5A(d:s8 t){l:List Nat}{k:Nat}(e:k<(j4 t).length)(f:n≤l.length)(g:ac=C0 t ((j4 t).getD k D7))(u:By):GoX t l n k u↔SX t l n ac (G9 t k) (G9 t k).length u:=by
 unfold SX;rw[M4];constructor
 . intro h;rcases h.cases d e f with⟨h1,b,c⟩|⟨a,h1,b,c⟩
   all_goals grind
 . rintro(⟨rfl,b,rfl⟩|⟨a,h1,b,v,c,rfl⟩)
   . exact GoX.stop (by grind)
   . exact c.step d e h1 b
theorem c9c{S:Prop}{p:By}{R:List By}{r:Nat}(hr:r<R.length):(S∨∃v∈R.take (r+1),u=p++v)↔(S∨∃v∈R.take r,u=p++v)∨u=p++R[r]:=by
 rw[or_assoc];refine or_congr Iff.rfl ⟨fun⟨v,a,e⟩=>?_,fun h=>?_⟩
 . rw[L3,m7 hr]at a
   grind
 . rcases h with⟨v,a,e⟩|e
   . grind
   . exact⟨_,by rw[L3,m7 hr];exact a7N _ (H5.2 rfl),e⟩
end
def ES(U:PV)(k:Nat):List PV:=List.replicate k U++List.replicate (5-k) (.slc [])
theorem c5a(U:PV):∀k,k<5→∃h:k<(ES U k).length,(ES U k)[k]=.slc []
 |0,_=>⟨by show 0<5;decide,rfl⟩
 |1,_=>⟨by show 1<5;decide,rfl⟩
 |2,_=>⟨by show 2<5;decide,rfl⟩
 |3,_=>⟨by show 3<5;decide,rfl⟩
 |4,_=>⟨by show 4<5;decide,rfl⟩
 |k+5,h=>absurd h i9
theorem c3b(U:PV):∀k,k<5→(ES U k).set k U=ES U (k+1)
 |0,_=>rfl
 |1,_=>rfl
 |2,_=>rfl
 |3,_=>rfl
 |4,_=>rfl
 |k+5,h=>absurd h i9
abbrev KQ(F4:List (List By)):PV:=.uslc (F4.map fun two=>.slc (two.map St))
structure LC1 where
 (k:Nat)
 (ver g1:Nat)
 (w4 w12:PV)
structure LC2 where
 (n:Nat)
 (cs:List (List (List By)))
 (ver g1:Nat)
 (r2 r3 r4:Row)
 (w4 w6 w7 w8 w9 w10 w13 w14 w15 w16 w17 w18 w19 w20 w21 w22 w23 w24 w25 w26:PV)
structure LC3 where
 (k:Nat)
 (C:List (List By))
 (ver:Nat)
 (r2 r3 r4:Row)
 (w7 w8 w9 w10 w16 w17 w18 w19 w20 w21 w22 w23 w24 w25 w26:PV)
structure LC4 where
 (j:Nat)
 (two:List By)
 (r2 r3 r4:Row)
 (w9 w10 w17 w21 w22 w23 w24 w25 w26:PV)
structure LC5 where
 (r:Nat)
 (two:List By)
 (r4:Row)
 (w10 w26:PV)
theorem c9j{P:Nat→List By→Prop}{C:List (List By)}{k:Nat}{two:List By}(h:∀a,a<k→P a (C.getD a []))(b:k<C.length)(c:P k two){a:Nat}(d:a<k+1):P a ((C.set k two).getD a []):=by
 by_cases e:a=k
 . subst e;rw[u9,F8 b];exact c
 . rw[u9,F7 (fun h=>e h.symm),←u9];exact h a i9
theorem c3I(t:j9)(d:s8 t)(l:List Nat)(bq:l.length≤1100000000):∃r,(∃L:List By,r=.slc (L.map St)∧TwI (T8 t l) L)∧F0 54 [1] [AGR t,CL l] r:=by
 have br:=a0G d;have bs:=a2j d;refine a1C mixed (X:=X54) c54 5 (by simp[X54]) (by kernel_rfl) fun Q az bt=>?_;have al:(gL (E6 t) t).length=(j4 t).length:=by simp[gL]
 obtain⟨N,am⟩:=p7 ((j4 t).length);have aA:(N:Int)*24≤140737488355328:=i9;have aB:N≤9223372036854775807:=i9;simp[X54];have aC:PV.uslc (List.replicate N (PV.slc []))=KQ (List.replicate N []):=by simp[KQ]
 refine E3 (fun(y:LC1) vs h=>y.k≤5∧
  vs=[AGR t,CL l,.nils,.eptr 0 1 5 1 0 0,y.w4,.uu,.uu,.uu,.uu,.uu,.uu,IN y.k,y.w12,.uu,.uu,.uu,.uu,.uu,.uu,.uu,.uu,.uu,.uu,.uu,.uu,.uu,.uu]∧h=[(1,.arr 1 y.ver false (ES (KQ (List.replicate N [])) y.k)),(y.g1,.dead),dd,dd,dd]) (fun y=>5-y.k)
  ⟨0,0,0,.uu,.uu⟩ ⟨D6 _,rfl,rfl⟩ ?_
 rintro⟨k,ver,g1,w4,w12⟩ vs h ⟨aa,rfl,rfl⟩ Q2 aD aE bu;dsimp only at aa;have aF:(ES (KQ (List.replicate N [])) k).length=5:=by simp[ES];omega
 by_cases f:k<5
 . have ab:=wk1 k i9;obtain⟨aG,ad⟩:=c5a (KQ (List.replicate N [])) k f;have aH:=c3b (KQ (List.replicate N [])) k f;simp[f,aG,ad,ab,al,←am,aA,aB,aF];rw[aC,aH];exact aD ⟨k+1,ver+1,g1+1,_,_⟩ _ _ s5 ⟨s5,rfl,rfl⟩
 . obtain rfl:k=5:=i9;simp;refine aE _ _ _ ?_;simp;have aI:ES (KQ (List.replicate N [])) 5=(List.replicate 5 (List.replicate N ([]:List By))).map KQ:=rfl;rw[aI];refine E3 (fun(y:LC2) vs h=>y.n≤l.length+1∧y.cs.length=5∧(∀c∈y.cs,c.length=N)∧(∀p,y.n≤p→p≤l.length→p<y.n+5→∀k,k<N→TwI (GoX t l p k) ((y.cs.getD (p%5) []).getD k []))∧
    vs=[AGR t,CL l,.nils,.eptr 0 1 5 1 0 0,y.w4,I ((y.n:Int)-1),y.w6,y.w7,y.w8,y.w9,y.w10,IN 5,.bool false,y.w13,y.w14,y.w15,y.w16,y.w17,y.w18,y.w19,y.w20,y.w21,y.w22,y.w23,y.w24,y.w25,y.w26]∧h=[(1,.arr 1 y.ver false (y.cs.map KQ)),(y.g1,.dead),y.r2,y.r3,y.r4]) (fun y=>y.n)
    ⟨l.length+1,List.replicate 5 (List.replicate N ([]:List By)),ver,g1,dd,dd,dd,w4,.uu,.uu,.uu,.uu,.uu,.uu,.uu,.uu,.uu,.uu,.uu,.uu,.uu,.uu,.uu,.uu,.uu,.uu,.uu⟩ ?_ ?_
   . refine⟨m9 _,rfl,fun c D=>?_,fun p h1 ae=>by dsimp only at h1;omega,?_,rfl⟩
     . rw[b1I D,List.length_replicate]
     . simp
   rintro⟨n,cs,ver,G,r2,r3,r4,w4,w6,w7,w8,w9,w10,w13,w14,w15,w16,w17,w18,w19,w20,w21,w22,w23,w24,w25,w26⟩ vs h ⟨aa,g,E,H,rfl,rfl⟩ Q3 aJ aK bv;dsimp only at aa g E H;cases n with
   |zero=>
    simp;refine aK _ _ _ ?_;obtain⟨C,J,o⟩:∃C J,cs=C::J:=by
     cases cs with
     |nil=>cases g
     |cons C J=>exact⟨C,J,rfl⟩
    have i:=E C (by rw[o];exact a3v);obtain⟨L,Cr,K⟩:∃L Cr,C=L::Cr:=by
     cases C with
     |nil=>simp at i;omega
     |cons L Cr=>exact⟨L,Cr,rfl⟩
    have s:=H 0 (D6 _) (D6 _) i9 0 i9;rw[o,K]at s;have s:TwI (GoX t l 0 0) L:=s;have s:=s.iff fun x=>(GoX.lng d).symm;rw[o,K]at g;rw[o,K];rw[K]at i;simp at g i;have aL:0<N:=i9;simp[g,i,aL];refine az _ _ _ ⟨L,rfl,s⟩ ?_;simp[X54]
   |succ n=>
    have aM:((n+1:Nat):Int)-1=(n:Int):=i9;have aN:(0:Int)≤(n:Int):=i9;have an:n≤l.length:=i9;have hm:(n:Int).tmod 5=((n%5:Nat):Int):=rfl;obtain⟨q,aO⟩:=p7 (n%5);rw[←aO]at hm;have aP:q<5:=i9;have M:q<cs.length:=i9;obtain⟨C,af⟩:=p7 (cs[q]);have i:C.length=N:=E C (by rw[af];exact B7 M);simp[aM,aN,hm,aP,g,M,←af,i];refine E3 (fun(y:LC3) vs h=>y.k≤N∧y.C.length=N∧(∀k,k<y.k→TwI (GoX t l n k) (y.C.getD k []))∧
     vs=[AGR t,CL l,.nils,.eptr 0 1 5 1 0 0,w4,IN n,.nown 0 1 y.ver q 0 0 N,y.w7,y.w8,y.w9,y.w10,IN 5,.bool false,.bool true,IN N,IN y.k,y.w16,y.w17,y.w18,y.w19,y.w20,y.w21,y.w22,y.w23,y.w24,y.w25,y.w26]∧h=[(1,.arr 1 y.ver false ((cs.set q y.C).map KQ)),(G,.dead),y.r2,y.r3,y.r4]) (fun y=>N-y.k)
     ⟨0,C,ver,r2,r3,r4,w7,w8,w9,w10,w16,w17,w18,w19,w20,w21,w22,w23,w24,w25,w26⟩ ?_ ?_
    . refine⟨D6 _,i,fun k f=>absurd f (a7S _),rfl,?_⟩;rw[af,b4N]
    rintro⟨k,C2,w,r2,r3,r4,w7,w8,w9,w10,w16,w17,w18,w19,w20,w21,w22,w23,w24,w25,w26⟩ vs h ⟨aQ,z2,z3,rfl,rfl⟩ Q4 aR aS bw;dsimp only at aQ z2 z3;by_cases f:k<N
    . have ab:=wk1 k i9;have ag:k<(j4 t).length:=i9;have aT:(N6 t).length=(j4 t).length:=(by simp[N6]);have bx:k<(N6 t).length:=i9;have ad:k<(gL (E6 t) t).length:=i9;obtain⟨ac,ao⟩:=p7 ((N6 t)[k]);have aU:ac=C0 t ((j4 t).getD k D7):=by
       rw[ao];simp only[N6,a0b];rw[u9,m7 ag];rfl
      obtain⟨A,O⟩:=p7 (G9 t k);have aV:(gL (E6 t) t)[k]=A:=(by rw[O];unfold G9;rw[u9,m7 ad];rfl);have bz:A.length≤64:=O▸a6A d k;have aW:∀a∈A,a.1<t.rules.length∧a.2<(j4 t).length∧1≤A7 t a.1∧A7 t a.1≤4:=fun a b=>a4t d ag (O▸b);obtain⟨z,o,aX⟩:∃z:List By,(((n=l.length)=True∧ac=true∧z=[[]])∨((n=l.length)=True∧ac=false∧z=[])∨((n=l.length)=False∧True∧z=[]))∧TwI (SX t l n ac A 0) z:=by
       have nil:∀{S:By→Prop},(∀u,¬S u)→TwI S []:=fun h=>⟨l5,l5,l5,fun x m=>absurd m (h x)⟩
       by_cases h1:n=l.length
       . cases ae:ac with
         |true=>exact⟨[[]],.inl ⟨eq_true h1,rfl,rfl⟩,l5,l5,fun x m=>.inl ⟨h1,rfl,by simpa only[H5]using m⟩,fun x m=>by
          rcases m with⟨_,_,m⟩|⟨a,b,_⟩
          . exact .inl (H5.2 m)
          . cases b⟩
         |false=>exact⟨[],.inr (.inl ⟨eq_true h1,rfl,rfl⟩),nil fun u hu=>by
          rcases hu with⟨_,hu,_⟩|⟨a,b,_⟩
          . cases hu
          . cases b⟩
       . exact⟨[],.inr (.inr ⟨eq_false h1,trivial,rfl⟩),nil fun u hu=>by
          rcases hu with⟨hu,_⟩|⟨a,b,_⟩
          . exact h1 hu
          . cases b⟩
      rcases o with⟨g1,g2,g3⟩|⟨g1,g2,g3⟩|⟨g1,g2,g3⟩<;>simp[f,g1,aT,al,←am,←ao,g2,aV]<;>(
       refine E3 (fun(y:LC4) vs h=>y.j≤A.length∧TwI (SX t l n ac A y.j) y.two∧
        vs=[AGR t,CL l,.nils,.eptr 0 1 5 1 0 0,w4,IN n,.nown 0 1 w q 0 0 N,IN k,.slc (y.two.map St),y.w9,y.w10,IN 5,.bool false,.bool true,IN N,IN k,.bool true,y.w17,.slc (A.map (AG t)),IN A.length,IN y.j,y.w21,y.w22,y.w23,y.w24,y.w25,y.w26]∧h=[(1,.arr 1 w false ((cs.set q C2).map KQ)),(G,.dead),y.r2,y.r3,y.r4]) (fun y=>A.length-y.j)
        ⟨0,z,_,r3,r4,w9,w10,_,w21,w22,w23,w24,w25,w26⟩ ⟨D6 _,aX,by rw[g3];rfl,by simp;rfl⟩ ?_
       rintro⟨j,two,r2,r3,r4,w9,w10,w17,w21,w22,w23,w24,w25,w26⟩ vs h ⟨aY,a2,rfl,rfl⟩ Q5 ap aZ bA;dsimp only at aY a2;by_cases hj:j<A.length
       . have aq:=wk1 j i9;obtain⟨a,b⟩:=p7 (A[j]);obtain⟨bB,bC,a0,a1⟩:=aW a (by rw[b];exact B7 hj);obtain⟨cl,T⟩:=p7 (A7 t a.1);have a3:(cls t a.1).length=cl:=T.symm;rw[←T]at a0 a1;have U:=c3Q (l.drop n) (cls t a.1) i9;obtain⟨V,ar⟩:∃V,V=decide (cls t a.1<+:l.drop n):=⟨_,rfl⟩
         have au:V=true↔fits t l n a.1:=(by rw[ar];exact decide_eq_true_iff);rw[←ar]at U;have av:List.take (l.length-n) (List.drop n (l.map UN))=(l.drop n).map UN:=by rw[a1J,S7 (by rw[a4H,N5];exact m9 _)]
         rw[a1J]at av;unfold CL at U;rw[a1J]at U;simp[hj,←b,an,av];refine m6 U ?_;cases V with
         |true=>
          have W:=au.1 rfl;have a4:=a5l W;rw[←T]at a4;have a5:IntKind.i64.wrap ((n:Int)+(cl:Int))=(n:Int)+(cl:Int):=I9;obtain⟨B,aw⟩:=p7 ((n+cl)%5);have a6:((n:Int)+(cl:Int)).tmod 5=(B:Int):=(by rw[aw];rfl);have a7:¬q=B:=i9;have a8:B<5:=i9;have ah:B<cs.length:=i9;obtain⟨C3,ai⟩:=p7 (cs[B]);have a9:C3.length=N:=E C3 (by rw[ai];exact B7 ah);have ax:a.2<N:=i9;have ba:a.2<C3.length:=i9;obtain⟨R,ay⟩:=p7 (C3[a.2]);have aj:TwI (GoX t l (n+cl) a.2) R:=by have:=H (n+cl) i9 i9 i9 a.2 ax;have bb:cs.getD (B) []=C3:=(by rw[u9,m7 ah,ai];rfl);have bc:C3.getD a.2 []=R:=(by rw[u9,m7 ba,ay];rfl);rw[←aw,bb,bc]at this;exact this
          simp[a3,a5,a6,a8,g,a7,ah,←ai,a9,ax,←ay];refine E3 (fun(y:LC5) vs h=>y.r≤R.length∧TwI (fun u=>SX t l n ac A j u∨∃v∈R.take y.r,u=prt t a.1++v) y.two∧
           vs=[AGR t,CL l,.nils,.eptr 0 1 5 1 0 0,w4,IN n,.nown 0 1 w q 0 0 N,IN k,.slc (y.two.map St),.ptr 3 (r3.1+1) 0,y.w10,IN 5,.bool false,.bool true,IN N,IN k,.bool true,w17,.slc (A.map (AG t)),IN A.length,IN j,.bool true,.bool false,.slc (R.map St),IN R.length,IN y.r,y.w26]∧
           h=[(1,.arr 1 w false ((cs.set q C2).map KQ)),(G,.dead),r2,(r3.1+1,.var [St (prt t a.1),CL (cls t a.1),IN a.2]),y.r4]) (fun y=>R.length-y.r)
           ⟨0,two,r4,w10,w26⟩ ⟨D6 _,a2.iff fun u=>⟨fun h=>h.elim id fun⟨v,bd,_⟩=>(by cases bd),.inl⟩,rfl,l5⟩ ?_
          rintro⟨r,two,r4,w10,w26⟩ vs h ⟨be,Y,rfl,rfl⟩ Q6 bf bg bD;dsimp only at be Y;by_cases hr:r<R.length
          . have bE:=aj.le;have bh:=wk1 r i9;have bi:=c4L two (prt t a.1++R[r]);have bF:=GoX.len d (aj.sd _ (B7 hr));have bG:=b4p d a.1;have hlen:¬(9223372036854775807:Int)<((prt t a.1).length:Int)+(R[r].length:Int):=i9;simp[hr,hlen];refine m6 bi ?_;simp[bh];exact bf ⟨r+1,a1Z two (prt t a.1++R[r]),_,_,_⟩ _ _ s5 ⟨s5,(Y.ins _).iff fun u=>c9c hr,rfl,by simp;rfl⟩
          . obtain rfl:r=R.length:=i9;rw[M4]at Y;have bj:=Y.close aj;simp;refine bg _ _ _ ?_;simp[aq];exact ap ⟨j+1,two,r2,_,r4,_,_,_,_,_,_,_,_,_⟩ _ _ s5 ⟨s5,bj.iff fun u=>(c5c hj (by rw[←b];exact W) u).trans (by rw[←b,←T]),rfl,by simp;rfl⟩
         |false=>
          have W:¬fits t l n a.1:=fun h=>(by have:=au.2 h;cases this);simp[aq];exact ap ⟨j+1,two,r2,_,r4,_,_,_,_,_,_,_,_,_⟩ _ _ s5 ⟨s5,a2.iff (c7p hj (by rw[←b];exact W)),rfl,by simp;rfl⟩
       . obtain rfl:j=A.length:=i9;have bk:TwI (GoX t l n k) two:=a2.iff fun u=>(by rw[O];exact c5A d ag an aU u);simp;refine aZ _ _ _ ?_;have ak:k<C2.length:=i9;have bl:((cs.map KQ).set q (KQ C2))[q]?=some (KQ C2):=F8 (by rw[N5];exact M);have bH:k<C2.length:=ak;have bm:PV.uslc ((C2.map fun two=>PV.slc (two.map St)).set k (.slc (two.map St)))=KQ (C2.set k two):=by
          unfold KQ;rw[H9]
         simp[z2,ab,f,ak,bl];rw[bm,←H9];exact aR ⟨k+1,C2.set k two,w,_,_,_,_,_,_,_,_,_,_,_,_,_,_,_,_,_,_⟩ _ _ s5 ⟨s5,by rw[a4D];exact z2,fun F Z=>c9j (P:=fun F L=>TwI (GoX t l n F) L) z3 ak bk Z,rfl,rfl⟩
       )
    . obtain rfl:k=N:=i9;have bn:IntKind.i64.wrap ((n:Int)-1)=(n:Int)-1:=I9;simp;refine aS _ _ _ ?_;simp[bn];rw[←H9];refine aJ ⟨n,cs.set q C2,w,G,r2,r3,r4,w4,_,_,_,_,_,_,_,_,_,_,_,_,_,_,_,_,_,_,_⟩ _ _ s5 ⟨s5,by rw[a4D];exact g,fun c D=>?_,fun p h1 ae bo F Z=>?_,rfl,rfl⟩
      . rcases a5f D with D|rfl
        . exact E c D
        . exact z2
      . dsimp only at h1 bo⊢;by_cases hp:p%5=q
        . have bp:p=n:=i9;subst bp;have e:(cs.set q C2).getD q []=C2:=(by rw[u9,F8 M];rfl);rw[hp,e];exact z3 F Z
        . have e:(cs.set q C2).getD (p%5) []=cs.getD (p%5) []:=(by rw[u9,F7 (fun e=>hp e.symm),←u9]);rw[e];exact H p i9 ae i9 F Z
def CkR(t:j9)(r:PV):Prop:=(r=.tup [.agg [.nils,St [],St []],I 0]∧¬Two t)∨∃(l:By) (a b:By),r=.tup [.agg [.slc (l.map UB),St a,St b],I 50]∧l.length≤260128513∧T8 t (l.map UInt8.toNat) a∧T8 t (l.map UInt8.toNat) b∧bL a b=true∧a≠b
theorem b5b(t:j9)(e:s8 t)(o:Sm t):∃r,CkR t r∧F0 17 [1,0,0,0] [TP t] r:=by
 refine a1C mixed (X:=X17) c17 41 (by simp[X17]) (by kernel_rfl) fun Q m N=>?_;have n:=b4E t e.ok;have p:U6 t=true:=(a9q t).2 e;rw[p]at n;have q:=c8e t e;simp[X17];refine m6 n ?_;simp;refine m6 q ?_;simp;obtain⟨x,d⟩:∃x:RX,x=⟨(1,.var [IN t.modes,UN t.accept,.slc (t.rules.map RP)]),(1,.var [.nils,St [],St []]),dd,dd,dd,dd,dd,dd,dd,dd,dd,dd,dd,dd,dd,dd,dd,dd,dd,dd,dd,dd,dd,dd,dd,dd,dd,dd,dd,dd,dd,dd,dd,dd,dd,dd⟩:=⟨_,rfl⟩
 obtain⟨O,s,u⟩:=d0m t x;refine a2Q s u (by rw[d]) ?_;simp;obtain⟨P,v,f,y⟩:=c9x t e o x (by rw[d]) (by rw[d]);obtain⟨H,i⟩:=ex1 (p8 (SH t ([],[]) [] 0 x) v);rw[i]at f;have R:H.length=41:=by rw[←i,a6i];rfl
 refine a2Q y i rfl ?_;obtain⟨f,z⟩:=f;obtain⟨T,rfl⟩:∃T,H=x.c0::x.c1::x.c2::T:=⟨H.drop 3,by rw[←a9y 3 H,z];rfl⟩
 subst d;have j:T.length=38:=by grind
 rcases f with⟨rfl,A⟩|⟨w,g,rfl,k,B,a0,S,C,D,E⟩
 . simp[j];refine m _ _ _ (.inl ⟨rfl,A⟩) ?_;simp[X17]
 . obtain⟨U,F⟩:∃h:12<T.length,T[12]=(g,.arr 1 0 false (w.map UB)):=by
    have k:T[12]?=some (g,.arr 1 0 false (w.map UB)):=k;exact B8.1 k
   obtain⟨r2,⟨L,rfl,l⟩,hle⟩:=c3I t e (w.map UInt8.toNat) (by grind);obtain⟨a,b,rfl,G,I⟩:=l.diff C D E;have J:CL (w.map UInt8.toNat)=.slc (w.map UB):=(by unfold CL;rw[a1w];rfl);rw[J]at hle;have K:(∀x,x∈w.map UB→D5 x=true)=True:=eq_true fun x d=>by obtain⟨c,_,rfl⟩:=E5.1 d;rfl
   have M:List.map B4 (w.map UB)=w.map UB:=(by rw[a1w];exact K3 fun _ _=>rfl);simp[j,F,K,M];refine m6 hle ?_;simp[j];refine m _ _ _ (.inr ⟨w,a,b,rfl,B,l.sd a l5,l.sd b l5,G,I⟩) ?_;simp[X17]
theorem b5f(t:j9)(f:s8 t)(g:Sm t):∃c:Bool,(c=true↔¬Two t)∧F0 9 [0] [TP t] (B c):=by
 obtain⟨r,hr,e⟩:=b5b t f g;rcases hr with⟨rfl,i⟩|⟨w,a,b,rfl,m,j,hb,n,k⟩
 . refine⟨true,⟨fun _=>i,fun _=>rfl⟩,?_⟩;refine E4 c9 3 (by simp[X9]) fun Q d l=>?_;simp[X9];refine m6 e ?_;simp;refine d _ _ ?_;simp[X9]
 . refine⟨false,⟨fun h=>(by cases h),fun h=>absurd ⟨_,a,b,j,hb,k⟩ h⟩,?_⟩;refine E4 c9 3 (by simp[X9]) fun Q d l=>?_;simp[X9];refine m6 e ?_;simp;refine d _ _ ?_;simp[X9]
set_option maxHeartbeats 8000000
theorem c7w(b:UInt8):F0 62 [0] [U b.toNat] (B (a0H b)):=by
 refine E4 c62 0 (by simp[X62]) fun Q a c=>?_;have h:=a9m b;simp[X62,h];by_cases h1:32≤P9 b
 . simp[h1];refine a _ _ ?_;simp[X62,a0H,h1,h]
 . simp[h1];refine a _ _ ?_;simp[X62,a0H,h1]
theorem c4g(b:UInt8):F0 120 [0] [U b.toNat] (B (decide (P9 b=32))):=by refine E4 c120 0 (by simp[a9K]) fun Q a c=>?_;have h:=a9m b;simp[a9K,h];refine a _ _ ?_;simp[a9K]
theorem b7h(s:By)(hs:s.length≤1100000000):F0 24 [0,0] [St s] (a4v s):=by
 refine E4 c24 0 (by simp[X24]) fun Q a l=>?_;simp[X24];refine I6 (fun(k:Nat) vs h=>k≤s.length∧(∀j,(hj:j<s.length)→j<k→a0H s[j]=true)∧vs=[St s,.uu,.uu,IN k,.uu,.uu]∧h=[]) (fun k=>s.length-k) 0 ?_ ?_
 . simp
 . rintro k vs h ⟨g1,g2,rfl,rfl⟩ Q' e f g;by_cases c:k<s.length
   . have hw:=wk1 k i9;simp[c];refine m6 (c7w s[k]) ?_;cases d:a0H s[k]
     . simp;refine g _ _ ?_;simp;have:Z8 s=some k:=by
        unfold Z8;rw[a1Y];exact⟨c,by simp[d],fun j hj=>by simp[g2 j i9 hj]⟩
       refine a _ _ ?_;simp[X24,this]
     . simp[hw];refine e (k+1) _ _ i9 ?_;simp;refine⟨i9,fun j hj m=>?_⟩;by_cases i:j<k
       . exact g2 j hj i
       . obtain rfl:j=k:=i9;exact d
   . obtain rfl:k=s.length:=i9;have:Z8 s=none:=by
      unfold Z8;rw[a5P];intro b hb;obtain⟨j,hj,rfl⟩:=a1t hb;simp[g2 j hj hj]
     simp;refine f _ _ _ ?_;simp;refine a _ _ ?_;simp[X24,this]
theorem c7Z(s:By)(hs:s.length≤1100000000):F0 119 [0] [St s] (B (Z8 s).isNone):=by refine E4 c119 0 (by simp[b0V]) fun Q a b=>?_;simp[b0V];refine m6 (b7h s hs) ?_;simp;refine a _ _ ?_;cases hb:Z8 s<;>simp[b0V,hb]
theorem b3J(a b:List Nat)(q:a.length≤1100000000):F0 29 [0] [CL a,CL b] (B (decide (a=b))):=by
 refine E4 c29 0 (by simp[X29]) fun Q g r=>?_;by_cases c:a.length=b.length
 . simp[X29,c];refine I6 (fun(k:Nat) vs h=>k≤b.length∧(∀j,(hj:j<b.length)→j<k→a[j]'i9=b[j])∧vs=[CL a,CL b,.uu,IN k,.uu,.uu,.uu]∧h=[]) (fun k=>b.length-k) 0 ?_ ?_
   . simp
   . rintro k vs h ⟨g1,g2,rfl,rfl⟩ Q' m n o;by_cases i:k<b.length
     . have hw:=wk1 k i9;have l:k<a.length:=i9;by_cases d:a[k]=b[k]
       . simp[i,l,d,hw];refine m (k+1) _ _ i9 ?_;simp;refine⟨i9,fun j hj s=>?_⟩;by_cases f:j<k
         . exact g2 j hj f
         . obtain rfl:j=k:=i9;exact d
       . have:¬a=b:=fun e=>d (by subst e;rfl);have p:¬((a[k]:Nat):Int)=b[k]:=i9;simp[i,l,d,p];refine o _ _ ?_;simp;refine g _ _ ?_;simp[X29,this]
     . obtain rfl:k=b.length:=i9;have:a=b:=W3 c fun j h1 f=>g2 j f f;simp[c];refine n _ _ _ ?_;simp;refine g _ _ ?_;simp[X29,this]
 . simp[X29,c];refine g _ _ ?_;have:¬a=b:=fun e=>c (by rw[e]);simp[X29,this]
theorem d0g(a b:O9)(j:a.cells.length≤1100000000):F0 102 [0] [RP a,RP b] (B (decide (a=b))):=by
 refine E4 c102 2 (by simp[a2A]) fun Q e l=>?_;have he:=b6R a b;have d:=b3J a.cells b.cells j;by_cases c:a.print=b.print
 . by_cases h:a.cells=b.cells
   . rw[decide_eq_true h]at d;by_cases f:a.left=b.left
     . by_cases g:a.right=b.right
       . by_cases h1:a.src=b.src
         . by_cases i:a.dst=b.dst<;>
           . simp[a2A,c];refine m6 d ?_;simp[f,g,h1,i];refine e _ _ ?_;simp[a2A,he,h1,i,f,g,c,h]
         . simp[a2A,c];refine m6 d ?_;simp[f,g,h1];refine e _ _ ?_;simp[a2A,he,h1]
       . simp[a2A,c];refine m6 d ?_;simp[f,g];refine e _ _ ?_;simp[a2A,he,g]
     . simp[a2A,c];refine m6 d ?_;simp[f];refine e _ _ ?_;simp[a2A,he,f]
   . rw[decide_eq_false h]at d;simp[a2A,c];refine m6 d ?_;simp;refine e _ _ ?_;simp[a2A,he,h]
 . have k:(a.print==b.print)=false:=beq_eq_false_iff_ne.2 c;simp[a2A,k];refine e _ _ ?_;simp[a2A,he,c]
theorem c4G(b:UInt8):decide (a1r b=4)=decide (P9 b=32):=by
 unfold a1r;have:=c2F b;congr 1;apply propext;split
 . constructor<;>intro h<;>omega
 split
 . constructor<;>intro h<;>omega
 split
 . constructor<;>intro h<;>omega
 split
 . constructor<;>intro h<;>omega
 . constructor<;>intro h<;>omega
theorem c1u(r:O9)(m:Nat)(hr:OkR r)(hm:m≤1000000):F0 101 [0] [RP r,IN m] (B (a0F r m)):=by
 refine E4 c101 2 (by simp[V5]) fun Q a W=>?_;have he:a0F r m=(if 4<r.print.length∨r.cells.length<1∨4<r.cells.length then false
  else if(Z8 r.print).isSome then false
  else if r.left<1∨63<r.left∨r.right<1∨63<r.right then false
  else if m≤r.src∨m≤r.dst then false
  else if a3c r.print then decide (r.print.length=1∧r.cells=[0])
  else r.cells.all fun c=>decide (c<64)&&decide (c≠63)&&decide (c≠0)):=rfl
 have X:=hr.print;have Y:=hr.cells;have f:=c7Z r.print i9;cases hb:Z8 r.print with
 |some k=>
  have J:a0F r m=false:=by grind
  rw[hb]at f;simp[V5];refine m6 f ?_;simp;refine a _ _ ?_;simp[V5,J]
 |none=>
  rw[hb]at f;by_cases g:4<r.print.length
  . simp[V5];refine m6 f ?_;simp[g];refine a _ _ ?_;simp[V5,he,g]
  by_cases a2:r.cells.length<1
  . simp[V5];refine m6 f ?_;simp[g,a2];refine a _ _ ?_;simp[V5,he,a2]
  by_cases a3:4<r.cells.length
  . simp[V5];refine m6 f ?_;simp[g,a2,a3];refine a _ _ ?_;simp[V5,he,a3]
  rw[if_neg i9,if_neg (by simp[hb])]at he;by_cases l:r.left<1
  . simp[V5];refine m6 f ?_;simp[g,a2,a3,l];refine a _ _ ?_;simp[V5,he,l]
  by_cases p:63<r.left
  . simp[V5];refine m6 f ?_;simp[g,a2,a3,l,p];refine a _ _ ?_;simp[V5,he,p]
  by_cases q:r.right<1
  . simp[V5];refine m6 f ?_;simp[g,a2,a3,l,p,q];refine a _ _ ?_;simp[V5,he,q]
  by_cases s:63<r.right
  . simp[V5];refine m6 f ?_;simp[g,a2,a3,l,p,q,s];refine a _ _ ?_;simp[V5,he,s]
  rw[if_neg i9]at he;by_cases u:m≤r.src
  . simp[V5];refine m6 f ?_;simp[g,a2,a3,l,p,q,s,u];refine a _ _ ?_;simp[V5,he,u]
  by_cases w:m≤r.dst
  . simp[V5];refine m6 f ?_;simp[g,a2,a3,l,p,q,s,u,w];refine a _ _ ?_;simp[V5,he,w]
  rw[if_neg i9]at he;simp[V5];refine m6 f ?_;simp[g,a2,a3,l,p,q,s,u,w];obtain⟨n,v⟩:∃n:Nat→Bool,∀k,n k=(r.print.take k).any fun b=>decide (P9 b=32):=⟨_,fun _=>rfl⟩
  obtain⟨o,x⟩:∃o:Nat→Bool,∀k,o k=(r.cells.take k).any fun c=>decide (c=0):=⟨_,fun _=>rfl⟩
  have K:n 0=false:=by rw[v];rfl
  have L:o 0=false:=by rw[x];rfl
  have M:∀k,(d:k<r.print.length)→n (k+1)=(n k||decide (P9 r.print[k]=32)):=fun k d=>by rw[v,v,L3,List.any_append,m7 d];simp
  have N:∀k,(d:k<r.cells.length)→o (k+1)=(o k||decide (r.cells[k]=0)):=fun k d=>by rw[x,x,L3,List.any_append,m7 d];simp
  have O:n r.print.length=a3c r.print:=by rw[v,M4];unfold a3c;simp only[c4G]
  refine I6 (fun(k:Nat) vs h=>k≤r.print.length∧vs=[.uu,.uu,.ptr 1 1 0,.uu,B (n k),.bool false,IN k,.uu,.uu,.uu,.uu,.uu,.uu,.uu]∧
   h=[dd,(1,.var [St r.print,CL r.cells,UN r.left,UN r.right,IN r.src,IN r.dst])]) (fun k=>r.print.length-k) 0 ?_ ?_
  . simp[K]
  . rintro k vs h ⟨g1,rfl,rfl⟩ Q' C P Z;by_cases d:k<r.print.length
    . have hw:=wk1 k i9;have i:=M k d;cases D:n k
      . rw[D,Bool.false_or]at i;have t:=c4g r.print[k];rw[←i]at t;simp[d];refine m6 t ?_;simp[hw];refine C (k+1) _ _ i9 ?_;simp;omega
      . rw[D,Bool.true_or]at i;simp[d,hw];refine C (k+1) _ _ i9 ?_;simp[i];omega
    . obtain rfl:k=r.print.length:=i9;rw[O];simp;refine P _ _ _ ?_;simp;obtain⟨sp,t⟩:=p7 (a3c r.print);rw[←t];rw[←t]at he;refine I6 (fun(k:Nat) vs h=>k≤r.cells.length∧(∀j,(hj:j<r.cells.length)→j<k→r.cells[j]<63)∧vs=[.uu,.uu,.ptr 1 1 0,.uu,B sp,B (o k),.uu,IN k,.uu,.uu,.uu,.uu,.uu,.uu]∧
       h=[dd,(1,.var [St r.print,CL r.cells,UN r.left,UN r.right,IN r.src,IN r.dst])]) (fun k=>r.cells.length-k) 0 ?_ ?_
      . simp[L]
      . rintro k vs h ⟨aa,E,rfl,rfl⟩ Q2 F R S;by_cases d:k<r.cells.length
        . have hw:=wk1 k i9;have i:=N k d;by_cases y:63≤r.cells[k]
          . have z:a0F r m=false:=by
             rw[he];cases sp
             . rw[if_neg l5];exact List.all_eq_false.2 ⟨_,B7 d,I2⟩
             . grind
            simp[d,y];refine S _ _ ?_;simp;refine a _ _ ?_;simp[V5,z]
          . have A:∀j,(hj:j<r.cells.length)→j<k+1→r.cells[j]<63:=fun j hj ab=>by
             by_cases T:j<k
             . exact E j hj T
             . obtain rfl:j=k:=i9;omega
            cases G:o k
            . rw[G,Bool.false_or]at i;simp[d,y,hw,←i];refine F (k+1) _ _ i9 ?_;simp;exact⟨i9,A⟩
            . rw[G,Bool.true_or]at i;simp[d,y,hw];refine F (k+1) _ _ i9 ?_;simp[i];exact⟨i9,A⟩
        . obtain rfl:k=r.cells.length:=i9;obtain⟨bl,U⟩:=p7 (o r.cells.length);rw[←U];have H:bl=r.cells.any fun c=>decide (c=0):=(by grind);have A:∀c∈r.cells,c<63:=fun c V=>by
           obtain⟨j,hj,rfl⟩:=a1t V;exact E j hj hj
          simp;refine R _ _ _ ?_;cases sp with
          |false=>
           have z:a0F r m=!bl:=(by grind);simp;refine a _ _ ?_;simp[V5,z]
          |true=>
           rw[if_pos rfl]at he;by_cases f1:r.print.length=1
           . by_cases f2:r.cells.length=1
             . obtain⟨c0,I⟩:=a9E.1 f2;rw[I]at he H;simp[f1,I];refine a _ _ ?_;simp[V5,he,f1,H]
             . have:¬r.cells=[0]:=fun e=>f2 (by rw[e];rfl);simp[f1,f2];refine a _ _ ?_;simp[V5,he,f1,this]
           . simp[f1];refine a _ _ ?_;simp[V5,he,f1]
theorem c8U(t:j9)(v:OkT t):∃i e:Int,(e=0↔U6 t=true)∧F0 68 [0,0] [TP t] (.tup [I i,I e]):=by
 suffices z:∃r,(∃i e:Int,(e=0↔U6 t=true)∧r=.tup [I i,I e])∧F0 68 [0,0] [TP t] r by obtain⟨r,⟨i,e,h1,rfl⟩,c⟩:=z;exact⟨i,e,h1,c⟩
 refine a1C mixed (X:=X68) c68 2 (by simp[X68]) (by kernel_rfl) fun Q a N=>?_;have g:U6 t=(if t.modes<1∨8<t.modes then false
  else if t.accept=0∨2^t.modes≤t.accept then false
  else if t.rules.length<1∨64<t.rules.length then false
  else(t.rules.all fun r=>a0F r t.modes)&&decide t.rules.Nodup):=rfl
 have b:∀i e:Int,e≠0→U6 t=false→∃A w:Int,(w=0↔U6 t=true)∧PV.tup [I i,I e]=.tup [I A,I w]:=fun i e he h=>⟨i,e,by simp[he,h],rfl⟩
 by_cases d:t.modes<1
 . simp[X68,d];refine a _ _ _ (b (-1) 1 I7 (by grind)) ?_;simp[X68]
 by_cases a2:8<t.modes
 . simp[X68,d,a2];refine a _ _ _ (b (-1) 1 I7 (by grind)) ?_;simp[X68]
 rw[if_neg i9]at g;by_cases a3:t.accept=0
 . simp[X68,d,a2,a3];refine a _ _ _ (b (-1) 1 I7 (by grind)) ?_;simp[X68]
 have o:=b9p (m:=t.modes) i9;have O:=v.accept;have p:IntKind.i64.wrap (t.accept:Int)=t.accept:=I9;have q:((2:Int)^t.modes≤(t.accept:Int))=(2^t.modes≤t.accept):=by grind
 by_cases a4:2^t.modes≤t.accept
 . simp[X68,d,a2,a3,IntKind.bits,o,p,q,a4];refine a _ _ _ (b (-1) 1 I7 (by grind)) ?_;simp[X68]
 rw[if_neg i9]at g;by_cases a5:t.rules.length<1
 . have B:t.rules=[]:=a0V.1 i9;simp[X68,d,a2,a3,IntKind.bits,o,p,q,a4,B];refine a _ _ _ (b (-1) 1 I7 (by grind)) ?_;simp[X68]
 by_cases x:64<t.rules.length
 . simp[X68,d,a2,a3,IntKind.bits,o,p,q,a4,a5,x];refine a _ _ _ (b (-1) 1 I7 (by grind)) ?_;simp[X68]
 rw[if_neg i9]at g;simp[X68,d,a2,a3,IntKind.bits,o,p,q,a4,a5,x];refine I6 (fun(k:Nat) vs h=>k≤t.rules.length∧b3f t k∧vs=[.uu,.ptr 1 1 0,.uu,.uu,IN k,.uu,.uu,.uu,.uu,.uu,.uu]∧
  h=[dd,(1,.var [IN t.modes,UN t.accept,.slc (t.rules.map RP)])]) (fun k=>t.rules.length-k) 0 ?_ ?_
 . simp;exact⟨fun j _ h=>absurd h i9,fun i j _ _ h=>absurd h i9⟩
 . rintro k vs h ⟨g1,g2,rfl,rfl⟩ Q' C D y;by_cases f:k<t.rules.length
   . have hw:=wk1 k i9;have E:=v.a1p _ (B7 f);have s:=c1u t.rules[k] t.modes E i9;cases hs:a0F t.rules[k] t.modes
     . have l:U6 t=false:=by
        rw[g,show(t.rules.all fun r=>a0F r t.modes)=false from List.all_eq_false.2 ⟨_,B7 f,by simp[hs]⟩];rfl
       rw[hs]at s;simp[f];refine m6 s ?_;simp;refine y _ _ ?_;simp;refine a _ _ _ (b k 20 I7 l) ?_;simp[X68]
     . rw[hs]at s;simp[f];refine m6 s ?_;simp;refine I6 (fun(j:Nat) vs h=>j≤k∧(∀i,(hi:i<j)→(n:j≤k)→t.rules[i]≠t.rules[k])∧vs=[.uu,.ptr 1 1 0,.uu,.uu,IN k,IN j,.uu,.uu,.uu,.uu,.uu]∧
        h=[dd,(1,.var [IN t.modes,UN t.accept,.slc (t.rules.map RP)])]) (fun j=>k-j) 0 ?_ ?_
       . simp
       . rintro j vs h ⟨F,G,rfl,rfl⟩ Q'' H J K;by_cases hj:j<k
         . have u:j<t.rules.length:=i9;have L:=wk1 j i9;have heq:=d0g t.rules[j] t.rules[k] (by have:=(v.a1p _ (B7 u)).cells;omega);by_cases n:t.rules[j]=t.rules[k]
           . have l:U6 t=false:=by
              rw[g,show decide t.rules.Nodup=false from decide_eq_false fun M=>a5Q.1 M j k u f hj n,Bool.and_false]
             simp only[n,decide_true]at heq;simp[hj,u,f,n];refine m6 heq ?_;simp;refine K _ _ ?_;simp;refine y _ _ ?_;simp;refine a _ _ _ (b k 20 I7 l) ?_;simp[X68]
           . simp only[n,decide_false]at heq;simp[hj,u,f];refine m6 heq ?_;simp[L];refine H (j+1) _ _ i9 ?_;simp;refine⟨i9,fun i hi P=>?_⟩;by_cases c:i<j
             . exact G i c F
             . grind
         . obtain rfl:j=k:=i9;simp;refine J _ _ _ ?_;simp[hw];refine C (j+1) _ _ i9 ?_;simp;refine⟨i9,fun i hi R=>?_,fun i m hm hi S=>?_⟩
           . by_cases c:i<j
             . exact g2.1 i hi c
             . obtain rfl:i=j:=i9;exact hs
           . by_cases c:m<j
             . exact g2.2 i m hm hi c
             . grind
   . obtain rfl:k=t.rules.length:=i9;have l:U6 t=true:=(by rw[g];exact b5R g2);simp;refine D _ _ _ ?_;simp;refine a _ _ _ ⟨0,0,by simp[l],rfl⟩ ?_;simp[X68]
theorem c1T(t:j9)(a:OkT t):F0 33 [0] [TP t] (B (U6 t)):=by refine E4 c33 1 (by simp[X33]) fun Q b f=>?_;obtain⟨i,e,he,c⟩:=c8U t a;simp[X33];refine m6 c ?_;simp;refine b _ _ ?_;simp[X33];cases d:U6 t<;>simp[d]at he⊢ <;>exact he
set_option maxHeartbeats 16000000
def H7(p:By)(cs:List Nat)(a b:Nat):O9:=⟨p,cs,63,63,a,b⟩
def P8(c k a b:Nat):O9:=⟨[],[c],63,2^k,a,b⟩
theorem a0C(p:By)(cs:List Nat)(a b:Nat):F0 66 [0,1,0,0,0,0] [St p,CL cs,.agg [IN a,IN b]] (RP (H7 p cs a b)):=by refine E4 c66 2 (by simp[X66]) fun Q c d=>?_;simp[X66];refine c _ _ ?_;simp[X66,H7]
theorem b2x(c k a b:Nat)(e:k≤3):F0 65 [0,1,0,0,0,0] [UN c,IN k,.agg [IN a,IN b]] (RP (P8 c k a b)):=by
 refine E4 c65 4 (by simp[X65]) fun Q d f=>?_;have hs:=a0C [] [c] a b;simp[X65];refine m6 hs ?_;have hw:IntKind.u8.wrap (2^min k IntKind.u8.bits)=((2^k:Nat):Int):=by
  have:∀n:Fin 4,IntKind.u8.wrap (2^min n.val IntKind.u8.bits)=((2^n.val:Nat):Int):=by decide+kernel
  exact this ⟨k,i9⟩
 simp[H7,hw];refine d _ _ ?_;simp[X65,P8]
def a1c:List O9:=[H7 [97] [1] 0 0,H7 [98] [3] 0 0,H7 [99] [9] 0 0,H7 [32] [0] 0 0]
theorem c3k:F0 64 [6] [] (.uslc (a1c.map RP)):=by refine E4 c64 6 (by simp[X64]) fun Q a b=>?_;simp[X64];refine m6 (a0C [97] [1] 0 0) ?_;simp[H7];refine m6 (a0C [98] [3] 0 0) ?_;simp[H7];refine m6 (a0C [99] [9] 0 0) ?_;simp[H7];refine m6 (a0C [32] [0] 0 0) ?_;simp[H7];refine a _ _ ?_;simp[X64,a1c,H7]
def a4Q(k:Nat):List O9:=match k with
 |1=>a1c++[P8 60 3 0 1,H7 [49] [1] 1 1,H7 [50] [3] 1 1,H7 [32] [0] 1 0]
 |2=>a1c++[P8 32 2 0 1,H7 [65] [1] 1 0,H7 [66] [3] 1 0]
 |3=>a1c++[H7 [97,98] [7] 0 0,H7 [97,98,99] [15] 0 0,H7 [99,97] [4,4] 0 0]
 |4=>a1c++[H7 [45] [1,3] 0 0]
 |5=>a1c++[{H7 [98] [44] 0 0 with left:=17},{H7 [99,97,98] [44] 0 0 with left:=2},H7 [45] [36] 0 0]
 |6=>a1c++[P8 40 1 0 1,H7 [225] [1] 1 0,H7 [226] [3] 1 0]
 |7=>a1c++[H7 [45] [1,5] 0 0,H7 [49] [5,5] 0 0,H7 [50] [5,9] 0 0]
 |_=>a1c
def H8(k:Nat):j9:=⟨if k=1∨k=2∨k=6 then 2 else 1,if k=1 then 3 else 1,a4Q k⟩
theorem b6H(L:List O9):∀x,x∈L.map RP→D5 x=true:=fun x a=>by obtain⟨g,_,rfl⟩:=E5.1 a;rfl
@[simp ↓] theorem d2V(L:List O9):(∀x,x∈L.map RP→D5 x=true)=True:=eq_true (b6H L)
@[simp ↓] theorem d2K(L:List O9):(L.map RP).all D5=true:=B0.2 (b6H L)
@[simp] theorem d2R(L:List O9):List.map (B4∘RP) L=L.map RP:=K3 fun g _=>rfl
theorem b2K(k:UInt8):F0 28 [0,0,6] [U k.toNat] (TP (H8 (k.toNat%8))):=by
 refine E4 c28 42 (by simp[X28]) fun Q b f=>?_;have hm:(k.toNat:Int).tmod 8=((k.toNat%8:Nat):Int):=rfl;obtain⟨q,c⟩:=p7 (k.toNat%8);rw[←c]at hm;rw[←c]at b;have d:q<8:=i9;have e:=c3k;have a:a1c.length=4:=rfl;simp[X28];refine m6 e ?_
 match q,d with
 |0,_=>
  simp[hm];refine b _ _ ?_;simp[X28,H8,a4Q,a1c,H7,P8]
 |1,_=>
  simp[hm];refine m6 (b2x 60 3 0 1 i9) ?_;simp[H7,P8,a];refine m6 (a0C [49] [1] 1 1) ?_;simp[H7,P8,a];refine m6 (a0C [50] [3] 1 1) ?_;simp[H7,P8,a];refine m6 (a0C [32] [0] 1 0) ?_;simp[H7,P8,a];refine b _ _ ?_;simp[X28,H8,a4Q,a1c,H7,P8]
 |2,_=>
  simp[hm];refine m6 (b2x 32 2 0 1 i9) ?_;simp[H7,P8,a];refine m6 (a0C [65] [1] 1 0) ?_;simp[H7,P8,a];refine m6 (a0C [66] [3] 1 0) ?_;simp[H7,P8,a];refine b _ _ ?_;simp[X28,H8,a4Q,a1c,H7,P8]
 |3,_=>
  simp[hm];refine m6 (a0C [97,98] [7] 0 0) ?_;simp[H7,P8,a];refine m6 (a0C [97,98,99] [15] 0 0) ?_;simp[H7,P8,a];refine m6 (a0C [99,97] [4,4] 0 0) ?_;simp[H7,P8,a];refine b _ _ ?_;simp[X28,H8,a4Q,a1c,H7,P8]
 |4,_=>
  simp[hm];refine m6 (a0C [45] [1,3] 0 0) ?_;simp[H7,P8,a];refine b _ _ ?_;simp[X28,H8,a4Q,a1c,H7,P8]
 |5,_=>
  simp[hm];refine m6 (a0C [98] [44] 0 0) ?_;simp[H7,P8,a];refine m6 (a0C [99,97,98] [44] 0 0) ?_;simp[H7,P8,a];refine m6 (a0C [45] [36] 0 0) ?_;simp[H7,P8,a];refine b _ _ ?_;simp[X28,H8,a4Q,a1c,H7,P8]
 |6,_=>
  simp[hm];refine m6 (b2x 40 1 0 1 i9) ?_;simp[H7,P8,a];refine m6 (a0C [225] [1] 1 0) ?_;simp[H7,P8,a];refine m6 (a0C [226] [3] 1 0) ?_;simp[H7,P8,a];refine b _ _ ?_;simp[X28,H8,a4Q,a1c,H7,P8]
 |7,_=>
  simp[hm];refine m6 (a0C [45] [1,5] 0 0) ?_;simp[H7,P8,a];refine m6 (a0C [49] [5,5] 0 0) ?_;simp[H7,P8,a];refine m6 (a0C [50] [5,9] 0 0) ?_;simp[H7,P8,a];refine b _ _ ?_;simp[X28,H8,a4Q,a1c,H7,P8]
 |q+8,h=>exact absurd h i9
theorem c6L:F0 27 [0,0,6] [] (TP (H8 0)):=by refine E4 c27 2 (by simp[X27]) fun Q a b=>?_;have hb:=b2K 0;simp[X27];refine m6 hb ?_;simp;refine a _ _ ?_;simp[X27]
structure RW where
 p:By
 c:By
 l:UInt8
 r:UInt8
 w0:UInt8
 w1:UInt8
abbrev RWP(x:RW):PV:=.agg [.slc (x.p.map UB),.slc (x.c.map UB),UB x.l,UB x.r,UB x.w0,UB x.w1]
def b6L:List Nat:=[63,63,2,8,17,62,4,1]
def b1Z:By:=[97,98,99,65,66,49,50,45,46]
def ccs:List Nat:=[1,3,9,5,7,32,44,60]
def a3Q(i:Nat):Nat:=b6L.getD i 0
def a2F(i:Nat):Nat:=ccs.getD i 0
def a2J(b:UInt8):UInt8:=b1Z.getD (b.toNat%9) 0
def ccB(b:UInt8):Nat:=a2F (b.toNat%8)
def a5G(x:RW)(m:Nat):O9:=⟨(x.p.take 3).map a2J,a2F (x.l.toNat/8%8)::(x.c.take 2).map ccB,a3Q (x.l.toNat%8),a3Q (x.r.toNat%8),x.w0.toNat%m,x.w1.toNat%m⟩
abbrev RU(r:O9):PV:=.agg [St r.print,.uslc (r.cells.map UN),UN r.left,UN r.right,IN r.src,IN r.dst]
theorem b9P:∀i,(h:i<8)→([.int .u8 63,.int .u8 63,.int .u8 2,.int .u8 8,.int .u8 17,.int .u8 62,.int .u8 4,.int .u8 1]:List PV)[i]=UN (a3Q i)
 |0,_=>rfl
 |1,_=>rfl
 |2,_=>rfl
 |3,_=>rfl
 |4,_=>rfl
 |5,_=>rfl
 |6,_=>rfl
 |7,_=>rfl
 |i+8,h=>absurd h i9
theorem b8e:∀i,(h:i<8)→([.int .u8 1,.int .u8 3,.int .u8 9,.int .u8 5,.int .u8 7,.int .u8 32,.int .u8 44,.int .u8 60]:List PV)[i]=UN (a2F i)
 |0,_=>rfl
 |1,_=>rfl
 |2,_=>rfl
 |3,_=>rfl
 |4,_=>rfl
 |5,_=>rfl
 |6,_=>rfl
 |7,_=>rfl
 |i+8,h=>absurd h i9
theorem c2h:∀j,j<9→(List.drop j [97,98,99,65,66,49,50,45,46]).take 1=[b1Z.getD j 0]
 |0,_=>rfl
 |1,_=>rfl
 |2,_=>rfl
 |3,_=>rfl
 |4,_=>rfl
 |5,_=>rfl
 |6,_=>rfl
 |7,_=>rfl
 |8,_=>rfl
 |j+9,h=>absurd h i9
theorem c2G(x:RW)(m:Nat)(hm:1≤m)(au:m≤8)(hp:x.p.length≤9223372036854775807)(av:x.c.length≤9223372036854775807):F0 32 [0,1,0,0,0,0] [RWP x,IN m] (RU (a5G x m)):=by
 refine E4 c32 13 (by simp[X32]) fun Q r aw=>?_;have lt:=x.l.toNat_lt;have rt:=x.r.toNat_lt;have ax:=x.w0.toNat_lt;have ay:=x.w1.toNat_lt;obtain⟨d,s⟩:=p7 (x.l.toNat%8);obtain⟨e,t⟩:=p7 (x.r.toNat%8);have h1:(x.l.toNat:Int).tmod 8=(d:Int):=by rw[s];rfl
 have g:(x.r.toNat:Int).tmod 8=(e:Int):=by rw[t];rfl
 have u:d<8:=i9;have v:e<8:=i9;have P:=b9P d u;have R:=b9P e v;have S:IntKind.i64.wrap (x.w0.toNat:Int)=(x.w0.toNat:Int):=I9;have T:IntKind.i64.wrap (x.w1.toNat:Int)=(x.w1.toNat:Int):=I9;obtain⟨i,w⟩:=p7 (x.w0.toNat%m);obtain⟨l,y⟩:=p7 (x.w1.toNat%m);have U:(x.w0.toNat:Int).tmod (m:Int)=(i:Int):=by rw[w];rfl
 have V:(x.w1.toNat:Int).tmod (m:Int)=(l:Int):=by rw[y];rfl
 have W:¬((m:Int)=0):=i9;have X:¬(m=0):=i9;simp[X32,h1,g,u,v,P,R,S,T,U,V,W,X];refine I6 (fun(k:Nat) vs h=>k≤3∧k≤x.p.length∧vs=[.uu,.uu,.ptr 8 1 0,.ptr 9 1 0,.str ⟨#[97,98,99,65,66,49,50,45,46]⟩,.uu,.ptr 10 1 0,IN k,.uu,.uu,.uu,.uu,.uu]∧
  h=[dd,dd,dd,dd,dd,dd,dd,dd,(1,.var [.slc (x.p.map UB),.slc (x.c.map UB),UB x.l,UB x.r,UB x.w0,UB x.w1]),(1,.var [St [],.nils,UN 0,UN 0,IN 0,IN 0]),(1,.var [St ((x.p.take k).map a2J),.nils,UN (a3Q d),UN (a3Q e),IN i,IN l]),dd,dd]) (fun k=>3-k) 0 ?_ ?_
 . simp
 . rintro k vs h ⟨g1,g2,rfl,rfl⟩ Q' Y Z az;have hlen:((x.p.take k).map a2J).length=k:=(by grind);by_cases n:k<x.p.length∧k<3
   . obtain⟨f,aa⟩:=n;have hw:=wk1 k i9;obtain⟨b,hb⟩:=p7 (x.p[k]);obtain⟨j,hj⟩:=p7 (b.toNat%9);have o:(b.toNat:Int).tmod 9=(j:Int):=(by rw[hj];rfl);have z:j<9:=i9;have ab:IntKind.i64.wrap (j:Int)=(j:Int):=I9;have ac:IntKind.i64.wrap ((j:Int)+1)=(j:Int)+1:=I9;have ad:(j:Int)≤(j:Int)+1:=i9;have ae:(j:Int)+1≤9:=i9;have A:=c2h j z;have af:b1Z.getD j 0=a2J b:=(by unfold a2J;rw[←hj]);rw[af]at A;have c:(x.p.take (k+1)).map a2J=(x.p.take k).map a2J++[a2J b]:=by
      rw[L3,m7 f,Q9,←hb];rfl
     obtain⟨B,C⟩:=p7 ((x.p.take k).map a2J);rw[←C]at hlen c;rw[←C];have ag:¬(9223372036854775807:Int)<(B.length:Int)+1:=i9;obtain⟨pr2,D⟩:=p7 (B++[a2J b]);rw[←D]at c;simp[f,aa,←hb,o,z,ab,ac,hw,ad,ae,A,ag,←D];refine Y (k+1) _ _ i9 ?_;rw[c];simp;omega
   . have ah:(x.p.take k).map a2J=(x.p.take 3).map a2J:=by
      rcases a5O k 3 with p|p
      . grind
      . rw[show k=3 by omega]
     rw[ah];obtain⟨PF,E⟩:=p7 ((x.p.take 3).map a2J);rw[←E];have ai:(k<x.p.length∧¬k<3)∨(¬k<x.p.length∧True):=(by grind);obtain⟨a,F⟩:=p7 (x.l.toNat/8%8);have G:IntKind.u8.wrap ((x.l.toNat:Int)/8)=((x.l.toNat/8:Nat):Int):=b0c i9 i9;have H:((x.l.toNat/8:Nat):Int).tmod 8=(a:Int):=(by rw[F];rfl);have I:a<8:=i9;have aj:=b8e a I;generalize((x.l.toNat/8:Nat):Int)=ld at G H;rcases ai with⟨h1,g⟩|⟨h1,g⟩<;>simp[h1,g]<;>(
      refine Z _ _ _ ?_;simp[G,H,I,aj];refine I6 (fun(k:Nat) vs h=>k≤2∧k≤x.c.length∧vs=[.uu,.uu,.ptr 8 1 0,.ptr 9 1 0,.uu,.uu,.ptr 10 1 0,.uu,.uu,.own 11 1 8 1 0 8,IN k,.uu,.uu]∧
       h=[dd,dd,dd,dd,dd,dd,dd,dd,(1,.var [.slc (x.p.map UB),.slc (x.c.map UB),UB x.l,UB x.r,UB x.w0,UB x.w1]),(1,.var [St [],.nils,UN 0,UN 0,IN 0,IN 0]),(1,.var [St PF,.own 12 1 (k+1) 1 0 (k+1),UN (a3Q d),UN (a3Q e),IN i,IN l]),(1,.arr 1 0 false [.int .u8 1,.int .u8 3,.int .u8 9,.int .u8 5,.int .u8 7,.int .u8 32,.int .u8 44,.int .u8 60]),(1,.arr 1 0 false ((a2F a::(x.c.take k).map ccB).map UN))]) (fun k=>2-k) 0 ?_ ?_
      . simp
      . rintro k vs h ⟨aA,aB,rfl,rfl⟩ Q2 ak al aC;have hlen:(a2F a::(x.c.take k).map ccB).length=k+1:=(by grind);by_cases n:k<x.c.length∧k<2
        . obtain⟨f,am⟩:=n;have hw:=wk1 k i9;obtain⟨b,hb⟩:=p7 (x.c[k]);obtain⟨j,hj⟩:=p7 (b.toNat%8);have o:(b.toNat:Int).tmod 8=(j:Int):=(by rw[hj];rfl);have J:j<8:=i9;have K:=b8e j J;have an:a2F j=ccB b:=(by unfold ccB;rw[←hj]);rw[an]at K;have c:a2F a::(x.c.take (k+1)).map ccB=(a2F a::(x.c.take k).map ccB)++[ccB b]:=by
           rw[L3,m7 f,Q9,←hb];rfl
          obtain⟨cs,L⟩:∃cs,cs=a2F a::(x.c.take k).map ccB:=⟨_,rfl⟩
          rw[←L]at hlen c;rw[←L];obtain⟨ao,ap⟩:=p7 (cs++[ccB b]);rw[←ap]at c;have f1:cs.map UN++[.int .u8 (ccB b)]=ao.map UN:=(by grind);have f3:k+1+1≤140737488355328:=i9;simp[f,am,←hb,o,J,K,hw,hlen,f1,f3];refine ak (k+1) _ _ i9 ?_;rw[c];simp;omega
        . have M:a2F a::(x.c.take k).map ccB=a2F a::(x.c.take 2).map ccB:=by
           rcases a5O k 2 with p|p
           . grind
           . rw[show k=2 by omega]
          rw[M]at hlen;rw[M];obtain⟨CF,q⟩:∃CF,CF=a2F a::(x.c.take 2).map ccB:=⟨_,rfl⟩
          rw[←q]at hlen;rw[←q];have aq:a5G x m=⟨PF,CF,a3Q d,a3Q e,i,l⟩:=(by rw[E,q,s,t,w,y,F];rfl);rw[aq]at r;have ar:(k<x.c.length∧¬k<2)∨(¬k<x.c.length∧True):=(by grind);rcases ar with⟨N,O⟩|⟨N,O⟩<;>simp[N,O]<;>(
           refine al _ _ _ ?_;simp;refine r _ _ ?_;simp[X32,hlen]
          )
     )
structure RwT where
 base:UInt8
 drop:UInt8
 more:List RW
abbrev RwP(x:RwT):PV:=.agg [UB x.base,UB x.drop,.slc (x.more.map RWP)]
def kept(d:UInt8)(L:List O9)(k:Nat):List O9:=(List.range k).filterMap fun i=>if bit d.toNat i then none else L[i]?
theorem c4S{m k:Nat}(hm:m<256)(a:k<8):(a4N .u8 ((m:Int).fdiv (2^(min ((k:Int)).toNat 8))) 1=0)=(bit m k=false):=by
 have:∀n:Fin 256,∀j:Fin 8,(decide (a4N .u8 (((n.val:Nat):Int).fdiv (2^(min ((j.val:Nat):Int).toNat 8))) 1=0))=decide (bit n.val j.val=false):=by decide+kernel
 have h:=this ⟨m,hm⟩ ⟨k,a⟩
 grind
theorem b9o(d:UInt8)(L:List O9){k:Nat}(a:k<L.length):kept d L (k+1)=if bit d.toNat k then kept d L k else kept d L k++[L[k]]:=by
 unfold kept;rw[a2q,b4P]
 grind
theorem c1Z:∀k:Fin 8,(U6 (H8 k.val)&&decide ((H8 k.val).modes≤2)&&decide ((H8 k.val).rules.length≤8)&&(H8 k.val).rules.all fun r=>decide (r.cells.length≤3))=true:=by decide+kernel
theorem b2L(k:Nat)(a:k<8):s8 (H8 k)∧(H8 k).modes≤2∧(H8 k).rules.length≤8∧∀r∈(H8 k).rules,r.cells.length≤3:=by have h:=c1Z ⟨k,a⟩;simp only[G4,decide_eq_true_eq,B0]at h;exact⟨(a9q _).1 h.1.1.1,h.1.1.2,h.1.2,h.2⟩
theorem s8.sub{t:j9}(h:s8 t){L:List O9}(hs:L.Sublist t.rules)(a:L≠ []):s8 ⟨t.modes,t.accept,L⟩:=
 ⟨h.m1,h.m8,h.a0,h.a8,a2p.2 a,V1 hs.length_le h.l64,fun r hr=>h.sound r (hs.subset hr),h.nodup.sublist hs⟩
theorem c8k(d:UInt8)(L:List O9):(kept d L L.length).Sublist L:=by
 have key:∀k,k≤L.length→(kept d L k).Sublist (L.take k):=by
  intro k
  induction k with
  |zero=>intro _;exact List.nil_sublist _
  |succ k a=>
   intro b;rw[b9o d L b,L3,m7 b];split
   . exact(a i9).trans (List.sublist_append_left _ _)
   . exact(a i9).append (List.Sublist.refl _)
 grind
structure Mk(b:j9)(rs:List O9)(i:Nat):Prop where
 len:rs.length≤8+i
 c3:∀r∈rs,r.cells.length≤3
 val:rs≠ []→s8 ⟨b.modes,b.accept,rs⟩
theorem c6R(w:RW){m:Nat}(h1:1≤m)(e:m≤8):OkR (a5G w m):=by
 have mk:∀i,a3Q i<256:=fun i=>by
  unfold a3Q;rcases a5O i 8 with h|h
  . have:∀n:Fin 8,b6L.getD n.val 0<256:=I7;exact this ⟨i,h⟩
  . rw[u9,a0d (by exact h)];decide
 have d:∀i,a2F i<256:=fun i=>by
  unfold a2F;rcases a5O i 8 with h|h
  . have:∀n:Fin 8,ccs.getD n.val 0<256:=I7;exact this ⟨i,h⟩
  . rw[u9,a0d (by exact h)];decide
 refine⟨?_,?_,fun c a=>?_,mk _,mk _,?_,?_⟩
 . unfold a5G;simp only[N5,a1W];omega
 . unfold a5G;simp only[a0a,N5,a1W];omega
 . unfold a5G at a;rcases a0p.1 a with rfl|a
   . exact d _
   . obtain⟨b,_,rfl⟩:=E5.1 a;exact d _
 . have:w.w0.toNat%m<m:=a5c _ i9;show w.w0.toNat%m≤1000000;omega
 . have:w.w1.toNat%m<m:=a5c _ i9;show w.w1.toNat%m≤1000000;omega
theorem c5j{b:j9}(hb:s8 b){rs c:List O9}{i:Nat}(hm:Mk b rs i){r:O9}(d:c=rs++[r])(hr:OkR r)(hi:i≤2):OkT ⟨b.modes,b.accept,c⟩:=by
 refine⟨hb.ok.modes,hb.ok.accept,?_,fun q a=>?_⟩
 . have:=hm.len
   grind
 . have a:q∈c:=a;rw[d]at a;rcases I4.1 a with a|a
   . exact(hm.val (List.ne_nil_of_mem a)).ok.a1p q a
   grind
structure LMd where
 (i:Nat)
 (rs:List O9)
 (es:List PV)
theorem c4a(x:RwT)(ae:∀w∈x.more,w.p.length≤9223372036854775807∧w.c.length≤9223372036854775807)(aw:x.more.length≤9223372036854775807):∃r,(∃(t:j9) (c:PV),r=.agg [IN t.modes,UN t.accept,c]∧(c=.slc (t.rules.map RP)∨∃es,c=.uslc es∧es.map B4=t.rules.map RP∧∀e∈es,D5 e=true)∧s8 t∧Sm t∧t.rules.length≤10)∧F0 8 [0,0,6] [RwP x] r:=by
 refine a1C mixed (X:=X8) c8 14 (by simp[X8]) (by kernel_rfl) fun Q J ax=>?_;have hb:=b2K x.base;obtain⟨b,L⟩:=p7 (H8 (x.base.toNat%8));rw[←L]at hb;simp[X8];refine m6 hb ?_;simp;obtain⟨o,M,af,N⟩:s8 b∧b.modes≤2∧b.rules.length≤8∧∀r∈b.rules,r.cells.length≤3:=by rw[L];exact b2L _ i9
 have hd:=x.drop.toNat_lt;have ag:x.drop.toNat<256:=hd;refine I6 (fun(k:Nat) vs h=>k≤b.rules.length∧vs=[.uu,.ptr 10 1 0,.ptr 11 1 0,.ptr 12 1 0,.slc (b.rules.map RP),IN k,.uu,.uu,.uu,.uu,.uu,.uu]∧
  h=[dd,dd,dd,dd,dd,dd,dd,dd,dd,dd,(1,.var [UB x.base,UB x.drop,.slc (x.more.map RWP)]),(1,.var [IN 0,UN 0,.nils]),(1,.var [IN b.modes,UN b.accept,.own 13 1 (kept x.drop b.rules k).length 6 0 (kept x.drop b.rules k).length]),(1,.arr 6 0 false ((kept x.drop b.rules k).map RP))]) (fun k=>b.rules.length-k) 0 ?_ ?_
 . simp[kept]
 . rintro k vs h ⟨g1,rfl,rfl⟩ Q' O ah ay;by_cases F:k<b.rules.length
   . have hw:=wk1 k i9;have m:=c4S ag (show k<8 by omega);have g:=b9o x.drop b.rules F;obtain⟨K,p⟩:=p7 (kept x.drop b.rules k);rw[←p]at g;rw[←p];simp at m;cases P:bit x.drop.toNat k
     . rw[P]at m g;simp at m;obtain⟨K2,l⟩:=p7 (K++[b.rules[k]]);have g:kept x.drop b.rules (k+1)=K2:=(by rw[g,l];rfl);have f1:K.map RP++[RP b.rules[k]]=K2.map RP:=(by rw[l,Q9];rfl);have f2:K.length+1=K2.length:=(by rw[l];simp);have ai:K.length≤k:=by
        rw[p];unfold kept
        grind
       have f3:K2.length*64≤140737488355328:=i9;simp[F,IntKind.bits,m,f1,f2,f3,hw];refine O (k+1) _ _ i9 ?_;rw[g];simp;omega
     . rw[P]at m g;simp at m;have g:kept x.drop b.rules (k+1)=K:=(by rw[g];rfl);simp[F,IntKind.bits,m,hw];refine O (k+1) _ _ i9 ?_;rw[g];simp;omega
   . obtain rfl:k=b.rules.length:=i9;simp;refine ah _ _ _ ?_;obtain⟨K,p⟩:=p7 (kept x.drop b.rules b.rules.length);rw[←p];have R:Mk b K 0:=by
      have s:K.Sublist b.rules:=(by rw[p];exact c8k _ _);exact⟨V1 s.length_le af,fun r hr=>N r (s.subset hr),fun aj=>o.sub s aj⟩
     have ak:1≤b.modes:=o.m1;have az:(b.rules.map RP).map B4=b.rules.map RP:=(by rw[a1w];exact K3 fun _ _=>rfl);have aA:∀e∈b.rules.map RP,D5 e=true:=fun e he=>by obtain⟨r,_,rfl⟩:=E5.1 he;rfl
     simp;refine I6 (fun(y:LMd) vs h=>y.i≤2∧y.i≤x.more.length∧Mk b y.rs y.i∧(y.es.take y.rs.length).map B4=y.rs.map RP∧y.rs.length≤y.es.length∧y.es.length≤10∧(∀e∈y.es,D5 e=true)∧
      vs=[.uu,.ptr 10 1 0,.ptr 11 1 0,.ptr 12 1 0,.slc (b.rules.map RP),.uu,IN y.i,.uu,.uu,.uu,.uu,.uu]∧
      h=[dd,dd,dd,dd,dd,dd,dd,dd,dd,dd,(1,.var [UB x.base,UB x.drop,.slc (x.more.map RWP)]),(1,.var [IN 0,UN 0,.nils]),(1,.var [IN b.modes,UN b.accept,.own 13 1 y.es.length 6 0 y.rs.length]),(1,.arr 6 0 false y.es)]) (fun y=>2-y.i) ⟨0,K,K.map RP⟩ ?_ ?_
     . have ai:K.length≤8:=R.len;have aB:List.map (B4∘RP) K=K.map RP:=K3 fun _ _=>rfl;have aC:∀e∈K.map RP,D5 e=true:=fun e he=>by
        obtain⟨r,_,rfl⟩:=E5.1 he;rfl
       simp[R];omega
     . rintro⟨i,rs,es⟩ vs h ⟨S,al,f,z,G,T,A,rfl,rfl⟩ Q2 l U aD;dsimp only at S al f z G T A;by_cases V:i<x.more.length∧i<2
       . obtain⟨hi,am⟩:=V;have hw:=wk1 i i9;obtain⟨w,W⟩:=p7 (x.more[i]);obtain⟨an,ao⟩:=ae w (by rw[W];exact B7 hi);have Y:=c2G w b.modes ak i9 an ao;obtain⟨r,hr⟩:=p7 (a5G w b.modes);rw[←hr]at Y;obtain⟨a,u⟩:=p7 (rs++[r]);have D:rs.length+1=a.length:=(by rw[u];simp);have ap:r.cells.length≤3:=(by rw[hr];unfold a5G;simp;omega);have aq:OkT ⟨b.modes,b.accept,a⟩:=c5j o f u (by rw[hr];exact c6R w o.m1 o.m8) S;have Z:=c1T ⟨b.modes,b.accept,a⟩ aq;have aa:U6 ⟨b.modes,b.accept,a⟩=true→Mk b a (i+1):=fun h=>⟨by have:=f.len;omega,fun q v=>by
          rw[u]at v;rcases I4.1 v with v|v
          . exact f.c3 q v
          . rw[H5.1 v];exact ap,fun _=>(a9q _).1 h⟩
         have ab:Mk b rs (i+1):=⟨by have:=f.len;omega,f.c3,f.val⟩
         have aE:(rs.length+1)*64≤140737488355328:=(by have:=f.len;omega);have ar:rs.length≤9:=(by have:=f.len;omega);have ac:∀d:List PV,(d.take a.length).map B4=a.map RP→(d.map B4).take rs.length=rs.map RP:=fun d h=>by have E:((d.take a.length).map B4).take rs.length=rs.map RP:=(by rw[h,u,Q9,List.take_left' l5]);rw[←a1X,List.take_take,show min rs.length a.length=rs.length by omega,a1X]at E;exact E
         have s:IntKind.i64.wrap ((a.length:Int)-1)=(rs.length:Int):=(by rw[←D];exact(wrap_ok i9 i9).trans i9);simp[hi,am,←W];refine m6 Y ?_;by_cases hle:rs.length=es.length
         . obtain⟨d,j⟩:=p7 (es++[RU r]);have f1:es++[RU r]=d:=j.symm;have f2:d.length=a.length:=(by rw[j,←D,hle];simp);have f3:List.map B4 d=a.map RP:=by
            rw[hle,M4]at z;rw[j,u,Q9,Q9,z];rfl
           have f4:∀e∈d,D5 e=true:=fun e he=>by
            rw[j]at he;rcases I4.1 he with he|he
            . exact A e he
            . rw[H5.1 he];rfl
           have n:(∀e∈d,D5 e=true)=True:=eq_true f4;have f5:es.length+1=a.length:=i9;simp[hle,f1,f2,f5,f3,n,show es.length*64+64≤140737488355328 by omega,show a.length*64≤140737488355328 by omega];refine m6 Z ?_;cases H:U6 ⟨b.modes,b.accept,a⟩with
           |true=>
            simp[hw];refine l ⟨i+1,a,d⟩ _ _ s5 ?_;simp[f2,f3,n];exact⟨i9,i9,aa H,i9⟩
           |false=>
            simp[hw,s,show rs.length≤a.length by omega];refine l ⟨i+1,rs,d⟩ _ _ s5 ?_;have f6:=ac d (by rw[←f2,M4];exact f3);simp[f2,n,f6];exact⟨i9,i9,ab,i9,i9⟩
         . obtain⟨d,j⟩:∃d,d=es.take rs.length++RU r::es.drop a.length:=⟨_,rfl⟩
           have f1:es.take rs.length++RU r::es.drop a.length=d:=j.symm;have f2:d.length=es.length:=(by rw[j,a0D,a1W,a0a,a4H];omega);have au:d.take a.length=es.take rs.length++[RU r]:=by rw[j,←D,List.take_append,a1W,List.take_take];rw[show min rs.length es.length=rs.length by omega,show min (rs.length+1) rs.length=rs.length by omega,show rs.length+1-rs.length=1 by omega];rfl
           have f3:List.map B4 (d.take a.length)=a.map RP:=by rw[au,u,Q9,Q9,z];rfl
           have f4:∀e∈d,D5 e=true:=fun e he=>by
            rw[j]at he;rcases I4.1 he with he|he
            . exact A e (b1N he)
            . rcases a0p.1 he with he|he
              . rw[he];rfl
              grind
           have n:(∀e∈d,D5 e=true)=True:=eq_true f4;simp[hle,f1,f2,f3,n,D,G,show a.length≤es.length by omega,show rs.length*64+64≤140737488355328 by omega,show a.length*64≤140737488355328 by omega];refine m6 Z ?_;have f6:=ac d f3;have f7:List.take a.length (List.map B4 d)=a.map RP:=(by rw[←a1X];exact f3);cases H:U6 ⟨b.modes,b.accept,a⟩with
           |true=>
            simp[hw];refine l ⟨i+1,a,d⟩ _ _ s5 ?_;simp[f2,f7,n];exact⟨i9,i9,aa H,i9,T⟩
           |false=>
            simp[hw,s,show rs.length≤es.length by omega,show rs.length≤a.length by omega];refine l ⟨i+1,rs,d⟩ _ _ s5 ?_;simp[f2,n,f6];exact⟨i9,i9,ab,i9,i9⟩
       . have ad:(i<x.more.length∧¬i<2)∨(¬i<x.more.length∧True):=by
          by_cases h:i<x.more.length
          . exact .inl ⟨h,fun E=>V ⟨h,E⟩⟩
          . exact .inr ⟨h,trivial⟩
         by_cases I:rs=[]
         . subst I;rcases ad with⟨B,C⟩|⟨B,C⟩<;>simp[B,C]<;>(
            refine U _ _ _ ?_;simp;refine J _ _ _ ⟨b,_,rfl,.inl rfl,o,⟨M,i9,N⟩,i9⟩ ?_;simp[X8]
           )
         . have ar:0<rs.length:=a2p.2 I;have av:¬rs.length=0:=i9;have f8:(∀e∈es,D5 e=true)=True:=eq_true A;rcases ad with⟨B,C⟩|⟨B,C⟩<;>simp[B,C]<;>(
            refine U _ _ _ ?_;simp[av];refine J _ _ _ ⟨⟨b.modes,b.accept,rs⟩,_,rfl,.inr ⟨es.take rs.length,rfl,z,fun e he=>A e (b1N he)⟩,f.val I,⟨M,by have:=f.len;dsimp only;omega,f.c3⟩,by have:=f.len;dsimp only;omega⟩ ?_;simp[X8,G,f8]
            try (intro h;rw[h,M4])
           )
def X7:u7:=
 ⟨65,[0,1,2,4,5,7,8,9],8,[(0,none)],sq [kj 0,.reg [ofr 27 0 0 0 0 0 6,ocd 1 1 0 0,ok 3 1 0],.reg [oh 3 1,oq (.call 11 [.l 0,.c (.str ⟨#[97,98,32,99]⟩)] [(2,1),(3,1),(0,0),(0,0)] false),os 1,oy 2 0,oy 2 1,oy 2 2,ocp 2 4,ok 2 6 3,os 4,oc 3 5],.reg [oh 3 1,oq (.lit 1 [.int .u8 0,.int .u8 0,.int .u8 0,.int .u8 0] [(0,.c (.int .u8 1)),(1,.c (.int .u8 3)),(2,.c (.int .u8 0)),(3,.c (.int .u8 9))]),oq (.call 12 [.l 0,.l 1] [(0,0),(0,0),(0,0)] false),os 2,oy 3 0,oy 3 1,oy 3 2,oc 4 4,os 5,oc 5 6],.reg [oq (.call 28 [.c (.int .u8 4)] [(0,0),(0,0),(5,6)] false),oq (.call 17 [.l 0] [(6,1),(0,0),(0,0),(0,0)] false),os 1,oy 2 0,oy 2 1,ow 6 (.alloc 7 [.nils,.str ⟨#[]⟩,.str ⟨#[]⟩]),ok 3 5 3,oc 7 4],.reg [oa 3,occ 0 0,os 1,om 0 2 2,oe 1 3 2,⟨.lit 1 [.int .u8 0,.int .u8 0,.int .u8 0,.int .u8 0] [(0,.c (.int .u8 1)),(1,.c (.int .u8 3)),(2,.c (.int .u8 0)),(3,.c (.int .u8 9))],none,some (.l 2,true),[]⟩,obb 29 4 5 0 0 2,ol 2 6,os 7,og 5 8,obs 9 0 8,ol 8 10,os 11,og 4 12,⟨.bin .eql false (.l 13) (.c (.str ⟨#[97,98,32,99]⟩)),none,some (.l 12,true),[]⟩,ol 12 14,os 15,og 7 16,obs 17 50 16,ol 16 18,os 19,om 1 6 20,oe 1 21 20,om 2 6 20,oe 1 23 20,⟨.bin .neq false (.l 22) (.l 24),none,some (.l 20,true),[]⟩,ol 20 25,os 26,obo 3 1 27,oex 9 28 0 0 27,ol 27 29,os 30,obo 3 1 31,⟨.call 31 [] [(0,0),(0,0),(0,0)] true,none,some (.l 31,true),[]⟩,obb 30 32 33 0 0 31,ol 31 34,oc 0 35],ko]⟩
def X3:u7:=
 ⟨134,[0,1,2,3,6,7,8,9,10,11,12,13,15,16,18,19,21,22,34,64,72],10,[(4,none)],sq [kab 3 0 0 4,.reg [oq (.call 7 [] [(0,0)] false),oc 5 0],.reg [oh 3 3,oq (.call 8 [.l 0] [(0,0),(0,0),(1,6)] false),ocd 6 2 0 0,ok 3 2 1],sq [.G7 [(1,true),(2,false)] (.reg [od 2 6,ob 1 0,E0 1,ocb 2 2,os 3,och 3 6 4,ocz 9 5 0 0 4,ocq 6 4,U0 18 4 7]),kba 18 5 4 0],.reg [oa 2,oew 0,od 2 6,ob 1 2,E0 3,ofx 1 4,oc 7 5],.reg [⟨.fieldAddr 0 (.v 6),none,none,[3,3,5]⟩,⟨.loadV false 1 (.l 0),none,none,[3,3,5]⟩,⟨.fieldAddr 1 (.v 6),none,none,[3,3,5]⟩,⟨.loadV false 1 (.l 2),none,none,[3,3,5]⟩,⟨.mkarr 3 6 [] [],none,none,[5]⟩,ofq 2 6 3 5,ode 1 5 3 5,obr 7 3 5,⟨.slice false 6 (.l 6) none (some (.l 7)) none,none,none,[3,5]⟩,⟨.append 3 6 64 2 (.l 4) (.l 8),none,none,[5]⟩,⟨.build [.int .i64 0,.int .u8 0,.nils] [(0,1,.l 1),(1,1,.l 3),(2,1,.l 9)],none,none,[5]⟩,⟨.alloc 5 [.int .i64 0,.int .u8 0,.nils],some 8,none,[3,3]⟩,ok 3 11 10],.reg [od 2 8,ob 1 0,od 2 6,ob 1 2,oa 7,oae 4 1,oek 6 3 5,J3 6 6 64 0 1 6,od 2 8,ok 1 8 7],sq [.reg [oh 3 8,T9 9 0 0 0,Z3 19 1],.cond (.v 19) (U4 4) kc],.reg [oh 3 8,oa 1,oct 10 0 1 0 0 0 0,os 2,oy 3 0,oy 3 1,oc 9 4,oc 10 5],sq [kak 10 20 0,kba 20 5 4 0],.reg [oh 3 8,oa 9,ofi 11 0 1 7 1 8 1 0 0 0 0,os 2,oy 3 0,oy 3 1,oy 3 2,ocp 11 9,ok 2 7 4,os 5,oc 12 6],.reg [oh 3 8,od 0 11,ob 1 1,oq (.call 12 [.l 0,.l 2] [(0,0),(0,0),(0,0)] false),os 3,oy 4 0,oy 4 1,oy 4 2,oc 13 5,os 6,oc 14 7],.reg [oh 3 6,od 0 11,ob 1 1,oq (.call 12 [.l 0,.l 2] [(0,0),(0,0),(0,0)] false),os 3,oy 4 0,oy 4 1,oy 4 2,oc 15 5,os 6,oc 16 7],.reg [oh 3 6,oa 9,U2 13 0 1 0 0,oc 17 2],.reg [oa 5,os 0,og 12 1,obs 2 0 1,ol 1 3,os 4,og 14 5,obs 6 0 5,ol 5 7,os 8,og 16 9,obs 10 0 9,ol 9 11,os 12,og 13 13,og 9 13,oat 14 15 13,ol 13 16,os 17,og 15 18,og 9 18,oat 19 20 18,ol 18 21,os 22,og 17 23,oec 24 0 23,ol 23 25,os 26,og 17 27,om 0 11 27,oe 1 29 27,obn 30 27,oca 28 31 27,ol 27 32,oc 4 33],ko]⟩
def X4:u7:=
 ⟨120,[0,1,2,4,5,6,7,8,9,10,12,13,14,15,16,32,83],11,[(3,none)],sq [kab 2 0 0 3,.reg [oq (.call 7 [] [(0,0)] false),oc 4 0],.reg [oh 3 2,oq (.call 8 [.l 0] [(0,0),(0,0),(1,6)] false),ocd 5 2 0 0,ok 3 2 1],.G7 [(1,true),(2,false)] (.reg [oh 3 5,oa 1,oct 14 0 1 3 1 0 0,os 2,oy 3 0,oy 3 1,oc 6 4,oc 7 5]),sq [.reg [oa 7,ofl 0,os 1,och 3 5 2,ocz 9 3 0 0 2,ocq 4 2,U0 15 2 5],kba 15 4 3 0],.reg [oh 3 5,oa 6,oq (.call 15 [.l 0,.l 1] [(0,0),(4,1),(0,0),(0,0),(0,0),(0,0),(0,0)] false),ocy 8 5 0 0 0 0,ok 7 3 2],.reg [oh 3 5,od 0 8,ob 1 1,ofi 11 0 2 6 1 7 1 0 0 0 0,os 3,oy 4 0,oy 4 1,oy 4 2,ocp 9 8,ok 2 8 5,os 6,oc 10 7],.reg [oh 3 5,od 1 8,ob 1 1,oq (.call 16 [.l 0,.l 2,oi 4] [(9,1),(0,0)] false),os 3,oy 4 0,oy 4 1,oc 11 5,oc 12 6],.reg [oh 3 5,od 0 9,ob 1 1,oq (.call 16 [.l 0,.l 2,oi 4] [(10,1),(0,0)] false),os 3,oy 4 0,oy 4 1,oc 13 5,oc 14 6],sq [.reg [od 6 8,ob 1 0,ofl 1,os 2,L4 10 3,ocl 4 0 3,P5 3 5,os 6,L4 12 7,ocl 8 0 7,P5 7 9,os 10,L4 14 11,ocl 12 0 11,P5 11 13,os 14,L4 11 15,obi 16 15,ocl 17 1 15,P5 15 18,os 19,L4 13 20,obi 21 20,ocl 22 1 20,U0 16 20 23],.cond (.v 16) (U4 3) kc],.reg [oa 4,os 0,og 11 1,⟨.indexAddr 1 (.l 2) (oi 0),none,some (.l 1,true),[]⟩,oe 1 3 1,om 0 8 1,oe 1 5 1,oat 4 6 1,ol 1 7,os 8,og 13 9,⟨.indexAddr 1 (.l 10) (oi 0),none,some (.l 9,true),[]⟩,oe 1 11 9,om 0 8 9,oe 1 13 9,oat 12 14 9,ol 9 15,os 16,om 0 9 17,oe 1 18 17,obn 19 17,om 1 8 17,oe 1 21 17,obn 22 17,oca 20 23 17,ol 17 24,os 25,obo 3 5 26,om 0 8 26,oe 1 28 26,obb 13 27 29 0 0 26,om 0 9 26,oe 1 31 26,obn 32 26,oat 30 33 26,ol 26 34,oc 3 35],ko]⟩
def X5:u7:=
 ⟨130,[0,1,2,3,4,5,6,7,8,9,10,11,12,13,14,24,54,65],6,[(2,none)],sq [kab 1 0 0 2,.reg [oq (.call 7 [] [(0,0)] false),oc 3 0],.reg [oh 3 1,oq (.call 8 [.l 0] [(0,0),(0,0),(1,6)] false),ocd 4 2 0 0,ok 3 2 1],.G7 [(1,true),(2,false)] (.reg [oh 3 4,oq (.call 17 [.l 0] [(3,1),(0,0),(0,0),(0,0)] false),os 1,oy 2 0,oy 2 1,ow 5 (.alloc 4 [.nils,.str ⟨#[]⟩,.str ⟨#[]⟩]),ok 3 5 3,oc 6 4]),sq [.reg [oa 6,oed 15 0 0],.cond (.v 15) (sq [.reg [oa 3,os 0,obo 3 4 1,oex 9 2 0 0 1,ol 1 3,os 4,om 0 5 5,oe 1 6 5,obn 7 5,obs 8 0 5,ol 5 9,oc 2 10],ko]) kc],sq [.reg [oa 6,oga 0 50,os 1,ov 1 5 2,ot 1 3 2,ov 2 5 2,ot 1 5 2,obq 4 6 2,P5 2 7,os 8,och 3 4 9,och 3 5 9,oem 18 10 11 0 0 9,ocq 12 9,P5 9 13,os 14,och 3 4 15,ocz 9 16 0 0 15,U0 16 15 17],.cond (.v 16) (U4 2) kc],.reg [oh 3 4,od 0 5,ob 1 1,oq (.call 16 [.l 0,.l 2,oi 64] [(5,1),(0,0)] false),os 3,oy 4 0,oy 4 1,oc 7 5,oc 8 6],.reg [oo 9,oo 10],sq [kk 11 0,.block 0 (.loopS [3,4,5,7,8,9,10,11] 6 (sq [sq [ku 11 7 1 17 0 2,B6 17 0],.block 1 (.reg [oa 9,os 0,L4 7 1,L4 11 1,oci 1 2 3 1,ot 1 4 1,ov 1 5 1,ot 1 6 1,odb 5 7 1,P5 1 8,oa 10,os 10,L4 7 11,L4 11 11,oci 1 12 13 11,ot 1 14 11,ov 2 5 11,ot 1 16 11,odb 15 17 11,P5 11 18,oc 9 9,oc 10 19]),ki 11 0 1 11 1]))],.reg [oh 3 4,od 1 5,ob 1 1,U2 13 0 2 0 0,oh 3 4,od 2 5,ob 1 5,U2 13 4 6 0 0,oc 12 3,oc 13 7],.reg [oa 8,occ 0 2,os 1,L4 9 2,ofo 3 2,og 10 4,odn 4 5 2,P5 2 6,oc 14 7],.reg [oa 3,os 0,og 14 1,ol 1 2,os 3,og 12 4,oec 5 0 4,ol 4 6,os 7,og 13 8,oec 9 0 8,ol 8 10,os 11,og 12 12,om 0 5 12,oe 1 14 12,obn 15 12,oca 13 16 12,ol 12 17,os 18,og 13 19,om 0 5 19,oe 1 21 19,obn 22 19,oca 20 23 19,ol 19 24,oc 2 25],ko]⟩
theorem c7:C4 7 X7:=C6
theorem c3:C4 3 X3:=C6
theorem c4:C4 4 X4:=C6
theorem c5:C4 5 X5:=C6
section
variable{G:List Int}{p:Nat}
section
variable{K V X J k g gl s o l:Nat}
@[simp] theorem d1Z:I5 (.osl k g gl s o l)=false:=rfl
@[simp] theorem d2M:one (.osl k g gl s o l)=true:=rfl
@[simp] theorem d0M:isStr (.osl k g gl s o l)=false:=rfl
@[simp] theorem d0A:l9 (.osl k g gl s o l)=[.osl k g gl s o l]:=rfl
@[simp] theorem d1j{G:Nat}:ldC K G V X J (.osl k g gl s o l)=.osl k g gl s o l:=rfl
end
def F4(G:List Int)(o S:Nat):List Int:=(G.drop o).take S
theorem a2V{o S:Nat}(h:o+S≤G.length):(F4 G o S).length=S:=by simp[F4];omega
theorem b9k{o S k:Nat}(h:o+S≤G.length)(a:k<S):(F4 G o S)[k]'(by rw[a2V h];exact a)=G[o+k]'i9:=by simp[F4]
theorem b0s{o S k:Nat}(a:k<S):(F4 G o S).getD k 0=G.getD (o+k) 0:=by simp only[F4,u9,a0y,if_pos a,a1V]
theorem c8q{o S k:Nat}{v:Int}(a:k<S):F4 (G.set (o+k) v) o S=(F4 G o S).set k v:=by unfold F4;rw[List.drop_set,if_neg i9,show o+k-o=k by omega,List.take_set]
def Els(o S:Nat)(G G':List Int):Prop:=G'.length=G.length∧∀j,j<o∨o+S≤j→G'.getD j 0=G.getD j 0
theorem Els.refl(o S:Nat)(G:List Int):Els o S G G:=⟨rfl,fun _ _=>rfl⟩
theorem Els.trans{o S:Nat}{G G' G'':List Int}(h:Els o S G G')(k:Els o S G' G''):Els o S G G'':=⟨k.1.trans h.1,fun j hj=>(k.2 j hj).trans (h.2 j hj)⟩
theorem Els.set{o S k:Nat}{G:List Int}{v:Int}(a:k<S):Els o S G (G.set (o+k) v):=⟨l5,fun j hj=>by rw[a3x,if_neg i9]⟩
theorem a8Q{o S:Nat}{G':List Int}(h:Els o S G G')(hp:p+S≤o∨o+S≤p):F4 G' p S=F4 G p S:=by
 refine a3u fun k=>?_;simp only[F4,a0y];split
 . rename_i a;rw[a1V,a1V];have h1:=h.2 (p+k) i9;have b:=h.1;by_cases c:p+k<G.length
   . grind
   . grind
 . rfl
def a1a(G:List Int)(j:Nat)(rest cells:Int):List Int×Bool:=if 0≤rest∧(G.getD j 0<0∨rest+cells<G.getD j 0)then(G.set j (rest+cells),true)else(G,false)
theorem c9n(G:List Int)(j:Nat)(rest cells:Int):(a1a G j rest cells).1.length=G.length:=by unfold a1a;split<;>simp
theorem b7b{o S k:Nat}{rest cells:Int}(a:k<S):Els o S G (a1a G (o+k) rest cells).1:=by
 unfold a1a;split
 . exact .set a
 . exact .refl ..
theorem c1n{o S k:Nat}{rest:Int}{cells:Nat}{M0:Int}(b:o+S≤G.length)(a:k<S)(hb:Bd M0 (F4 G o S))(hr:rest≤M0+4*(a4h (F4 G o S):Int))(c:cells≤4):
 Bd M0 (F4 (a1a G (o+k) rest cells).1 o S)∧Imp (F4 G o S) (F4 (a1a G (o+k) rest cells).1 o S)∧
  ((a1a G (o+k) rest cells).2=true→F4 (a1a G (o+k) rest cells).1 o S≠F4 G o S):=by
 unfold a1a;split
 . rename_i h;rw[c8q a];rw[←b0s a]at h;refine⟨hb.set (by grind) i9 h.2 i9,.set i9 h.2,fun _ e=>?_⟩;have:=congrArg (fun l:List Int=>l.getD k 0) e;rw[a3x,if_pos ⟨rfl,by rw[a2V b];exact a⟩]at this;omega
 . exact⟨hb,.refl _,fun e=>by cases e⟩
theorem b4v{M0:Int}{D:List Int}{S:Nat}(h:Bd M0 D)(b:D.length=S):∀x∈D,x≤M0+4*(S:Int):=fun x a=>by have h1:=h x a;have c:=b2C D;omega
structure Bnd(b:Int)(r:List Int)(x:Int):Prop where
 lo: -b≤x
 up:x≤b
 el:∀c∈r,c≤b
 sum:∀c∈r,0≤c→x+c≤b
theorem Bnd.mono{b d:Int}{r:List Int}{x:Int}(h:Bnd b r x)(hb:b≤d):Bnd d r x:=
 ⟨by have:=h.lo;omega,by have:=h.up;omega,fun c a=>by have:=h.el c a;omega,fun c a h0=>by have:=h.sum c a h0;omega⟩
abbrev Wd:Int:=12300
def J5(L:Int)(n p:Nat):Int:=L+Wd*((n:Int)+1-p)
def a1A(D:List Int):Int:=D.foldl (fun m c=>if 0≤c∧(m<0∨c<m)then c else m) (-1)
def a9V(D:List Int):List Int:=D.map fun c=>if 0≤c then c-a1A D else c
theorem c0k(D:List Int):(a1A D= -1∧∀c∈D,c<0)∨(0≤a1A D∧a1A D∈D∧∀c∈D,0≤c→a1A D≤c):=by
 have key:∀(E:List Int) (m:Int) (F:List Int),((m= -1∧∀c∈F,c<0)∨(0≤m∧m∈F∧∀c∈F,0≤c→m≤c))→
  ((E.foldl (fun m c=>if 0≤c∧(m<0∨c<m)then c else m) m= -1∧∀c∈F++E,c<0)∨(0≤E.foldl (fun m c=>if 0≤c∧(m<0∨c<m)then c else m) m∧E.foldl (fun m c=>if 0≤c∧(m<0∨c<m)then c else m) m∈F++E∧∀c∈F++E,0≤c→E.foldl (fun m c=>if 0≤c∧(m<0∨c<m)then c else m) m≤c)):=by
  intro E
  induction E with
  |nil=>intro m F h;simpa using h
  |cons a E g=>
   intro m F h;rw[a3s,show F++a::E=(F++[a])++E by simp];refine g _ _ ?_;split
   . rename_i d
     right
     refine⟨d.1,l5,fun c b h0=>?_⟩;rcases I4.1 b with b|b
     . rcases h with⟨h1,e⟩|⟨h1,e,f⟩
       . have:=e c b;omega
       . have:=f c b h0;omega
     . simp at b;omega
   . rename_i d;rcases h with⟨h1,e⟩|⟨h1,e,f⟩
     . grind
     . grind
 have:=key D (-1) [] (.inl ⟨rfl,fun c d=>by simp at d⟩);simpa[a1A]using this
theorem c9l{D:List Int}{b:Int}(hb:1≤b)(h:∀c∈D,c≤b):Bnd b (a9V D) (a1A D):=by
 have hs:=c0k D;refine⟨?_,?_,fun c a=>?_,fun c a h0=>?_⟩
 . omega
 . grind
 . obtain⟨d,hd,rfl⟩:=E5.1 a;have:=h d hd;split
   . grind
   . omega
 . obtain⟨d,hd,rfl⟩:=E5.1 a;have:=h d hd;split at h0
   . split
     . omega
     . omega
   . omega
def U1(S n:Nat)(G:List Int):List (List Int):=(List.range (n+1)).map fun p=>F4 G (p*S) S
theorem a6O(S n:Nat)(G:List Int):(U1 S n G).length=n+1:=by simp[U1]
theorem b0r{S n:Nat}(hp:p≤n):(U1 S n G)[p]'(by rw[a6O];omega)=F4 G (p*S) S:=by simp[U1]
theorem a5p{S n:Nat}(hp:p≤n):p*S+S≤S*(n+1):=by have:=Y3 S (show p+1≤n+1 by omega);rw[O4,Nat.one_mul]at this;rw[Nat.mul_comm S];exact this
theorem a8Z{S i:Nat}(h:p≠i):p*S+S≤i*S∨i*S+S≤p*S:=by
 rcases a9z h with h|h
 . left
   have:=Y3 S (show p+1≤i by omega);rw[O4,Nat.one_mul]at this;exact this
 . right
   have:=Y3 S (show i+1≤p by omega);rw[O4,Nat.one_mul]at this;exact this
structure Mem where
 text:By
 rows:List (List Int)
 least:List Int
structure MOk(S:Nat)(L:Int)(m:Mem):Prop where
 rl:m.rows.length=m.text.length+1
 ll:m.least.length=m.text.length+1
 cl:∀r∈m.rows,r.length=S
 bd:∀p,p≤m.text.length→Bnd (J5 L m.text.length p) (m.rows.getD p []) (m.least.getD p 0)
abbrev S3(r:List Int):PV:=.slc (r.map I)
abbrev MM(m:Mem):PV:=.agg [St m.text,.slc (m.rows.map S3),.slc (m.least.map I)]
end
end Go.Proofs.YtbhfgadikmfjdaaGreat.T
