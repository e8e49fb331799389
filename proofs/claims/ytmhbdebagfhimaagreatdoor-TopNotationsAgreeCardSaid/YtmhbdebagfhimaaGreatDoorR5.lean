/-
  The plain machine, that it is sound, and walks: part 5 (joined and shortened by a program of the prover's).
-/
import Derived.Test.YtmhbdebagfhimaaGreatDoorR4
import Derived.Test.YtmhbdebagfhimaaGreatDoorProg
import Derived.KernelRfl
set_option linter.unusedSimpArgs false
set_option linter.unusedVariables false
set_option linter.unusedSectionVars false
namespace Go.Proofs.YtmhbdebagfhimaaGreatDoor.T
open Go.Proofs.YtmhbdebagfhimaaGreatDoor.Am
section
variable{H:List p9}{nx b:Nat}
theorem c9l(h:∀b,nx≤b→isF H b=false):S6 H nx=[]:=by
 unfold S6;rw[List.filter_eq_nil_iff]
 grind
theorem b6z(h:nx<256):S6 H nx=if isF H nx then nx::S6 H (nx+1)else S6 H (nx+1):=by unfold S6;rw[show 256-nx=(256-(nx+1))+1 by omega,List.range'_succ,List.filter_cons]
theorem c1H{H:List p9}{b:Nat}(hb:b<256)(a:isF H b=true):∀(k nx:Nat),nx+k=b→(∀b',nx≤b'→b'<b→isF H b'=false)→S6 H nx=b::S6 H (b+1)
 |0,nx,h,_=>by
  obtain rfl:nx=b:=j4;rw[b6z hb,if_pos a]
 |k+1,nx,h,c=>by have h1:isF H nx=false:=c nx (p7 _) j4;rw[b6z j4,h1];exact c1H hb a k (nx+1) j4 fun b' e d=>c b' j4 d
theorem b5x:b∈S6 H nx↔nx≤b∧b<256∧isF H b=true:=by
 unfold S6
 grind
def b0c(H:List p9)(nx:Nat)(m:Int):Prop:=(m= -1∧∀h∈H,∀c r,h.r=c::r→c.toNat<nx)∨∃b:Nat,m=b∧nx≤b∧isF H b=true∧∀h∈H,∀c r,h.r=c::r→nx≤c.toNat→b≤c.toNat
theorem b0c.S6{H:List p9}{nx:Nat}{m:Int}(h:b0c H nx m):(m= -1∧S6 H nx=[])∨∃b:Nat,m=b∧nx≤b∧b<256∧isF H b=true∧S6 H nx=b::T.S6 H (b+1):=by
 rcases h with⟨h1,d⟩|⟨b,h1,d,a,e⟩
 . refine .inl ⟨h1,c9l fun b hb=>?_⟩;cases f:isF H b with
   |false=>rfl
   |true=>
    obtain⟨h,a,c,r,e,g⟩:=a6m.1 f;have:=d h a c r e;omega
 . have hb:b<256:=by
    obtain⟨h,_,c,r,_,g⟩:=a6m.1 a;have:=c.toNat_lt;omega
   refine .inr ⟨b,h1,d,hb,a,c1H hb a (b-nx) nx j4 fun b' g1 g2=>?_⟩;cases f:isF H b' with
   |false=>rfl
   |true=>
    obtain⟨h,g,c,r,i,j⟩:=a6m.1 f;have:=e h g c r i j4;omega
section
variable(t:k7)(l:List Nat)(gd:List A8)
noncomputable abbrev nxH(H:List p9)(b:Nat):List p9:=(X8 t l gd (O6 H b)).1.2.2
noncomputable abbrev nxE(H:List p9)(b:Nat):Bool:=(X8 t l gd (O6 H b)).2
noncomputable def en:Nat→List p9→By→List By
 |0,_,_=>[]
 |d+1,H,u=>(S6 H 0).flatMap fun b=>(if nxE t l gd H b then [u++[UInt8.ofNat b]]else [])++en d (nxH t l gd H b) (u++[UInt8.ofNat b])
noncomputable def cnt:Nat→List p9→Nat
 |0,_=>1
 |d+1,H=>1+((S6 H 0).map fun b=>1+cnt d (nxH t l gd H b)).sum
noncomputable def b3y(d:Nat)(H:List p9)(u:By)(b:Nat):List By:=(if nxE t l gd H b then [u++[UInt8.ofNat b]]else [])++en t l gd d (nxH t l gd H b) (u++[UInt8.ofNat b])
noncomputable def W7:Nat→List (List p9×Nat)→By→List By
 |_,[],_=>[]
 |d,(H,nx)::S,u=>(S6 H nx).flatMap (b3y t l gd (d-1) H u)++W7 (d+1) S u.dropLast
noncomputable def Z8:Nat→List (List p9×Nat)→Nat
 |_,[]=>0
 |d,(H,nx)::S=>1+((S6 H nx).map fun b=>1+cnt t l gd (d-1) (nxH t l gd H b)).sum+Z8 (d+1) S
variable{t l gd}
theorem b8A{d:Nat}{S:List (List p9×Nat)}{u:By}(h:S6 H nx=[]):W7 t l gd d ((H,nx)::S) u=W7 t l gd (d+1) S u.dropLast∧Z8 t l gd (d+1) S<Z8 t l gd d ((H,nx)::S):=by
 refine⟨?_,?_⟩
 . rw[W7,h];rfl
 . rw[Z8,h];simp
theorem c0b{d:Nat}{S:List (List p9×Nat)}{u:By}(h:S6 H nx=b::S6 H (b+1))(hd:1≤d∨S6 (nxH t l gd H b) 0=[]):
 W7 t l gd (d+1) ((H,nx)::S) u=(if nxE t l gd H b then [u++[UInt8.ofNat b]]else [])++W7 t l gd d ((nxH t l gd H b,0)::(H,b+1)::S) (u++[UInt8.ofNat b])∧
 Z8 t l gd d ((nxH t l gd H b,0)::(H,b+1)::S)<Z8 t l gd (d+1) ((H,nx)::S):=by
 have a:en t l gd d (nxH t l gd H b) (u++[UInt8.ofNat b])=(S6 (nxH t l gd H b) 0).flatMap (b3y t l gd (d-1) (nxH t l gd H b) (u++[UInt8.ofNat b])):=by
  cases d with
  |zero=>
   rcases hd with hd|hd
   . omega
   . rw[hd];rfl
  |succ d=>rfl
 have c:cnt t l gd d (nxH t l gd H b)=1+((S6 (nxH t l gd H b) 0).map fun b'=>1+cnt t l gd (d-1) (nxH t l gd (nxH t l gd H b) b')).sum:=by
  cases d with
  |zero=>
   rcases hd with hd|hd
   . omega
   . rw[hd];rfl
  |succ d=>rfl
 refine⟨?_,?_⟩
 . rw[W7,h,a2Z,W7,W7,List.dropLast_concat];rw[show d+1-1=d from rfl]
   conv=>lhs;arg 1;arg 1;unfold b3y
   rw[a];simp only[a2o]
 . have a1:Z8 t l gd (d+1) ((H,nx)::S)=1+((S6 H nx).map fun b=>1+cnt t l gd d (nxH t l gd H b)).sum+Z8 t l gd (d+1+1) S:=(by rw[Z8];rfl);have a2:Z8 t l gd (d+1) ((H,b+1)::S)=1+((S6 H (b+1)).map fun b=>1+cnt t l gd d (nxH t l gd H b)).sum+Z8 t l gd (d+1+1) S:=(by rw[Z8];rfl);have a3:Z8 t l gd d ((nxH t l gd H b,0)::(H,b+1)::S)=1+((S6 (nxH t l gd H b) 0).map fun b'=>1+cnt t l gd (d-1) (nxH t l gd (nxH t l gd H b) b')).sum+Z8 t l gd (d+1) ((H,b+1)::S):=(by rw[Z8]);rw[a1,a3,a2,h,a0s,List.sum_cons,c];omega
end
theorem Hd.ahead{t:k7}{l:List Nat}{gd:List A8}{v:By}{h:p9}(hd:Hd t l gd v h):∀(u:By) (c:UInt8) (r:By),v=u++c::r→∃p x d,Hd t l gd u ⟨p,x,c::d⟩:=by
 induction hd with
 |root=>intro u c r h;simp at h
 |step _ _ _ _ a=>exact a
 | @byte v p x b d h1 a=>
  intro u c r h;rcases List.eq_nil_or_concat r with rfl|⟨r2,g,rfl⟩
  . obtain⟨rfl,e⟩:=List.append_inj' h rfl
    grind
  . rw[List.concat_eq_append,←a6X,←a2o]at h;obtain⟨f,_⟩:=List.append_inj' h rfl;exact a u c r2 f
theorem ofNat_toNat(h:b<256):(UInt8.ofNat b).toNat=b:=by simp[UInt8.toNat_ofNat'];omega
theorem b2I{t:k7}(e:s7 t){l:List Nat}{gd:List A8}(f:RDs t l gd):∀(d:Nat) (H:List p9) (u x:By),FrO t l gd u H→u.length+d=4*l.length+1→(x∈en t l gd d H u↔S8 t l x∧∃c r,x=u++c::r)
 |0,H,u,x,g,hd=>by
  constructor
  . intro h;cases h
  . rintro⟨h1,c,r,rfl⟩;obtain⟨y,a,_⟩:=(b1d e f _).1 h1;have:=a.len e f;simp at this;omega
 |d+1,H,u,x,g,hd=>by
  unfold en;rw[a3b];constructor
  . rintro⟨b,h1,a⟩;obtain⟨_,hb,m⟩:=b5x.1 h1;obtain⟨f1,f2⟩:=g.next e f (ofNat_toNat hb);rcases I5.1 a with a|a
    . grind
    . obtain⟨g1,c,r,rfl⟩:=(b2I e f d _ _ x f1 F6).1 a
      grind
  . rintro⟨h1,c,r,rfl⟩;obtain⟨y,a,_⟩:=(b1d e f _).1 h1;obtain⟨p,n,i,j⟩:=a.ahead u c r rfl;have hm:=(g _).2 ⟨j,k8⟩;have hb:c.toNat<256:=c.toNat_lt;have k:UInt8.ofNat c.toNat=c:=k8;obtain⟨f1,f2⟩:=g.next e f (b:=c.toNat) (c:=c) rfl;refine⟨c.toNat,b5x.2 ⟨E0 _,hb,a6m.2 ⟨_,hm,c,i,rfl,rfl⟩⟩,?_⟩;rw[k];cases r with
    |nil=>
     refine a4M _ ?_;rw[if_pos (f2.2 h1)];simp
    |cons c2 r=>
     refine a7V _ ((b2I e f d _ _ _ f1 F6).2 ⟨h1,c2,r,k8⟩)
noncomputable def a6o(t:k7)(l:List Nat)(gd:List A8):List By:=(if(X8 t l gd [⟨0,0,[]⟩]).2 then [[]]else [])++en t l gd (4*l.length+1) (X8 t l gd [⟨0,0,[]⟩]).1.2.2 []
theorem d1G{t:k7}(a:s7 t){l:List Nat}{gd:List A8}(b:RDs t l gd)(x:By):x∈a6o t l gd↔S8 t l x:=by
 obtain⟨f1,f2⟩:=FrO.first a b;unfold a6o;rw[I5,b2I a b _ _ _ _ f1 k8];constructor
 . grind
 . intro h;cases x with
   |nil=>left;rw[if_pos (f2.2 h)];simp
   |cons c r=>right;exact⟨h,c,r,rfl⟩
end
set_option maxHeartbeats 16000000
section
variable{H:List p9}{k nx:Nat}{m:Int}
def LO(H:List p9)(k nx:Nat)(m:Int):Prop:=b0c (H.take k) nx m
theorem LO.a8o(h:LO H k nx m)(g:k<H.length){c:UInt8}{r:By}(i:H[k].r=c::r)(j:¬(nx≤c.toNat∧(m<0∨(c.toNat:Int)<m))):LO H (k+1) nx m:=by
 unfold LO at*;rw[J5,l9 g];rcases h with⟨h1,d⟩|⟨b,h1,d,e,l⟩
 . refine .inl ⟨h1,fun h a c' f hr=>?_⟩;rcases I5.1 a with a|a
   . exact d h a c' f hr
   . grind
 . refine .inr ⟨b,h1,d,?_,fun h a c' f hr n=>?_⟩
   . unfold isF at e⊢;rw[List.any_append,e];rfl
   . grind
theorem LO.take(h:LO H k nx m)(f:k<H.length){c:UInt8}{r:By}(g:H[k].r=c::r)(i:nx≤c.toNat∧(m<0∨(c.toNat:Int)<m)):LO H (k+1) nx c.toNat:=by
 unfold LO at*;rw[J5,l9 f];refine .inr ⟨c.toNat,rfl,i.1,?_,fun h' a c' d hr j=>?_⟩
 . exact a6m.2 ⟨H[k],a7V _ (H5.2 rfl),c,r,g,rfl⟩
 . rcases I5.1 a with a|a
   . rcases h with⟨h1,e⟩|⟨b,h1,e,n,l⟩
     . have:=e h' a c' d hr;omega
     . have:=l h' a c' d hr j;omega
   . grind
theorem LO.ge(h:LO H k nx m): -1≤m:=by rcases h with⟨h1,_⟩|⟨b,h1,_⟩<;>omega
theorem b7w(H:List p9)(nx:Nat)(l:∀h∈H,h.r≠ [])(s:H.length≤4000000000000)(t:nx≤256):∃r,(∃m:Int,r=I m∧b0c H nx m)∧F0 89 [0] [.fptr [.slc (H.map HQ),IN nx]] r:=by
 refine a3u mixed (X:=X89) c89 2 (by simp[X89]) (by kernel_rfl) fun Q n u=>?_;simp[X89];refine I6 (fun(y:Nat×Int) vs h=>y.1≤H.length∧LO H y.1 nx y.2∧vs=[.fptr [.slc (H.map HQ),IN nx],.uu,I y.2,.uu,.uu,.slc (H.map HQ),IN H.length,IN y.1,.uu,.uu]∧h=[dd,dd]) (fun y=>H.length-y.1) (0,-1) ?_ ?_
 . simp;exact .inl ⟨rfl,fun h o=>by simp at o⟩
 . rintro⟨k,m⟩ vs h ⟨p,d,rfl,rfl⟩ Q' g q v;dsimp only at p d;have w:=d.ge;by_cases a:k<H.length
   . have i:=wk1 k j4;obtain⟨c,r,b⟩:∃c r,H[k].r=c::r:=by
      cases hr:H[k].r with
      |nil=>exact absurd hr (l _ (C4 a))
      |cons c r=>exact⟨c,r,rfl⟩
     have x:=c.toNat_lt;have j:IntKind.i64.wrap (c.toNat:Int)=(c.toNat:Int):=T3;by_cases g1:nx≤c.toNat
     . by_cases g2:m<0
       . have f:=d.take a b ⟨g1,.inl g2⟩;simp[a,b,j,g1,g2,i];refine g (k+1,(c.toNat:Int)) _ _ j4 ?_;simp;exact⟨j4,f⟩
       . by_cases g3:(c.toNat:Int)<m
         . have f:=d.take a b ⟨g1,.inr g3⟩;simp[a,b,j,g1,g2,g3,i];refine g (k+1,(c.toNat:Int)) _ _ j4 ?_;simp;exact⟨j4,f⟩
         . have f:=d.a8o a b (fun e=>e.2.elim g2 g3);simp[a,b,j,g1,g2,g3,i];refine g (k+1,m) _ _ j4 ?_;simp;exact⟨j4,f⟩
     . have f:=d.a8o a b (fun e=>g1 e.1);simp[a,b,j,g1,i];refine g (k+1,m) _ _ j4 ?_;simp;exact⟨j4,f⟩
   . obtain rfl:k=H.length:=j4;simp;refine q _ _ _ ?_;simp;refine n _ _ _ ⟨m,rfl,?_⟩ ?_
     . have:=d;unfold LO at this;rwa[K8]at this
     . simp[X89]
theorem b2Z(H:List p9)(b:Nat):(O6 H b).length≤H.length:=List.length_filterMap_le _ _
theorem c8V{b:Nat}(a:k<H.length):O6 (H.take (k+1)) b=O6 (H.take k) b++O6 [H[k]] b:=by unfold O6;rw[J5,l9 a,b5t];rfl
theorem c1F(H:List p9)(n:PV)(b:Nat)(hb:b<256)(o:∀h∈H,h.r≠ [])(t:H.length≤4000000000000):F0 90 [3] [.fptr [.slc (H.map HQ),n],UN b] (.uslc ((O6 H b).map HQ)):=by
 refine E1 c90 4 (by simp[X90]) fun Q p u=>?_;simp[X90];refine I6 (fun(k:Nat) vs h=>k≤H.length∧vs=[.uu,UN b,.uu,.own 3 1 (O6 (H.take k) b).length 3 0 (O6 (H.take k) b).length,.uu,.slc (H.map HQ),IN H.length,IN k,.uu,.uu]∧h=[dd,dd,dd,(1,.arr 3 0 false ((O6 (H.take k) b).map HQ))]) (fun k=>H.length-k) 0 ?_ ?_
 . simp[O6]
 . rintro k vs h ⟨v,rfl,rfl⟩ Q' i q w;have s:(O6 (H.take k) b).length≤k:=by
    have:=b2Z (H.take k) b;rw[a1V]at this;exact U3 this (Nat.min_le_left _ _)
   by_cases d:k<H.length
   . have j:=wk1 k j4;obtain⟨c,r,f⟩:∃c r,H[k].r=c::r:=by
      cases hr:H[k].r with
      |nil=>exact absurd hr (o _ (C4 d))
      |cons c r=>exact⟨c,r,rfl⟩
     have a:=c8V (b:=b) d;by_cases g:c.toNat=b
     . have e:O6 [H[k]] b=[⟨H[k].p,H[k].x,r⟩]:=(by simp[O6,f,g]);rw[e]at a;obtain⟨B1,l⟩:=s8 (O6 (H.take k) b);obtain⟨B2,m⟩:=s8 (O6 (H.take (k+1)) b);rw[←l,←m]at a;rw[←l]at s⊢;have f1:B1.map HQ++[.agg [IN H[k].p,IN H[k].x,St r]]=B2.map HQ:=(by grind);have f2:B1.length+1=B2.length:=(by rw[a];simp);have f3:B2.length*32≤140737488355328:=j4;have f4:(1:Int)≤(r.length:Int)+1:=j4;simp[d,f,g,j,f1,f2,f3,f4];refine i (k+1) _ _ j4 ?_;simp[←m];omega
     . have e:O6 [H[k]] b=[]:=(by simp[O6,f,g]);rw[e,a1v]at a;simp[d,f,g,j];refine i (k+1) _ _ j4 ?_;simp[a];omega
   . obtain rfl:k=H.length:=j4;rw[K8]at*;simp;refine q _ _ _ ?_;simp;refine p _ _ ?_;simp[X90]
end
def X48:u9:=
 ⟨4,[0,1,2],8,[(2,none)],sq [.reg [H4 1 7 0,ow 2 (.mv (.c (.lit .nilFunc)))],.reg [oq (.mkfn (.func 87) [] [.v 1]),oc 2 0],ko]⟩
def X87:u9:=
 ⟨81,[0,1,3,4,5,6,7,8,22,28,37,75],16,[],sq [ku 2,.reg [G5 1 1,oq (.build [.int .i64 0,.int .i64 0] []),oq (.build [.int .i64 0,.int .i64 0,.str ⟨#[]⟩] [(0,2,.l 1)]),oq (.lit 3 [.agg [.int .i64 0,.int .i64 0,.str ⟨#[]⟩]] [(0,.l 2)]),odp 88 0 3 8 3 0 0,om 4,oy 5 0,oy 5 1,oc 3 6,oc 4 7],sq [.reg [oa 4,om 0,oj 0 1,⟨.cally (.l 2) [.c (.str ⟨#[]⟩)],none,some (.l 1,true),[]⟩,oct 3 1,V1 8 1 4],.cond (.v 8) ko kc],.reg [oa 3,oq (.build [.nils,.int .i64 0] [(0,1,.l 0)]),oq (.mkarr 9 2 [.agg [.nils,.int .i64 0]] [(0,.l 1)]),oc 5 2],.G6 [(8,true),(9,false)] (.block 0 (.loop (sq [sq [.reg [oa 5,E6 0,ods 9 1 0],B9 9 0],.block 1 (sq [.reg [oa 5,oa 5,E6 1,obk 2 1,ol 2 0 3,oc 6 4],.reg [oa 6,Y4 89 0 0 0,oc 7 1],sq [.reg [oa 7,ow 10 (.bin .lss false (.l 0) (oi 0))],.cond (.v 10) (sq [.reg [oa 5,oa 5,E6 1,obk 2 1,ocy 2 0 3,oc 5 4],.reg [oa 2,oa 2,E6 1,obk 2 1,oq (.minmax true [.l 3,oi 0]),ocy 1 0 4,oc 2 5],kn 1]) kc],.reg [oa 6,oa 7,oaf 1 1,C7 0,ok 1 3,og 1 4 2],.reg [oa 2,oa 7,oex 1,ocw 10 1 0 0 2,J3 11 1 1 1 0 3,oc 2 4],.reg [odt 1 1 12,oa 6,oa 7,oex 2,oay 90 1 3 12 3,odp 88 0 4 13 3 0 0,om 5,oy 6 0,oy 6 1,oc 3 7,oc 4 8],.G6 [(13,true)] (sq [sq [.reg [oa 4,om 0,oj 0 1,oj 2 1,⟨.convStr (.l 3),none,some (.l 1,true),[]⟩,⟨.cally (.l 2) [.l 4],none,some (.l 1,true),[]⟩,oct 5 1,V1 11 1 6],.cond (.v 11) ko kc],.reg [oa 5,oa 3,oq (.build [.nils,.int .i64 0] [(0,1,.l 1)]),oq (.mkarr 14 2 [.agg [.nils,.int .i64 0]] [(0,.l 2)]),J3 15 2 32 1 0 3,oc 5 4]])])])))]⟩
theorem c48:L9 Tryz.prog 48 7=some X48:=by kernel_rfl
theorem c87:L9 Tryz.prog 87 8=some {X87 with body:=I0 X87.body}:=by kernel_rfl
abbrev SE(f:List p9×Nat):PV:=.agg [.slc (f.1.map HQ),IN f.2]
def TX(tv:PV)(R:Row)(u:By):Prop:=(tv=.nils∧u=[]∧∃g,R=(g,.dead))∨∃(g ver:Nat) (T:By) (n:Nat),tv=.own 11 g T.length 1 0 n∧R=(g,.arr 1 ver false (T.map UB))∧n≤T.length∧u=T.take n∧T.length≤4000000000
structure RC7 where
 (r0 r1 r2 r3 r4 r5 r6 r13:Row)
structure TV where
 (w3 w4 w6 w7 w8 w9 w10 w11:PV)
def StO(t:k7)(l:List Nat)(gd:List A8)(S:List (List p9×Nat))(n:Nat)(u:By):Prop:=∀i H nx,i<n→S[i]?=some (H,nx)→FrO t l gd (u.take i) H∧H.Nodup∧nx≤256
theorem c8W(t:k7)(ac:s7 t)(l:List Nat)(b7:l.length≤500000000)(gd:List A8)(ad:RDs t l gd)(HB:Nat)(bJ:∀(u:By) (H:List p9),FrO t l gd u H→H.Nodup→H.length≤HB)(b8:1≤HB)(b9:HB+(l.length+1)*((j8 t).length*t.rules.length)≤4000000000000)
 {Y:YT} (au:a9E Y) {K:Option O4→Heap→Prop} (av:Nat→List Row→Prop) (a0 a1 a2 a3 a4 a5 a6:Row) (g7:Nat) (bK:av 0 [a0,a1,a2,a3,a4,a5,a6])
 (aw:∀(k:Nat) (x:By) (r0 r1 r2 r3 r4 r5 r6:Row) (tail:List Row),(a6o t l gd)[k]?=some x→av k [r0,r1,r2,r3,r4,r5,r6]→Y [St x] (r0::r1::r2::r3::r4::r5::r6::tail) (fun p h'=>∃a8 M a9 L ba bb bc,h'=a8::M::a9::L::ba::bb::bc::tail∧(match p with
  |none=>av (k+1) [a8,M,a9,L,ba,bb,bc]
  |some e=>∀tail,K (some e) (a8::M::a9::L::ba::bb::bc::tail))))
 (bd:∀(r0 r1 r2 r3 r4 r5 r6:Row) (tail:List Row),av (a6o t l gd).length [r0,r1,r2,r3,r4,r5,r6]→K none (r0::r1::r2::r3::r4::r5::r6::tail)):
 IT Tryz.prog (.fn (.func 87) [] [.ptr 7 g7 0]) Y [a0,a1,a2,a3,a4,a5,a6,(g7,.var [RD t l gd]),dd,dd,dd,dd,dd,dd,dd,dd] K:=by
 refine c0F mixed (X:=X87) c87 rfl (by rfl) au (by simp[X87]) k8 ?_;intro bL Q ax bM;have be:=b3x t ac l j4 gd ad [⟨0,0,[]⟩] (by unfold a0A;simp;omega);obtain⟨E,ae⟩:=s8 (a6o t l gd);rw[←ae]at aw bd;obtain⟨f1,f2⟩:=FrO.first ac ad (t:=t) (l:=l) (gd:=gd);have bN:=(a9e ac ad [⟨0,0,[]⟩]).nodup;unfold a6o at ae;obtain⟨H0,bQ⟩:=s8 ((X8 t l gd [⟨0,0,[]⟩]).1.2.2);obtain⟨bR,bS⟩:=s8 ((X8 t l gd [⟨0,0,[]⟩]).2);rw[←bQ]at ae be f1 bN;rw[←bS]at ae be f2;simp[X87];refine l8 be ?_;simp;obtain⟨D,bT⟩:=s8 (4*l.length+1);have bU:en t l gd (4*l.length+1) H0 []=W7 t l gd D [(H0,0)] []:=by rw[bT];show _=(S6 H0 0).flatMap _++W7 t l gd _ [] _;rw[show W7 t l gd (4*l.length+1+1) [] ([]:By).dropLast=[]from by rw[W7],a1v];rfl
 rw[bU]at ae;have bO:StO t l gd [(H0,0)] 1 []:=fun i H nx hi ay=>by obtain rfl:i=0:=j4;cases ay;exact⟨f1,bN,j4⟩
 cases bR with
 |true=>
  rw[if_pos rfl]at ae;simp;refine a5c rfl rfl ?_;refine au _ _ _ _ ?_ (aw 0 [] a0 a1 a2 a3 a4 a5 a6 _ (by rw[ae];rfl) bK);rintro p h' ⟨a0,a1,a2,a3,a4,a5,a6,rfl,hp⟩;refine⟨rfl,?_⟩;cases p with
  |some e=>
   simp;refine ax (some e) _ _ (by rfl) (hp _)
  |none=>
   obtain⟨af,bf,bg,bh⟩:∃af,av af [a0,a1,a2,a3,a4,a5,a6]∧E.drop af=W7 t l gd D [(H0,0)] []∧af≤E.length:=⟨1,hp,by rw[ae];rfl,by rw[ae];simp⟩
   simp;refine F5 (fun(y:Nat×PV×Row×By×List (List p9×Nat)×Nat×Nat×Nat×Row×Nat×RC7×TV) vs h=>y.1≤E.length∧av y.1 [y.2.2.2.2.2.2.2.2.2.2.1.r0,y.2.2.2.2.2.2.2.2.2.2.1.r1,y.2.2.2.2.2.2.2.2.2.2.1.r2,y.2.2.2.2.2.2.2.2.2.2.1.r3,y.2.2.2.2.2.2.2.2.2.2.1.r4,y.2.2.2.2.2.2.2.2.2.2.1.r5,y.2.2.2.2.2.2.2.2.2.2.1.r6]∧E.drop y.1=W7 t l gd (D+1-y.2.2.2.2.2.1) ((y.2.2.2.2.1.take y.2.2.2.2.2.1).reverse) y.2.2.2.1∧TX y.2.1 y.2.2.1 y.2.2.2.1∧y.2.2.2.2.2.1≤y.2.2.2.2.1.length∧y.2.2.2.2.1.length≤D∧(y.2.2.2.2.2.1=0∧y.2.2.2.1=[]∨y.2.2.2.1.length+1=y.2.2.2.2.2.1)∧StO t l gd y.2.2.2.2.1 y.2.2.2.2.2.1 y.2.2.2.1∧
    vs=[.fn (.yield bL) [] [],.ptr 7 g7 0,y.2.1,y.2.2.2.2.2.2.2.2.2.2.2.w3,y.2.2.2.2.2.2.2.2.2.2.2.w4,.own 9 1 y.2.2.2.2.1.length 2 0 y.2.2.2.2.2.1,y.2.2.2.2.2.2.2.2.2.2.2.w6,y.2.2.2.2.2.2.2.2.2.2.2.w7,y.2.2.2.2.2.2.2.2.2.2.2.w8,y.2.2.2.2.2.2.2.2.2.2.2.w9,y.2.2.2.2.2.2.2.2.2.2.2.w10,y.2.2.2.2.2.2.2.2.2.2.2.w11,gOf none]∧h=[y.2.2.2.2.2.2.2.2.2.2.1.r0,y.2.2.2.2.2.2.2.2.2.2.1.r1,y.2.2.2.2.2.2.2.2.2.2.1.r2,y.2.2.2.2.2.2.2.2.2.2.1.r3,y.2.2.2.2.2.2.2.2.2.2.1.r4,y.2.2.2.2.2.2.2.2.2.2.1.r5,y.2.2.2.2.2.2.2.2.2.2.1.r6,(g7,.var [RD t l gd]),(1,.arr 3 1 true (H0.map HQ)),(1,.arr 2 y.2.2.2.2.2.2.1 false (y.2.2.2.2.1.map SE)),(y.2.2.2.2.2.2.2.1,.dead),y.2.2.1,y.2.2.2.2.2.2.2.2.1,y.2.2.2.2.2.2.2.2.2.2.1.r13,(y.2.2.2.2.2.2.2.2.2.1,.dead),dd]) (fun y=>Z8 t l gd (D+1-y.2.2.2.2.2.1) ((y.2.2.2.2.1.take y.2.2.2.2.2.1).reverse))
    (af,.nils,dd,[],[(H0,0)],1,_,_,dd,0,⟨a0,a1,a2,a3,a4,a5,a6,dd⟩,⟨_,_,_,_,_,_,_,_⟩) ⟨bh,bf,bg,.inl ⟨rfl,rfl,0,rfl⟩,p7 _,F6,.inr rfl,bO,rfl,rfl⟩ ?_
   rintro⟨k,tv,R10,u,S,n,aP,g9,R11,g13,⟨r0,r1,r2,r3,r4,r5,r6,r13⟩,⟨w3,w4,w6,w7,w8,w9,w10,w11⟩⟩ vs h ⟨z0,B,z2,z3,z4,z5,bi,al,rfl,rfl⟩ Q3 C bj az;dsimp only at z0 B z2 z3 z4 z5 bi al;by_cases bk:n=0
   . subst bk;have bP:E.drop k=[]:=(by rw[z2,List.take_zero,List.reverse_nil,W7]);have bl:k=E.length:=(by grind);rw[bl]at B;simp;refine bj _ _ _ ?_;simp;exact bM none _ _ (by rfl) (bd _ _ _ _ _ _ _ _ B)
   . obtain⟨m,hm⟩:∃m,n=m+1:=⟨n-1,j4⟩
     have bm:0<n:=j4;have aQ:m<n:=j4;have aR:m≤n:=j4;have aA:IntKind.i64.wrap ((n:Int)-1)=(m:Int):=(by rw[wrap_ok j4 j4];omega);have P:m<S.length:=j4;have bn:u.length=m:=j4;have bo:u.take m=u:=a0t j4;obtain⟨⟨H,nx⟩,hS⟩:∃f,S[m]=f:=⟨_,rfl⟩
     have bp:(S.take n).reverse=(H,nx)::(S.take m).reverse:=(by rw[hm,J5,l9 P,hS];simp);obtain⟨ag,bq,br⟩:=al m H nx aQ (by grind);rw[bo]at ag;have aS:∀h∈H,h.r≠ []:=fun h aB=>((ag h).1 aB).2;have bV:=bJ u H ag bq;obtain⟨r,⟨bW,rfl,bs⟩,bt⟩:=b7w H nx aS j4 br;have hd:D+1-n=D-m:=j4;have bX:D+1-m=(D-m)+1∨D<m:=j4;simp[bm,aA,aQ,P,hS];refine l8 bt ?_;rcases bs.S6 with⟨rfl,aC⟩|⟨b,rfl,bY,aT,bu,aC⟩
     . obtain⟨O,ah⟩:=b8A (t:=t) (l:=l) (gd:=gd) (d:=D+1-n) (S:=(S.take m).reverse) (u:=u) aC;rw[show D+1-n+1=D+1-m by omega]at O ah;have N:E.drop k=W7 t l gd (D+1-m) ((S.take m).reverse) u.dropLast:=(by rw[z2,bp,O]);have z:Z8 t l gd (D+1-m) ((S.take m).reverse)<Z8 t l gd (D+1-n) ((S.take n).reverse):=(by grind);have hdl:u.dropLast=u.take (m-1):=(by rw[List.dropLast_eq_take,bn]);have v:m=0∧u.dropLast=[]∨u.dropLast.length+1=m:=(by grind);have w:StO t l gd S m u.dropLast:=fun i H' am hi ay=>by
        have:=al i H' am j4 ay;rw[hdl,List.take_take,Nat.min_eq_left j4];exact this
       have bv:IntKind.i64.wrap (-1)= -1:=T3;rcases z3 with⟨rfl,rfl,g,rfl⟩|⟨g,ver,T,j,rfl,rfl,h1,rfl,aD⟩
       . simp[aA,aR,bv];exact C (k,.nils,(g,.dead),[],S,m,aP,g9,R11,g13,⟨r0,r1,r2,r3,r4,r5,r6,r13⟩,⟨_,_,_,_,_,_,_,_⟩) _ _ z ⟨z0,B,N,.inl ⟨rfl,rfl,g,rfl⟩,u7,z5,v,w,rfl,rfl⟩
       . have bw:IntKind.i64.wrap ((j:Int)-1)=(j:Int)-1:=T3;have aU:(if(j:Int)-1<0 then 0 else(j:Int)-1)=((j-1:Nat):Int):=(by split<;>omega);obtain⟨an,bx⟩:=s8 (j-1);rw[←bx]at aU;have bz:an≤j:=j4;have bA:(T.take j).dropLast=T.take an:=(by grind);simp[aA,aR,bw,aU,bz];exact C (k,.own 11 g T.length 1 0 an,(g,.arr 1 ver false (T.map UB)),(T.take j).dropLast,S,m,aP,g9,R11,g13,⟨r0,r1,r2,r3,r4,r5,r6,r13⟩,⟨_,_,_,_,_,_,_,_⟩) _ _ z ⟨z0,B,N,.inr ⟨g,ver,T,an,rfl,rfl,j4,bA,aD⟩,u7,z5,v,w,rfl,rfl⟩
     . have bZ:S[m]?=some (H,nx):=(by rw[l9 P,hS]);have aE:=wk1 b j4;have aF:IntKind.u8.wrap (b:Int)=(b:Int):=(by simp[IntKind.wrap,IntKind.signed,IntKind.bits];omega);obtain⟨c,aG⟩:=s8 (UInt8.ofNat b);have aH:c.toNat=b:=(by rw[aG];exact ofNat_toNat aT);obtain⟨S1,ao⟩:=s8 (S.set m (H,b+1));have A:S1.length=S.length:=(by rw[ao];simp);have aI:(S.map SE).set m (.agg [.slc (H.map HQ),.int .i64 ((b:Int)+1)])=S1.map SE:=(by rw[ao,L6];rfl);have ap:S1[m]'j4=(H,b+1):=(by simp[ao]);have b0:(S1.map SE)[m]?=some (SE (H,b+1)):=(by grind);obtain⟨aV,bB⟩:=ag.next ac ad aH;have aW:=(a9e ac ad (O6 H b)).nodup;have b1:=b2Z H b;have ai:=b3x t ac l j4 gd ad (O6 H b) (by unfold a0A;omega);have aJ:=c1F H (IN (b+1)) b aT aS j4;have b2:u.length+1≤4*l.length:=by
        obtain⟨h,aB,c',b3,hr,_⟩:=a6m.1 bu;have:=((ag h).1 aB).1.len ac ad;rw[hr]at this;simp at this;omega
       have b4:n+1≤D:=j4;obtain⟨O,ah⟩:=c0b (t:=t) (l:=l) (gd:=gd) (d:=D-n) (u:=u) (S:=(S.take m).reverse) aC (.inl j4);rw[show D-n+1=D+1-n by omega,←aG]at O;rw[show D-n+1=D+1-n by omega]at ah;obtain⟨HN,aX⟩:=s8 ((X8 t l gd (O6 H b)).1.2.2);obtain⟨R,aY⟩:=s8 ((X8 t l gd (O6 H b)).2);rw[←aX]at ai aV aW;rw[←aY]at ai bB;unfold nxH nxE at O;unfold nxH at ah;rw[←aX]at O ah;rw[←aY]at O;obtain⟨S2,aj⟩:∃S2,S2=S1.take n++(HN,0)::S1.drop (n+1):=⟨_,rfl⟩
       have o:S2.length≤D∧n+1≤S2.length:=by rw[aj];simp;omega
       have bC:S2.take (n+1)=S1.take n++[(HN,0)]:=(by grind);have bD:S1.take n=S.take m++[(H,b+1)]:=by rw[hm,J5,l9 j4,ap,ao,List.take_set_of_le (p7 m)];rfl
       have b5:(S2.take (n+1)).reverse=(HN,0)::(H,b+1)::(S.take m).reverse:=(by grind);have N:E.drop k=(if R=true then [u++[c]]else [])++W7 t l gd (D+1-(n+1)) ((S2.take (n+1)).reverse) (u++[c]):=(by grind);have z:Z8 t l gd (D+1-(n+1)) ((S2.take (n+1)).reverse)<Z8 t l gd (D+1-n) ((S.take n).reverse):=(by grind);have w:StO t l gd S2 (n+1) (u++[c]):=fun i H' am hi ay=>by
        have ak:(S2.take (n+1))[i]?=some (H',am):=(by grind);rw[bC,bD]at ak;by_cases h1:i<m
        . rw[a1k F6,a1k F6,a0H,if_pos h1]at ak;have:=al i H' am j4 ak;rw[List.take_append_of_le_length j4];exact this
        . by_cases aD:i=m
          . grind
          . have bE:i=n:=j4;subst bE;have e:(S.take m++[(H,b+1)]++[(HN,0)])[i]?=some (HN,0):=(by grind);rw[e]at ak;cases ak;rw[a0t F6];exact⟨aV,aW,j4⟩
       have v:n+1=0∧u++[c]=[]∨(u++[c]).length+1=n+1:=(by grind);have U:S1.length*32≤140737488355328∧(n+1)*32≤140737488355328:=j4;have aq:R=true→E[k]?=some (u++[c])∧E.drop (k+1)=W7 t l gd (D+1-(n+1)) ((S2.take (n+1)).reverse) (u++[c])∧k+1≤E.length:=fun he=>by
        rw[if_pos he]at N;have h1:=congrArg (fun q:List By=>q[0]?) N;simp at h1;refine⟨h1,?_,?_⟩
        . rw[←a2V,N];rfl
        . grind
       have ar:R=false→E.drop k=W7 t l gd (D+1-(n+1)) ((S2.take (n+1)).reverse) (u++[c]):=fun he=>by rw[he]at N;simpa using N
       have V:n=S.length→S1.map SE++[.agg [.slc (HN.map HQ),.int .i64 0]]=S2.map SE:=fun e=>by rw[aj,a0t j4,b5r j4,S0];rfl
       have G:n=S.length→S.length+1=S2.length:=fun e=>(by rw[aj];simp;omega);have W:(S1.map SE).take n++ .agg [.slc (HN.map HQ),.int .i64 0]::(S1.map SE).drop (n+1)=S2.map SE:=by rw[aj,S0,a4h,a0s,a2X];rfl
       have Z:n≠S.length→n+(S.length-(n+1)+1)=S2.length:=fun e=>(by rw[aj];simp;omega);have aa:n=S.length→S2.length*32≤140737488355328:=fun e=>(by have:=o.1;omega);obtain⟨uu,aK⟩:=s8 (u++[c]);rw[←aK]at N v w aq ar;rcases z3 with⟨rfl,rfl,g,rfl⟩|⟨g,ver,T,j,rfl,rfl,h1,rfl,aD⟩
       . have bF:a0n [.int .u8 (b:Int)]=some uu:=(by rw[aK,aG];simp[a0n,a6R]);have F:TX (.own 11 (g+1) 1 1 0 1) (g+1,.arr 1 0 false [.int .u8 (b:Int)]) uu:=.inr ⟨g+1,0,[c],1,rfl,by rw[←aH];rfl,k8,by rw[aK];simp,k8⟩;simp[hS,aE,aI,aF,ap,A,P];refine l8 aJ ?_;simp;refine l8 ai ?_;simp;cases R with
         |false=>
          have s:=ar rfl;by_cases a:n=S.length
          . have I:n+1=S2.length:=(by have:=G a;omega);simp[V a,G a,a,A,o.1,aa a];rw[I]at z s v w;exact C (k,.own 11 (g+1) 1 1 0 1,(g+1,.arr 1 0 false [.int .u8 (b:Int)]),uu,S2,S2.length,_,_,_,_,⟨r0,r1,r2,r3,r4,r5,r6,_⟩,⟨_,_,_,_,_,_,_,_⟩) _ _ z ⟨z0,B,s,F,p7 _,o.1,v,w,rfl,rfl⟩
          . have J:n≤S.length:=z4;simp[W,Z a,a,A,J,U.2];exact C (k,.own 11 (g+1) 1 1 0 1,(g+1,.arr 1 0 false [.int .u8 (b:Int)]),uu,S2,n+1,_,_,_,_,⟨r0,r1,r2,r3,r4,r5,r6,_⟩,⟨_,_,_,_,_,_,_,_⟩) _ _ z ⟨z0,B,s,F,o.2,o.1,v,w,rfl,rfl⟩
         |true=>
          obtain⟨M,s,L⟩:=aq rfl;simp[bF];refine a5c rfl rfl ?_;refine au _ _ _ _ ?_ (aw k uu r0 r1 r2 r3 r4 r5 r6 _ M B);rintro p h' ⟨a0,a1,a2,a3,a4,a5,a6,rfl,hp⟩;refine⟨rfl,?_⟩;cases p with
          |some e=>
           simp;refine az _ _ ?_;exact ax (some e) _ _ (by rfl) (hp _)
          |none=>
           simp;by_cases a:n=S.length
           . have I:n+1=S2.length:=(by have:=G a;omega);simp[V a,G a,a,A,o.1,aa a];rw[I]at z s v w;exact C (k+1,.own 11 (g+1) 1 1 0 1,(g+1,.arr 1 0 false [.int .u8 (b:Int)]),uu,S2,S2.length,_,_,_,_,⟨a0,a1,a2,a3,a4,a5,a6,_⟩,⟨_,_,_,_,_,_,_,_⟩) _ _ z ⟨L,hp,s,F,p7 _,o.1,v,w,rfl,rfl⟩
           . have J:n≤S.length:=z4;simp[W,Z a,a,A,J,U.2];exact C (k+1,.own 11 (g+1) 1 1 0 1,(g+1,.arr 1 0 false [.int .u8 (b:Int)]),uu,S2,n+1,_,_,_,_,⟨a0,a1,a2,a3,a4,a5,a6,_⟩,⟨_,_,_,_,_,_,_,_⟩) _ _ z ⟨L,hp,s,F,o.2,o.1,v,w,rfl,rfl⟩
       . have b6:(T.take j).length=j:=(by rw[a1V];omega);by_cases aZ:j=T.length
         . obtain⟨T2,aL⟩:=s8 (T++[c]);have aM:T.map UB++[.int .u8 (b:Int)]=T2.map UB:=(by grind);have aN:T.length+1=T2.length:=(by rw[aL];simp);have aO:T2.length≤140737488355328:=j4;have ab:uu=T2:=(by grind);have F:TX (.own 11 g T2.length 1 0 T2.length) (g,.arr 1 ver false (T2.map UB)) uu:=.inr ⟨g,ver,T2,T2.length,rfl,rfl,p7 _,by rw[ab,K8],j4⟩;simp[hS,aE,aI,aF,ap,A,P,aZ,aM,aN,aO];refine l8 aJ ?_;simp;refine l8 ai ?_;simp;cases R with
           |false=>
            have s:=ar rfl;by_cases a:n=S.length
            . have I:n+1=S2.length:=(by have:=G a;omega);simp[V a,G a,a,A,o.1,aa a];rw[I]at z s v w;exact C (k,.own 11 g T2.length 1 0 T2.length,(g,.arr 1 ver false (T2.map UB)),uu,S2,S2.length,_,_,_,_,⟨r0,r1,r2,r3,r4,r5,r6,_⟩,⟨_,_,_,_,_,_,_,_⟩) _ _ z ⟨z0,B,s,F,p7 _,o.1,v,w,rfl,rfl⟩
            . have J:n≤S.length:=z4;simp[W,Z a,a,A,J,U.2];exact C (k,.own 11 g T2.length 1 0 T2.length,(g,.arr 1 ver false (T2.map UB)),uu,S2,n+1,_,_,_,_,⟨r0,r1,r2,r3,r4,r5,r6,_⟩,⟨_,_,_,_,_,_,_,_⟩) _ _ z ⟨z0,B,s,F,o.2,o.1,v,w,rfl,rfl⟩
           |true=>
            obtain⟨M,s,L⟩:=aq rfl;have M:E[k]?=some T2:=ab▸M;simp[];refine a5c rfl rfl ?_;refine au _ _ _ _ ?_ (aw k T2 r0 r1 r2 r3 r4 r5 r6 _ M B);rintro p h' ⟨a0,a1,a2,a3,a4,a5,a6,rfl,hp⟩;refine⟨rfl,?_⟩;cases p with
            |some e=>
             simp;refine az _ _ ?_;exact ax (some e) _ _ (by rfl) (hp _)
            |none=>
             simp;by_cases a:n=S.length
             . have I:n+1=S2.length:=(by have:=G a;omega);simp[V a,G a,a,A,o.1,aa a];rw[I]at z s v w;exact C (k+1,.own 11 g T2.length 1 0 T2.length,(g,.arr 1 ver false (T2.map UB)),uu,S2,S2.length,_,_,_,_,⟨a0,a1,a2,a3,a4,a5,a6,_⟩,⟨_,_,_,_,_,_,_,_⟩) _ _ z ⟨L,hp,s,F,p7 _,o.1,v,w,rfl,rfl⟩
             . have J:n≤S.length:=z4;simp[W,Z a,a,A,J,U.2];exact C (k+1,.own 11 g T2.length 1 0 T2.length,(g,.arr 1 ver false (T2.map UB)),uu,S2,n+1,_,_,_,_,⟨a0,a1,a2,a3,a4,a5,a6,_⟩,⟨_,_,_,_,_,_,_,_⟩) _ _ z ⟨L,hp,s,F,o.2,o.1,v,w,rfl,rfl⟩
         . obtain⟨T2,aL⟩:∃T2,T2=T.take j++c::T.drop (j+1):=⟨_,rfl⟩
           have aM:(T.map UB).take j++ .int .u8 (b:Int)::(T.map UB).drop (j+1)=T2.map UB:=(by rw[aL,S0,a4h,a0s,a2X,←aH]);have aN:j+(T.length-(j+1)+1)=T2.length:=(by grind);have aO:j+1≤140737488355328:=j4;have bG:j≤T.length:=h1;have a7:j+1≤T2.length:=j4;have ab:T2.take (j+1)=uu:=(by grind);have bH:a0n ((T2.map UB).take (j+1))=some uu:=(by rw[←a4h,a9y,ab]);have bI:a0n ((T2.take (j+1)).map UB)=some uu:=(by rw[a9y,ab]);have F:TX (.own 11 g T2.length 1 0 (j+1)) (g,.arr 1 (ver+1) false (T2.map UB)) uu:=.inr ⟨g,ver+1,T2,j+1,rfl,rfl,a7,ab.symm,j4⟩;simp[hS,aE,aI,aF,ap,A,P,aZ,bG,aM,aN,aO];refine l8 aJ ?_;simp;refine l8 ai ?_;simp;cases R with
           |false=>
            have s:=ar rfl;by_cases a:n=S.length
            . have I:n+1=S2.length:=(by have:=G a;omega);simp[V a,G a,a,A,o.1,aa a];rw[I]at z s v w;exact C (k,.own 11 g T2.length 1 0 (j+1),(g,.arr 1 (ver+1) false (T2.map UB)),uu,S2,S2.length,_,_,_,_,⟨r0,r1,r2,r3,r4,r5,r6,_⟩,⟨_,_,_,_,_,_,_,_⟩) _ _ z ⟨z0,B,s,F,p7 _,o.1,v,w,rfl,rfl⟩
            . have J:n≤S.length:=z4;simp[W,Z a,a,A,J,U.2];exact C (k,.own 11 g T2.length 1 0 (j+1),(g,.arr 1 (ver+1) false (T2.map UB)),uu,S2,n+1,_,_,_,_,⟨r0,r1,r2,r3,r4,r5,r6,_⟩,⟨_,_,_,_,_,_,_,_⟩) _ _ z ⟨z0,B,s,F,o.2,o.1,v,w,rfl,rfl⟩
           |true=>
            obtain⟨M,s,L⟩:=aq rfl;simp[bH,bI,a7];refine a5c rfl rfl ?_;refine au _ _ _ _ ?_ (aw k uu r0 r1 r2 r3 r4 r5 r6 _ M B);rintro p h' ⟨a0,a1,a2,a3,a4,a5,a6,rfl,hp⟩;refine⟨rfl,?_⟩;cases p with
            |some e=>
             simp;refine az _ _ ?_;exact ax (some e) _ _ (by rfl) (hp _)
            |none=>
             simp;by_cases a:n=S.length
             . have I:n+1=S2.length:=(by have:=G a;omega);simp[V a,G a,a,A,o.1,aa a];rw[I]at z s v w;exact C (k+1,.own 11 g T2.length 1 0 (j+1),(g,.arr 1 (ver+1) false (T2.map UB)),uu,S2,S2.length,_,_,_,_,⟨a0,a1,a2,a3,a4,a5,a6,_⟩,⟨_,_,_,_,_,_,_,_⟩) _ _ z ⟨L,hp,s,F,p7 _,o.1,v,w,rfl,rfl⟩
             . have J:n≤S.length:=z4;simp[W,Z a,a,A,J,U.2];exact C (k+1,.own 11 g T2.length 1 0 (j+1),(g,.arr 1 (ver+1) false (T2.map UB)),uu,S2,n+1,_,_,_,_,⟨a0,a1,a2,a3,a4,a5,a6,_⟩,⟨_,_,_,_,_,_,_,_⟩) _ _ z ⟨L,hp,s,F,o.2,o.1,v,w,rfl,rfl⟩
 |false=>
  rw[if_neg k8,a4H]at ae;obtain⟨af,bf,bg,bh⟩:∃af,av af [a0,a1,a2,a3,a4,a5,a6]∧E.drop af=W7 t l gd D [(H0,0)] []∧af≤E.length:=⟨0,bK,by rw[ae];rfl,E0 _⟩
  simp;refine F5 (fun(y:Nat×PV×Row×By×List (List p9×Nat)×Nat×Nat×Nat×Row×Nat×RC7×TV) vs h=>y.1≤E.length∧av y.1 [y.2.2.2.2.2.2.2.2.2.2.1.r0,y.2.2.2.2.2.2.2.2.2.2.1.r1,y.2.2.2.2.2.2.2.2.2.2.1.r2,y.2.2.2.2.2.2.2.2.2.2.1.r3,y.2.2.2.2.2.2.2.2.2.2.1.r4,y.2.2.2.2.2.2.2.2.2.2.1.r5,y.2.2.2.2.2.2.2.2.2.2.1.r6]∧E.drop y.1=W7 t l gd (D+1-y.2.2.2.2.2.1) ((y.2.2.2.2.1.take y.2.2.2.2.2.1).reverse) y.2.2.2.1∧TX y.2.1 y.2.2.1 y.2.2.2.1∧y.2.2.2.2.2.1≤y.2.2.2.2.1.length∧y.2.2.2.2.1.length≤D∧(y.2.2.2.2.2.1=0∧y.2.2.2.1=[]∨y.2.2.2.1.length+1=y.2.2.2.2.2.1)∧StO t l gd y.2.2.2.2.1 y.2.2.2.2.2.1 y.2.2.2.1∧
   vs=[.fn (.yield bL) [] [],.ptr 7 g7 0,y.2.1,y.2.2.2.2.2.2.2.2.2.2.2.w3,y.2.2.2.2.2.2.2.2.2.2.2.w4,.own 9 1 y.2.2.2.2.1.length 2 0 y.2.2.2.2.2.1,y.2.2.2.2.2.2.2.2.2.2.2.w6,y.2.2.2.2.2.2.2.2.2.2.2.w7,y.2.2.2.2.2.2.2.2.2.2.2.w8,y.2.2.2.2.2.2.2.2.2.2.2.w9,y.2.2.2.2.2.2.2.2.2.2.2.w10,y.2.2.2.2.2.2.2.2.2.2.2.w11,gOf none]∧h=[y.2.2.2.2.2.2.2.2.2.2.1.r0,y.2.2.2.2.2.2.2.2.2.2.1.r1,y.2.2.2.2.2.2.2.2.2.2.1.r2,y.2.2.2.2.2.2.2.2.2.2.1.r3,y.2.2.2.2.2.2.2.2.2.2.1.r4,y.2.2.2.2.2.2.2.2.2.2.1.r5,y.2.2.2.2.2.2.2.2.2.2.1.r6,(g7,.var [RD t l gd]),(1,.arr 3 1 true (H0.map HQ)),(1,.arr 2 y.2.2.2.2.2.2.1 false (y.2.2.2.2.1.map SE)),(y.2.2.2.2.2.2.2.1,.dead),y.2.2.1,y.2.2.2.2.2.2.2.2.1,y.2.2.2.2.2.2.2.2.2.2.1.r13,(y.2.2.2.2.2.2.2.2.2.1,.dead),dd]) (fun y=>Z8 t l gd (D+1-y.2.2.2.2.2.1) ((y.2.2.2.2.1.take y.2.2.2.2.2.1).reverse))
   (af,.nils,dd,[],[(H0,0)],1,_,_,dd,0,⟨a0,a1,a2,a3,a4,a5,a6,dd⟩,⟨_,_,_,_,_,_,_,_⟩) ⟨bh,bf,bg,.inl ⟨rfl,rfl,0,rfl⟩,p7 _,F6,.inr rfl,bO,rfl,rfl⟩ ?_
  rintro⟨k,tv,R10,u,S,n,aP,g9,R11,g13,⟨r0,r1,r2,r3,r4,r5,r6,r13⟩,⟨w3,w4,w6,w7,w8,w9,w10,w11⟩⟩ vs h ⟨z0,B,z2,z3,z4,z5,bi,al,rfl,rfl⟩ Q3 C bj az;dsimp only at z0 B z2 z3 z4 z5 bi al;by_cases bk:n=0
  . subst bk;have bP:E.drop k=[]:=(by rw[z2,List.take_zero,List.reverse_nil,W7]);have bl:k=E.length:=(by have:=congrArg List.length bP;rw[a4O]at this;simp at this;omega);rw[bl]at B;simp;refine bj _ _ _ ?_;simp;exact bM none _ _ (by rfl) (bd _ _ _ _ _ _ _ _ B)
  . obtain⟨m,hm⟩:∃m,n=m+1:=⟨n-1,j4⟩
    have bm:0<n:=j4;have aQ:m<n:=j4;have aR:m≤n:=j4;have aA:IntKind.i64.wrap ((n:Int)-1)=(m:Int):=(by rw[wrap_ok j4 j4];omega);have P:m<S.length:=j4;have bn:u.length=m:=j4;have bo:u.take m=u:=a0t j4;obtain⟨⟨H,nx⟩,hS⟩:∃f,S[m]=f:=⟨_,rfl⟩
    have bp:(S.take n).reverse=(H,nx)::(S.take m).reverse:=(by rw[hm,J5,l9 P,hS];simp);obtain⟨ag,bq,br⟩:=al m H nx aQ (by grind);rw[bo]at ag;have aS:∀h∈H,h.r≠ []:=fun h aB=>((ag h).1 aB).2;have bV:=bJ u H ag bq;obtain⟨r,⟨bW,rfl,bs⟩,bt⟩:=b7w H nx aS j4 br;have hd:D+1-n=D-m:=j4;have bX:D+1-m=(D-m)+1∨D<m:=j4;simp[bm,aA,aQ,P,hS];refine l8 bt ?_;rcases bs.S6 with⟨rfl,aC⟩|⟨b,rfl,bY,aT,bu,aC⟩
    . obtain⟨O,ah⟩:=b8A (t:=t) (l:=l) (gd:=gd) (d:=D+1-n) (S:=(S.take m).reverse) (u:=u) aC;rw[show D+1-n+1=D+1-m by omega]at O ah;have N:E.drop k=W7 t l gd (D+1-m) ((S.take m).reverse) u.dropLast:=(by rw[z2,bp,O]);have z:Z8 t l gd (D+1-m) ((S.take m).reverse)<Z8 t l gd (D+1-n) ((S.take n).reverse):=(by grind);have hdl:u.dropLast=u.take (m-1):=(by rw[List.dropLast_eq_take,bn]);have v:m=0∧u.dropLast=[]∨u.dropLast.length+1=m:=(by grind);have w:StO t l gd S m u.dropLast:=fun i H' am hi ay=>by
       have:=al i H' am j4 ay;rw[hdl,List.take_take,Nat.min_eq_left j4];exact this
      have bv:IntKind.i64.wrap (-1)= -1:=T3;rcases z3 with⟨rfl,rfl,g,rfl⟩|⟨g,ver,T,j,rfl,rfl,h1,rfl,aD⟩
      . simp[aA,aR,bv];exact C (k,.nils,(g,.dead),[],S,m,aP,g9,R11,g13,⟨r0,r1,r2,r3,r4,r5,r6,r13⟩,⟨_,_,_,_,_,_,_,_⟩) _ _ z ⟨z0,B,N,.inl ⟨rfl,rfl,g,rfl⟩,u7,z5,v,w,rfl,rfl⟩
      . have bw:IntKind.i64.wrap ((j:Int)-1)=(j:Int)-1:=T3;have aU:(if(j:Int)-1<0 then 0 else(j:Int)-1)=((j-1:Nat):Int):=(by split<;>omega);obtain⟨an,bx⟩:=s8 (j-1);rw[←bx]at aU;have bz:an≤j:=j4;have bA:(T.take j).dropLast=T.take an:=(by grind);simp[aA,aR,bw,aU,bz];exact C (k,.own 11 g T.length 1 0 an,(g,.arr 1 ver false (T.map UB)),(T.take j).dropLast,S,m,aP,g9,R11,g13,⟨r0,r1,r2,r3,r4,r5,r6,r13⟩,⟨_,_,_,_,_,_,_,_⟩) _ _ z ⟨z0,B,N,.inr ⟨g,ver,T,an,rfl,rfl,j4,bA,aD⟩,u7,z5,v,w,rfl,rfl⟩
    . have bZ:S[m]?=some (H,nx):=(by rw[l9 P,hS]);have aE:=wk1 b j4;have aF:IntKind.u8.wrap (b:Int)=(b:Int):=(by simp[IntKind.wrap,IntKind.signed,IntKind.bits];omega);obtain⟨c,aG⟩:=s8 (UInt8.ofNat b);have aH:c.toNat=b:=(by rw[aG];exact ofNat_toNat aT);obtain⟨S1,ao⟩:=s8 (S.set m (H,b+1));have A:S1.length=S.length:=(by rw[ao];simp);have aI:(S.map SE).set m (.agg [.slc (H.map HQ),.int .i64 ((b:Int)+1)])=S1.map SE:=(by rw[ao,L6];rfl);have ap:S1[m]'j4=(H,b+1):=(by simp[ao]);have b0:(S1.map SE)[m]?=some (SE (H,b+1)):=(by grind);obtain⟨aV,bB⟩:=ag.next ac ad aH;have aW:=(a9e ac ad (O6 H b)).nodup;have b1:=b2Z H b;have ai:=b3x t ac l j4 gd ad (O6 H b) (by unfold a0A;omega);have aJ:=c1F H (IN (b+1)) b aT aS j4;have b2:u.length+1≤4*l.length:=by
       obtain⟨h,aB,c',b3,hr,_⟩:=a6m.1 bu;have:=((ag h).1 aB).1.len ac ad;rw[hr]at this;simp at this;omega
      have b4:n+1≤D:=j4;obtain⟨O,ah⟩:=c0b (t:=t) (l:=l) (gd:=gd) (d:=D-n) (u:=u) (S:=(S.take m).reverse) aC (.inl j4);rw[show D-n+1=D+1-n by omega,←aG]at O;rw[show D-n+1=D+1-n by omega]at ah;obtain⟨HN,aX⟩:=s8 ((X8 t l gd (O6 H b)).1.2.2);obtain⟨R,aY⟩:=s8 ((X8 t l gd (O6 H b)).2);rw[←aX]at ai aV aW;rw[←aY]at ai bB;unfold nxH nxE at O;unfold nxH at ah;rw[←aX]at O ah;rw[←aY]at O;obtain⟨S2,aj⟩:∃S2,S2=S1.take n++(HN,0)::S1.drop (n+1):=⟨_,rfl⟩
      have o:S2.length≤D∧n+1≤S2.length:=by rw[aj];simp;omega
      have bC:S2.take (n+1)=S1.take n++[(HN,0)]:=(by grind);have bD:S1.take n=S.take m++[(H,b+1)]:=by rw[hm,J5,l9 j4,ap,ao,List.take_set_of_le (p7 m)];rfl
      have b5:(S2.take (n+1)).reverse=(HN,0)::(H,b+1)::(S.take m).reverse:=(by grind);have N:E.drop k=(if R=true then [u++[c]]else [])++W7 t l gd (D+1-(n+1)) ((S2.take (n+1)).reverse) (u++[c]):=(by grind);have z:Z8 t l gd (D+1-(n+1)) ((S2.take (n+1)).reverse)<Z8 t l gd (D+1-n) ((S.take n).reverse):=(by grind);have w:StO t l gd S2 (n+1) (u++[c]):=fun i H' am hi ay=>by
       have ak:(S2.take (n+1))[i]?=some (H',am):=(by grind);rw[bC,bD]at ak;by_cases h1:i<m
       . rw[a1k F6,a1k F6,a0H,if_pos h1]at ak;have:=al i H' am j4 ak;rw[List.take_append_of_le_length j4];exact this
       . by_cases aD:i=m
         . grind
         . have bE:i=n:=j4;subst bE;have e:(S.take m++[(H,b+1)]++[(HN,0)])[i]?=some (HN,0):=(by grind);rw[e]at ak;cases ak;rw[a0t F6];exact⟨aV,aW,j4⟩
      have v:n+1=0∧u++[c]=[]∨(u++[c]).length+1=n+1:=(by grind);have U:S1.length*32≤140737488355328∧(n+1)*32≤140737488355328:=j4;have aq:R=true→E[k]?=some (u++[c])∧E.drop (k+1)=W7 t l gd (D+1-(n+1)) ((S2.take (n+1)).reverse) (u++[c])∧k+1≤E.length:=fun he=>by
       rw[if_pos he]at N;have h1:=congrArg (fun q:List By=>q[0]?) N;simp at h1;refine⟨h1,?_,?_⟩
       . rw[←a2V,N];rfl
       . grind
      have ar:R=false→E.drop k=W7 t l gd (D+1-(n+1)) ((S2.take (n+1)).reverse) (u++[c]):=fun he=>by rw[he]at N;simpa using N
      have V:n=S.length→S1.map SE++[.agg [.slc (HN.map HQ),.int .i64 0]]=S2.map SE:=fun e=>by rw[aj,a0t j4,b5r j4,S0];rfl
      have G:n=S.length→S.length+1=S2.length:=fun e=>(by rw[aj];simp;omega);have W:(S1.map SE).take n++ .agg [.slc (HN.map HQ),.int .i64 0]::(S1.map SE).drop (n+1)=S2.map SE:=by rw[aj,S0,a4h,a0s,a2X];rfl
      have Z:n≠S.length→n+(S.length-(n+1)+1)=S2.length:=fun e=>(by rw[aj];simp;omega);have aa:n=S.length→S2.length*32≤140737488355328:=fun e=>(by have:=o.1;omega);obtain⟨uu,aK⟩:=s8 (u++[c]);rw[←aK]at N v w aq ar;rcases z3 with⟨rfl,rfl,g,rfl⟩|⟨g,ver,T,j,rfl,rfl,h1,rfl,aD⟩
      . have bF:a0n [.int .u8 (b:Int)]=some uu:=(by rw[aK,aG];simp[a0n,a6R]);have F:TX (.own 11 (g+1) 1 1 0 1) (g+1,.arr 1 0 false [.int .u8 (b:Int)]) uu:=.inr ⟨g+1,0,[c],1,rfl,by rw[←aH];rfl,k8,by rw[aK];simp,k8⟩;simp[hS,aE,aI,aF,ap,A,P];refine l8 aJ ?_;simp;refine l8 ai ?_;simp;cases R with
        |false=>
         have s:=ar rfl;by_cases a:n=S.length
         . have I:n+1=S2.length:=(by have:=G a;omega);simp[V a,G a,a,A,o.1,aa a];rw[I]at z s v w;exact C (k,.own 11 (g+1) 1 1 0 1,(g+1,.arr 1 0 false [.int .u8 (b:Int)]),uu,S2,S2.length,_,_,_,_,⟨r0,r1,r2,r3,r4,r5,r6,_⟩,⟨_,_,_,_,_,_,_,_⟩) _ _ z ⟨z0,B,s,F,p7 _,o.1,v,w,rfl,rfl⟩
         . have J:n≤S.length:=z4;simp[W,Z a,a,A,J,U.2];exact C (k,.own 11 (g+1) 1 1 0 1,(g+1,.arr 1 0 false [.int .u8 (b:Int)]),uu,S2,n+1,_,_,_,_,⟨r0,r1,r2,r3,r4,r5,r6,_⟩,⟨_,_,_,_,_,_,_,_⟩) _ _ z ⟨z0,B,s,F,o.2,o.1,v,w,rfl,rfl⟩
        |true=>
         obtain⟨M,s,L⟩:=aq rfl;simp[bF];refine a5c rfl rfl ?_;refine au _ _ _ _ ?_ (aw k uu r0 r1 r2 r3 r4 r5 r6 _ M B);rintro p h' ⟨a0,a1,a2,a3,a4,a5,a6,rfl,hp⟩;refine⟨rfl,?_⟩;cases p with
         |some e=>
          simp;refine az _ _ ?_;exact ax (some e) _ _ (by rfl) (hp _)
         |none=>
          simp;by_cases a:n=S.length
          . have I:n+1=S2.length:=(by have:=G a;omega);simp[V a,G a,a,A,o.1,aa a];rw[I]at z s v w;exact C (k+1,.own 11 (g+1) 1 1 0 1,(g+1,.arr 1 0 false [.int .u8 (b:Int)]),uu,S2,S2.length,_,_,_,_,⟨a0,a1,a2,a3,a4,a5,a6,_⟩,⟨_,_,_,_,_,_,_,_⟩) _ _ z ⟨L,hp,s,F,p7 _,o.1,v,w,rfl,rfl⟩
          . have J:n≤S.length:=z4;simp[W,Z a,a,A,J,U.2];exact C (k+1,.own 11 (g+1) 1 1 0 1,(g+1,.arr 1 0 false [.int .u8 (b:Int)]),uu,S2,n+1,_,_,_,_,⟨a0,a1,a2,a3,a4,a5,a6,_⟩,⟨_,_,_,_,_,_,_,_⟩) _ _ z ⟨L,hp,s,F,o.2,o.1,v,w,rfl,rfl⟩
      . have b6:(T.take j).length=j:=(by rw[a1V];omega);by_cases aZ:j=T.length
        . obtain⟨T2,aL⟩:=s8 (T++[c]);have aM:T.map UB++[.int .u8 (b:Int)]=T2.map UB:=(by grind);have aN:T.length+1=T2.length:=(by rw[aL];simp);have aO:T2.length≤140737488355328:=j4;have ab:uu=T2:=(by grind);have F:TX (.own 11 g T2.length 1 0 T2.length) (g,.arr 1 ver false (T2.map UB)) uu:=.inr ⟨g,ver,T2,T2.length,rfl,rfl,p7 _,by rw[ab,K8],j4⟩;simp[hS,aE,aI,aF,ap,A,P,aZ,aM,aN,aO];refine l8 aJ ?_;simp;refine l8 ai ?_;simp;cases R with
          |false=>
           have s:=ar rfl;by_cases a:n=S.length
           . have I:n+1=S2.length:=(by have:=G a;omega);simp[V a,G a,a,A,o.1,aa a];rw[I]at z s v w;exact C (k,.own 11 g T2.length 1 0 T2.length,(g,.arr 1 ver false (T2.map UB)),uu,S2,S2.length,_,_,_,_,⟨r0,r1,r2,r3,r4,r5,r6,_⟩,⟨_,_,_,_,_,_,_,_⟩) _ _ z ⟨z0,B,s,F,p7 _,o.1,v,w,rfl,rfl⟩
           . have J:n≤S.length:=z4;simp[W,Z a,a,A,J,U.2];exact C (k,.own 11 g T2.length 1 0 T2.length,(g,.arr 1 ver false (T2.map UB)),uu,S2,n+1,_,_,_,_,⟨r0,r1,r2,r3,r4,r5,r6,_⟩,⟨_,_,_,_,_,_,_,_⟩) _ _ z ⟨z0,B,s,F,o.2,o.1,v,w,rfl,rfl⟩
          |true=>
           obtain⟨M,s,L⟩:=aq rfl;have M:E[k]?=some T2:=ab▸M;simp[];refine a5c rfl rfl ?_;refine au _ _ _ _ ?_ (aw k T2 r0 r1 r2 r3 r4 r5 r6 _ M B);rintro p h' ⟨a0,a1,a2,a3,a4,a5,a6,rfl,hp⟩;refine⟨rfl,?_⟩;cases p with
           |some e=>
            simp;refine az _ _ ?_;exact ax (some e) _ _ (by rfl) (hp _)
           |none=>
            simp;by_cases a:n=S.length
            . have I:n+1=S2.length:=(by have:=G a;omega);simp[V a,G a,a,A,o.1,aa a];rw[I]at z s v w;exact C (k+1,.own 11 g T2.length 1 0 T2.length,(g,.arr 1 ver false (T2.map UB)),uu,S2,S2.length,_,_,_,_,⟨a0,a1,a2,a3,a4,a5,a6,_⟩,⟨_,_,_,_,_,_,_,_⟩) _ _ z ⟨L,hp,s,F,p7 _,o.1,v,w,rfl,rfl⟩
            . have J:n≤S.length:=z4;simp[W,Z a,a,A,J,U.2];exact C (k+1,.own 11 g T2.length 1 0 T2.length,(g,.arr 1 ver false (T2.map UB)),uu,S2,n+1,_,_,_,_,⟨a0,a1,a2,a3,a4,a5,a6,_⟩,⟨_,_,_,_,_,_,_,_⟩) _ _ z ⟨L,hp,s,F,o.2,o.1,v,w,rfl,rfl⟩
        . obtain⟨T2,aL⟩:∃T2,T2=T.take j++c::T.drop (j+1):=⟨_,rfl⟩
          have aM:(T.map UB).take j++ .int .u8 (b:Int)::(T.map UB).drop (j+1)=T2.map UB:=(by rw[aL,S0,a4h,a0s,a2X,←aH]);have aN:j+(T.length-(j+1)+1)=T2.length:=(by grind);have aO:j+1≤140737488355328:=j4;have bG:j≤T.length:=h1;have a7:j+1≤T2.length:=j4;have ab:T2.take (j+1)=uu:=(by grind);have bH:a0n ((T2.map UB).take (j+1))=some uu:=(by rw[←a4h,a9y,ab]);have bI:a0n ((T2.take (j+1)).map UB)=some uu:=(by rw[a9y,ab]);have F:TX (.own 11 g T2.length 1 0 (j+1)) (g,.arr 1 (ver+1) false (T2.map UB)) uu:=.inr ⟨g,ver+1,T2,j+1,rfl,rfl,a7,ab.symm,j4⟩;simp[hS,aE,aI,aF,ap,A,P,aZ,bG,aM,aN,aO];refine l8 aJ ?_;simp;refine l8 ai ?_;simp;cases R with
          |false=>
           have s:=ar rfl;by_cases a:n=S.length
           . have I:n+1=S2.length:=(by have:=G a;omega);simp[V a,G a,a,A,o.1,aa a];rw[I]at z s v w;exact C (k,.own 11 g T2.length 1 0 (j+1),(g,.arr 1 (ver+1) false (T2.map UB)),uu,S2,S2.length,_,_,_,_,⟨r0,r1,r2,r3,r4,r5,r6,_⟩,⟨_,_,_,_,_,_,_,_⟩) _ _ z ⟨z0,B,s,F,p7 _,o.1,v,w,rfl,rfl⟩
           . have J:n≤S.length:=z4;simp[W,Z a,a,A,J,U.2];exact C (k,.own 11 g T2.length 1 0 (j+1),(g,.arr 1 (ver+1) false (T2.map UB)),uu,S2,n+1,_,_,_,_,⟨r0,r1,r2,r3,r4,r5,r6,_⟩,⟨_,_,_,_,_,_,_,_⟩) _ _ z ⟨z0,B,s,F,o.2,o.1,v,w,rfl,rfl⟩
          |true=>
           obtain⟨M,s,L⟩:=aq rfl;simp[bH,bI,a7];refine a5c rfl rfl ?_;refine au _ _ _ _ ?_ (aw k uu r0 r1 r2 r3 r4 r5 r6 _ M B);rintro p h' ⟨a0,a1,a2,a3,a4,a5,a6,rfl,hp⟩;refine⟨rfl,?_⟩;cases p with
           |some e=>
            simp;refine az _ _ ?_;exact ax (some e) _ _ (by rfl) (hp _)
           |none=>
            simp;by_cases a:n=S.length
            . have I:n+1=S2.length:=(by have:=G a;omega);simp[V a,G a,a,A,o.1,aa a];rw[I]at z s v w;exact C (k+1,.own 11 g T2.length 1 0 (j+1),(g,.arr 1 (ver+1) false (T2.map UB)),uu,S2,S2.length,_,_,_,_,⟨a0,a1,a2,a3,a4,a5,a6,_⟩,⟨_,_,_,_,_,_,_,_⟩) _ _ z ⟨L,hp,s,F,p7 _,o.1,v,w,rfl,rfl⟩
            . have J:n≤S.length:=z4;simp[W,Z a,a,A,J,U.2];exact C (k+1,.own 11 g T2.length 1 0 (j+1),(g,.arr 1 (ver+1) false (T2.map UB)),uu,S2,n+1,_,_,_,_,⟨a0,a1,a2,a3,a4,a5,a6,_⟩,⟨_,_,_,_,_,_,_,_⟩) _ _ z ⟨L,hp,s,F,o.2,o.1,v,w,rfl,rfl⟩
def tgt(t:k7)(k:Nat):Nat:=S7 t ⟨(t.rules.getD k default).dst,a1u ((t.rules.getD k default).print.getLastD 0),(t.rules.getD k default).right⟩
theorem c4R{t:k7}{s s':State}{k:Nat}(h:step t s k=some s')(hp:prt t k≠ []):S7 t s'=tgt t k:=by
 unfold step at h;obtain⟨r,hr,a⟩:=X1.1 h;have e:t.rules.getD k default=r:=by grind
 unfold prt at hp;rw[e]at hp;unfold tgt;rw[e];unfold a5K at a;rw[if_neg hp]at a;split at a
 . cases a
 . split at a
   . cases a
   . cases a;rfl
theorem b2K{t:k7}(a:s7 t)(k:Nat):(prt t k).length≤4:=by
 unfold prt;rcases a4N k t.rules.length with h|h
 . rw[B0,l9 h];exact(a3d (a.sound _ (C4 h))).p4
 . rw[B0,a0i h];decide
theorem Hd.shape{t:k7}(f:s7 t){l:List Nat}{gd:List A8}(c:RDs t l gd){u:By}{h:p9}(m:Hd t l gd u h):h.p≤l.length∧(h.r=[]∨∃k i,k<t.rules.length∧i<5∧h.r=(prt t k).drop i∧h.x=tgt t k):=by
 refine⟨(c.snd _ _ (m.path f c).1).1.2.1,?_⟩
 induction m with
 |root=>exact .inl rfl
 | @step u p x a h1 o v w d=>
  have q:=(c.snd _ _ (h1.path f c).1).1.1;obtain⟨s',g,s,e,j⟩:=a6s q o;by_cases hp:prt t a.1=[]
  . exact .inl hp
  . exact .inr ⟨a.1,0,j,j4,rfl,by rw[←c4R g hp];exact e⟩
 | @byte u p x b r h1 d=>
  rcases d with d|⟨k,i,g,s,e,j⟩
  . cases d
  . refine .inr ⟨k,i+1,g,?_,?_,j⟩
    . have n:=congrArg List.length e;have y:=b2K f k;rw[a4O]at n;simp at n;omega
    . rw[←a2V,←e];rfl
def b3G(t:k7)(n:Nat):List p9:=(List.range (n+1)).flatMap fun p=>(List.range t.rules.length).flatMap fun k=>(List.range 5).map fun i=>⟨p,tgt t k,(prt t k).drop i⟩
theorem FrO.len{t:k7}(b:s7 t){l:List Nat}{gd:List A8}(c:RDs t l gd){u:By}{H:List p9}(d:FrO t l gd u H)(f:H.Nodup):H.length≤(l.length+1)*(t.rules.length*5):=by
 have e:(b3G t l.length).length=(l.length+1)*(t.rules.length*5):=a9s _ _ _ fun _=>a9s _ _ _ fun _=>by simp
 rw[←e];refine a9b _ _ f fun h g=>?_;obtain⟨h1,j⟩:=(d h).1 g;obtain⟨q,a⟩:=h1.shape b c;rcases a with a|⟨k,i,m,n,o,p⟩
 . exact absurd a j
 . refine a3b.2 ⟨h.p,a2p.2 j4,a3b.2 ⟨k,a2p.2 m,G7.2 ⟨i,a2p.2 n,?_⟩⟩⟩;rw[←o,←p]
def X14:u9:=
 ⟨27,[0,1,2,3,4,5,6,7,8,9,12,20,21],5,[(4,some (false,1)),(5,some (false,1)),(6,some (false,1))],sq [.reg [H4 2 0 0,H4 3 1 1,ow 4 (.alloc 2 [.str ⟨#[]⟩]),ow 5 (.alloc 3 [.int .i64 0]),ow 6 (.alloc 4 [.int .i64 0])],sq [.reg [oo 3 2,Y4 39 0 0 0,obd 10 1],.cond (.v 10) (sq [.reg [oq (.store 1 (.v 4) (.c (.str ⟨#[]⟩))),oq (.store 1 (.v 5) (oi 0)),oq (.store 1 (.v 6) (oi 40))],ko]) kc],.reg [oo 3 2,G5 1 3,odp 47 0 1 0 0 0 0,om 2,oy 3 0,oy 3 1,oc 7 4,oc 8 5],sq [.reg [oa 7,ow 11 (.callv (.c (.fn (.func 48) [] [])) [.l 0])],.block 0 (.rfor (.v 11) [some 12] (.reg [odf 9 12]) (.block 1 (sq [.reg [oa 9,G5 1 3,E6 1,oq (.storeN 1 (.v 4) (.l 0) [1000003]),L0 1 5 2,oq (.store 1 (.v 6) (oi 0))],ko])))],.reg [oa 8,oq (.minmax true [.l 0,oi 0]),oq (.store 1 (.v 4) (.c (.str ⟨#[]⟩))),L0 1 5 1,oq (.store 1 (.v 6) (oi 40))],ko]⟩
theorem c14:D3 14 X14:=D7
theorem c9c(t:k7)(l:List Nat)(gd:List A8)(a0 a1 a2 a3 a4 a5 a6 R7:Row):FI Tryz.prog (.fn (.func 48) [] []) [RD t l gd] [a0,a1,a2,a3,a4,a5,a6,R7,dd,dd,dd,dd,dd,dd,dd,dd] (.fn (.func 87) [] [.ptr 7 (R7.1+1) 0]) [(7,(R7.1+1,.var [RD t l gd]))]:=by refine a7Q mixed (X:=X48) c48 (by simp[X48]) k8 fun Q a b=>?_;simp[X48];refine a _ _ ?_;simp[X48,L3]
theorem d0X{t:k7}{l:List Nat}(a:(l.length+1)*((j8 t).length*t.rules.length+5*t.rules.length)<4000000000000):(l.length+1)*(t.rules.length*5)+1+(l.length+1)*((j8 t).length*t.rules.length)≤4000000000000:=by grind
theorem b8W(t:k7)(a:s7 t)(l:List Nat)(h:l.length≤500000000)(i:(l.length+1)*((j8 t).length*t.rules.length+5*t.rules.length)<4000000000000):
 ∃r,((∃x,S8 t l x∧r=.tup [St x,IN l.length,I 0])∨(¬∃x,S8 t l x)∧∃p:Int,r=.tup [St [],I p,I 40])∧F0 14 [0,0,0] [TP t,CL l] r:=by
 obtain⟨r,⟨gd,md,rfl,b,_,_⟩,j⟩:=c4C t a l j4;have d:=b4x t a.ok;have m:T5 t=true:=(a7a t).2 a;rw[m]at d;have n:=d1G a b;obtain⟨E,c⟩:=s8 (a6o t l gd);rw[←c]at n;refine⟨match E with| []=>.tup [St [],I (if md<0 then 0 else md),I 40]|x::_=>.tup [St x,IN l.length,I 0],?_,?_⟩
 . grind
 refine E1 c14 16 (by simp[X14]) fun Q f v=>?_;simp[X14];refine l8 d ?_;simp;refine l8 j ?_;simp;refine U5 (c9c t l gd _ _ _ _ _ _ _ _) ?_;simp;refine c8W t a l h gd b ((l.length+1)*(t.rules.length*5)+1) (fun u H o q=>Nat.le_succ_of_le (o.len a b q)) j4 (d0X i) b3d
  (fun k rows=>k=0∧rows=[(1,.var [IN t.modes,UN t.accept,.slc (t.rules.map RP)]),(1,.var [CL l]),(1,.var [St []]),(1,.var [I 0]),(1,.var [I 0]),dd,dd]) _ _ _ _ _ _ _ 1 ⟨rfl,rfl⟩ ?_ ?_
 . rintro k x r0 r1 r2 r3 r4 r5 r6 tail s ⟨rfl,e⟩;rw[←c]at s;cases e;refine⟨rfl,?_⟩;obtain⟨E2,rfl⟩:∃E2,E=x::E2:=(by grind);simp;refine⟨_,_,_,_,_,_,_,_,_,_,_,_,_,_,⟨⟨rfl,rfl⟩,⟨rfl,rfl⟩,⟨rfl,rfl⟩,⟨rfl,rfl⟩,⟨rfl,rfl⟩,⟨rfl,rfl⟩,rfl,rfl⟩,fun tail=>?_⟩;refine f _ _ ?_;simp[X14]
 . rintro r0 r1 r2 r3 r4 r5 r6 tail ⟨g,e⟩;rw[←c]at g;cases e;obtain rfl:=a0U.1 g;simp;refine f _ _ ?_;simp[X14]
theorem b3f{t:k7}(a:s7 t){r:I4}(hr:r∈t.rules){c:Nat}(b:c∈r.cells):c<63:=(a.snd hr).cell c b
theorem b8S{t:k7}(a:s7 t):∀{p:List Nat} {s s':State},s.mode<t.modes→E5 t s p=some s'→s'.mode<t.modes
 | [],s,s',hs,h=>by cases h;exact hs
 |k::p,s,s',hs,h=>by
  simp only[E5]at h;obtain⟨s1,h1,b⟩:=X1.1 h;refine b8S a ?_ b;unfold step at h1;obtain⟨r,hr,c⟩:=X1.1 h1;have hd:=(a.snd (D0 hr)).dst;unfold a5K at c
  grind
theorem b4K{t:k7}(a:s7 t)(hm:t.modes≤2):(j8 t).length≤768:=by
 have h1:=a3A 768 ((j8 t).map code) (by
  rw[a9M,List.pairwise_map];exact(a9M.1 (b1J a)).imp_of_mem fun c hb d e=>d (b8p (a3g a c) (a3g a hb) e)) fun x f=>by
  obtain⟨s,hs,rfl⟩:=G7.1 f;obtain⟨p,hp⟩:=(a6h a).come s hs;have g:=b8S a (show start.mode<t.modes from a.m1) hp;have b:=a3g a hs;have:=b.last;have:=b.need;unfold code;omega
 simpa using h1
structure Ld where
 (s:Nat)
 (x:By)
 deriving DecidableEq
def ld:By→By→Ld
 | [],[]=>⟨0,[]⟩
 |a::u,[]=>⟨1,a::u⟩
 | [],b::v=>⟨2,b::v⟩
 |a::u,b::v=>if a=b then ld u v else⟨3,[]⟩
def Ld.aft(l:Ld)(p q:By):Ld:=if l.s=1 then ld (l.x++p) q else if l.s=2 then ld p (l.x++q)else if l.s=3 then l else ld p q
def Ld.sw(l:Ld):Ld:=if l.s=1 then⟨2,l.x⟩else if l.s=2 then⟨1,l.x⟩else l
theorem a3E(p q:By):∀u v:By,(ld u v).aft p q=ld (u++p) (v++q)
 | [],[]=>by simp[ld,Ld.aft]
 |a::u,[]=>by simp[ld,Ld.aft]
 | [],b::v=>by simp[ld,Ld.aft]
 |a::u,b::v=>by
  have c:=a3E p q u v;simp only[ld,a6X];split
  . exact c
  . rfl
theorem a5O:∀u v:By,(ld u v).s=0↔u=v
 | [],[]=>by simp[ld]
 |a::u,[]=>by simp[ld]
 | [],b::v=>by simp[ld]
 |a::u,b::v=>by
  have c:=a5O u v;simp only[ld]
  grind
theorem b1l(u:By):ld u u=⟨0,[]⟩:=by
 induction u with
 |nil=>rfl
 |cons a u b=>simp[ld,b]
theorem b3T:∀u v:By,ld v u=(ld u v).sw
 | [],[]=>rfl
 |a::u,[]=>rfl
 | [],b::v=>rfl
 |a::u,b::v=>by
  have c:=b3T u v;simp only[ld];by_cases h:a=b
  . rw[if_pos h,if_pos h.symm];exact c
  . rw[if_neg h,if_neg fun e=>h e.symm];rfl
theorem a8q(s:By):∀u:By,ld (u++s) u=ld s []∧ld u (u++s)=ld [] s
 | []=>⟨rfl,rfl⟩
 |a::u=>by have b:=a8q s u;simp only[a6X,ld,if_true];exact b
theorem b7v:∀u v:By,(ld u v).x.length≤u.length+v.length
 | [],[]=>by simp[ld]
 |a::u,[]=>by simp[ld]
 | [],b::v=>by simp[ld]
 |a::u,b::v=>by
  have c:=b7v u v;simp only[ld,S9];split
  . omega
  . simp
theorem b4v(u v:By):(ld u v).s≤3:=by
 induction u generalizing v with
 |nil=>cases v<;>simp[ld]
 |cons a u c=>
  cases v with
  |nil=>simp[ld]
  |cons b v=>
   simp only[ld];split
   . exact c v
   . exact p7 _
theorem c1B{c v1 d v2 p q:By}(h1:c++p=v1++q)(e:d++p=v2++q):ld c v1=ld d v2:=by
 rcases List.append_eq_append_iff.1 h1 with⟨a1,rfl,b⟩|⟨a1,rfl,b⟩<;>rcases List.append_eq_append_iff.1 e with⟨a2,rfl,a⟩|⟨a2,rfl,a⟩
 . rw[b]at a;have:=List.append_cancel_right a;subst this;rw[(a8q a1 c).2,(a8q a1 d).2]
 . have h:=congrArg List.length b;have h':=congrArg List.length a;simp only[Z9]at h h';obtain rfl:a1=[]:=a0U.1 j4;obtain rfl:a2=[]:=a0U.1 j4;rw[a1v,a1v,b1l,b1l]
 . have h:=congrArg List.length b;have h':=congrArg List.length a;simp only[Z9]at h h';obtain rfl:a1=[]:=a0U.1 j4;obtain rfl:a2=[]:=a0U.1 j4;rw[a1v,a1v,b1l,b1l]
 . rw[b]at a;have:=List.append_cancel_right a;subst this;rw[(a8q a1 v1).1,(a8q a1 v2).1]
structure Hf where
 (x:Nat)
 (r:By)
 deriving DecidableEq
def cb(l:List Nat):By:=l.map UInt8.ofNat
section
variable(t:k7)
def Stp(h:Hf)(c:UInt8)(p:By)(h':Hf):Prop:=(h.r=c::h'.r∧p=[]∧h'.x=h.x)∨(h.r=[]∧∃a∈G8 t h.x,cb (cls t a.1)=c::h'.r∧p=prt t a.1∧h'.x=a.2)
def HP:Hf→By→By→Hf→Prop
 |h,[],p,h'=>p=[]∧h'=h
 |h,c::w,p,h'=>∃a h1 b,Stp t h c a h1∧HP h1 w b h'∧p=a++b
def HE(h:Hf):Prop:=h.r=[]∧B8 t ((j8 t).getD h.x D5)=true
variable{t}
theorem HP.snoc{c:UInt8}{a:By}{h1 b:Hf}(hs:Stp t h1 c a b):∀{w:By} {h:Hf} {p:By},HP t h w p h1→HP t h (w++[c]) (p++a) b
 | [],h,p,hp=>by
  obtain⟨rfl,rfl⟩:=hp;exact⟨a,b,[],hs,⟨rfl,rfl⟩,k8⟩
 |d::w,h,p,hp=>by obtain⟨e,f,g,a1,a2,rfl⟩:=hp;exact⟨e,f,g++a,a1,HP.snoc hs a2,k8⟩
theorem HP.append{w2 a:By}{h1 b:Hf}(hs:HP t h1 w2 a b):∀{w:By} {h:Hf} {p:By},HP t h w p h1→HP t h (w++w2) (p++a) b
 | [],h,p,hp=>by
  obtain⟨rfl,rfl⟩:=hp;exact hs
 |d::w,h,p,hp=>by obtain⟨c,e,f,a1,a2,rfl⟩:=hp;exact⟨c,e,f++a,a1,HP.append hs a2,k8⟩
theorem HP.rest(x:Nat):∀r:By,HP t ⟨x,r⟩ r [] ⟨x,[]⟩
 | []=>⟨rfl,rfl⟩
 |c::r=>⟨[],⟨x,r⟩,[],.inl ⟨rfl,rfl,rfl⟩,HP.rest x r,rfl⟩
theorem HP.b7N(e:s7 t):∀(q:List Nat) (x:Nat) (a:State),x<(j8 t).length→E5 t ((j8 t).getD x D5) q=some a→B8 t a=true→∃b,HP t ⟨x,[]⟩ (cb (C5 t q)) (J8 t q) ⟨b,[]⟩∧HE t ⟨b,[]⟩
 | [],x,a,f,h1,d=>by
  cases h1;exact⟨x,⟨rfl,rfl⟩,rfl,d⟩
 |k::q,x,a,f,h1,d=>by
  obtain⟨s1,g,i⟩:=X1.1 (show(T.step t _ k).bind (fun s'=>E5 t s' q)=some a from h1);have j:=a0g e (a2k f) g;have hm:=b0J f g ⟨q,a,i,d⟩;obtain⟨b,a1,a2⟩:=HP.b7N e q (S7 t s1) a (a3J j) (by rw[a2z j];exact i) d;refine⟨b,?_,a2⟩;have l:cb (C5 t (k::q))=cb (cls t k)++cb (C5 t q):=by show cb (cls t k++C5 t q)=_;unfold cb;rw[S0]
  have m:=a7x e g;have hlen:(cb (cls t k)).length=A0 t k:=by unfold cb;rw[O0];rfl
  cases h:cb (cls t k)with
  |nil=>rw[h]at hlen;simp at hlen;omega
  |cons c r=>
   rw[l,h,a3L];refine⟨prt t k,⟨S7 t s1,r⟩,J8 t q,.inr ⟨rfl,_,hm,h,rfl,rfl⟩,?_,rfl⟩;have:=HP.append a1 (HP.rest (t:=t) (S7 t s1) r);rwa[a4H]at this
theorem HP.path(e:s7 t):∀(w:By) (h:Hf) (p:By) (h':Hf),h.x<(j8 t).length→HP t h w p h'→HE t h'→∃q b,E5 t ((j8 t).getD h.x D5) q=some b∧B8 t b=true∧w=h.r++cb (C5 t q)∧J8 t q=p
 | [],h,p,h',f,h1,d=>by
  obtain⟨rfl,rfl⟩:=h1;exact⟨[],_,rfl,d.2,by rw[d.1];rfl,rfl⟩
 |c::w,h,p,h',f,h1,d=>by
  obtain⟨y,i,j,a1,a2,rfl⟩:=h1;rcases a1 with⟨k,rfl,z⟩|⟨k,a,v,x,rfl,l⟩
  . obtain⟨q,b,g,m,n,o⟩:=HP.path e w i j h' j4 a2 d
    grind
  . obtain⟨s',r,A,s,B⟩:=a6s f v;have u:=a0g e (a2k f) r;obtain⟨q,b,g,m,n,o⟩:=HP.path e w i j h' (by rw[l,s];exact a3J u) a2 d;rw[l,s,a2z u]at g;refine⟨a.1::q,b,?_,m,?_,?_⟩
    . show(T.step t _ a.1).bind _=_;rw[r];exact g
    . rw[k,n];show _=cb (cls t a.1++C5 t q);unfold cb at x⊢
      grind
    . rw[a3L,o];rfl
theorem c2y{l:List Nat}(h:∀c∈l,c<256):(cb l).map UInt8.toNat=l:=by
 unfold cb;rw[a2D]
 conv=>rhs;rw[←List.map_id l]
 exact O1 fun c a=>by simpa using ofNat_toNat (h c a)
structure Nd where
 (a b:Nat)
 (l:Ld)
 deriving DecidableEq
def Nd.ord(n:Nd):Nd:=if n.a<n.b∨n.a=n.b∧n.l.s≠2 then n else⟨n.b,n.a,n.l.sw⟩
def D4{κ α:Type} [DecidableEq κ](F:List (κ×List α))(k:κ):List α:=match(F.map (·.1)).idxOf? k with
 |some i=>match F[i]? with
  |some e=>e.2
  |none=>[]
 |none=>[]
def Y7{κ α:Type} [DecidableEq κ](F:List (κ×List α))(k:κ)(x:α):List (κ×List α):=match(F.map (·.1)).idxOf? k with
 |some i=>F.set i (k,D4 F k++[x])
 |none=>F++[(k,[x])]
section
variable{κ α:Type} [DecidableEq κ]
theorem a4l(e:κ×List α)(F:List (κ×List α))(k:κ):D4 (e::F) k=if e.1=k then e.2 else D4 F k:=by
 unfold D4
 grind
theorem b1s(e:κ×List α)(F:List (κ×List α))(k:κ)(x:α):Y7 (e::F) k x=if e.1=k then(k,e.2++[x])::F else e::Y7 F k x:=by
 unfold Y7;rw[a0s,List.idxOf?_cons,a4l]
 grind
theorem a7J(k:κ)(x:α)(a:κ):∀F:List (κ×List α),D4 (Y7 F k x) a=if k=a then D4 F k++[x]else D4 F a
 | []=>by
  show D4 [(k,[x])] a=_;rw[a4l];rfl
 |e::F=>by
  have b:=a7J k x a F;rw[b1s,a4l,a4l];by_cases h:e.1=k
  . rw[if_pos h,a4l,if_pos h,h]
    grind
  . rw[if_neg h,a4l,b,if_neg h]
    grind
theorem b0r{k:κ}{x:α}{e:κ×List α}:∀{F:List (κ×List α)},e∈Y7 F k x→e∈F∨e=(k,D4 F k++[x])
 | [],h=>by
  have:e∈[(k,[x])]:=h;rw[H5]at this;exact .inr this
 |f::F,h=>by
  rw[b1s]at h;rw[a4l];split at h
  . grind
  . rename_i a;rcases Y8.1 h with h|h
    . rw[h];exact .inl a3x
    . rw[if_neg a];exact(b0r h).imp (a4i _) id
theorem b9o(k:κ)(x:α):∀F:List (κ×List α),(Y7 F k x).map (·.1)=if k∈F.map (·.1)then F.map (·.1)else F.map (·.1)++[k]
 | []=>rfl
 |e::F=>by
  have a:=b9o k x F;rw[b1s]
  grind
def K9(F:List (κ×List α)):Nat:=(F.map fun e=>e.2.length).sum
theorem b3I(k:κ)(x:α):∀F:List (κ×List α),K9 (Y7 F k x)=K9 F+1
 | []=>rfl
 |e::F=>by
  have a:=b3I k x F;rw[b1s];unfold K9 at a⊢
  grind
theorem a8S{k:κ}:∀{F:List (κ×List α)},D4 F k=[]∨(k,D4 F k)∈F
 | []=>.inl rfl
 |e::F=>by
  rw[a4l];by_cases h:e.1=k
  . grind
  . rw[if_neg h];exact(a8S (F:=F)).imp id (a4i _)
end
abbrev FT:=List ((Nat×Nat)×List Ld)
abbrev Nd.k(n:Nd):Nat×Nat:=(n.a,n.b)
def Rec(F:FT)(n:Nd):Prop:=n.l∈D4 F n.k
def Hdl(F:FT)(n:Nd):Prop:=n.l∈D4 F n.k∨(∃k∈D4 F n.k,k.s=3)∨∃l1 a,l1∈D4 F n.k∧a∈D4 F n.k∧l1≠a
variable(t)
def NS(Hs:List Hf)(w:By)(n:Nd):Prop:=∃u v a hb,Hs[n.a]?=some a∧Hs[n.b]?=some hb∧HP t ⟨0,[]⟩ w u a∧HP t ⟨0,[]⟩ w v hb∧n.l=ld u v
def Don(Hs:List Hf)(F:FT)(n:Nd):Prop:=∀c p q a hb b d,Hs[n.a]?=some a→Hs[n.b]?=some hb→Stp t a c p b→Stp t hb c q d→∃i j,Hs[i]?=some b∧Hs[j]?=some d∧Hdl F (Nd.ord ⟨i,j,n.l.aft p q⟩)
def Cls(Hs:List Hf)(n:Nd):Prop:=n.l.s≠0∧∃a hb,Hs[n.a]?=some a∧Hs[n.b]?=some hb∧HE t a∧HE t hb
variable{t}
theorem NS.ord{Hs:List Hf}{w:By}{n:Nd}(h:NS t Hs w n):NS t Hs w n.ord:=by
 unfold Nd.ord;split
 . exact h
 . obtain⟨u,v,a,hb,a1,a2,a3,a4,a5⟩:=h;exact⟨v,u,hb,a,a2,a1,a4,a3,by rw[a5];exact(b3T u v).symm⟩
theorem NS.mono{Hs Hs':List Hf}{w:By}{n:Nd}(hp:Hs<+:Hs')(h:NS t Hs w n):NS t Hs' w n:=by
 obtain⟨u,v,b,hb,a1,a2,a3,a4,a5⟩:=h;obtain⟨X,rfl⟩:=hp;have a:∀{i:Nat} {y:Hf},Hs[i]?=some y→(Hs++X)[i]?=some y:=fun{i y} h=>by rw[a1k (C0.1 h).1];exact h
 exact⟨u,v,b,hb,a a1,a a2,a3,a4,a5⟩
theorem b2V{Hs:List Hf}{F:FT}(hr:∀n,Rec F n→Don t Hs F n∧¬Cls t Hs n∧∃w,NS t Hs w n):∀(w:By) (n:Nd),Rec F n→∀m hb p q g l,Hs[n.a]?=some m→Hs[n.b]?=some hb→HP t m w p g→HP t hb w q l→HE t g→HE t l→(n.l.aft p q).s=0
 | [],n,B,m,hb,p,q,g,l,g1,g2,h1,C,z,A=>by
  obtain⟨_,N,w,u,v,O,P,Q,R,S,T,o⟩:=hr n B;obtain⟨rfl,rfl⟩:=h1;obtain⟨rfl,rfl⟩:=C;rw[o,a3E,a1v,a1v,←o];refine Classical.byContradiction fun h=>N ⟨h,_,_,g1,g2,z,A⟩
 |c::w,n,B,m,hb,p,q,g,l,g1,g2,h1,C,z,A=>by
  obtain⟨dn,_,w0,u,v,O,P,Q,R,S,T,o⟩:=hr n B;obtain⟨I,D,r,a1,a2,rfl⟩:=h1;obtain⟨J,E,s,U,K,rfl⟩:=C;obtain⟨i,j,L,M,a⟩:=dn c I J m hb D E g1 g2 a1 U;unfold Hdl at a;rw[o,a3E,a5O];rw[o,a3E]at a;have goal:(u++I)++r=(v++J)++s:=by
   unfold Nd.ord at a;split at a
   . rename_i V;have b:∀k,k∈D4 F (i,j)→(k.aft r s).s=0∧∃d f,k=ld d f:=fun k G=>by
      have x:Rec F ⟨i,j,k⟩:=G;refine⟨b2V hr w ⟨i,j,k⟩ x D E r s g l L M a2 K z A,?_⟩;obtain⟨_,_,w',d,f,_,_,_,_,_,_,e⟩:=hr _ x;exact⟨d,f,e⟩
     rcases a with a|⟨k,a,y⟩|⟨k,W,a,y,H⟩
     . have:=(b _ a).1;rwa[a3E,a5O]at this
     . have:=(b k a).1;unfold Ld.aft at this
       grind
     . obtain⟨m1,X,v1,rfl⟩:=b _ a;obtain⟨m2,Y,v2,rfl⟩:=b _ y;rw[a3E,a5O]at m1 m2;exact absurd (c1B m1 m2) H
   . rename_i V;have b:∀k,k∈D4 F (j,i)→(k.aft s r).s=0∧∃d f,k=ld d f:=fun k G=>by
      have x:Rec F ⟨j,i,k⟩:=G;refine⟨b2V hr w ⟨j,i,k⟩ x E D s r l g M L K a2 A z,?_⟩;obtain⟨_,_,w',d,f,_,_,_,_,_,_,e⟩:=hr _ x;exact⟨d,f,e⟩
     rcases a with a|⟨k,a,y⟩|⟨k,W,a,y,H⟩
     . have:=(b _ a).1;simp only[←b3T]at this;rw[a3E,a5O]at this;exact this.symm
     . have:=(b k a).1;unfold Ld.aft at this
       grind
     . obtain⟨m1,X,v1,rfl⟩:=b _ a;obtain⟨m2,Y,v2,rfl⟩:=b _ y;rw[a3E,a5O]at m1 m2;exact absurd (c1B m1 m2) H
  grind
def Two(t:k7):Prop:=∃l x y,S8 t l x∧S8 t l y∧x≠y
theorem S8.HP(a:s7 t){l:List Nat}{x:By}(h:S8 t l x):∃h',T.HP t ⟨0,[]⟩ (cb l) x h'∧HE t h':=by
 obtain⟨q,b,c,d,rfl,rfl⟩:=h;have e:(j8 t).getD 0 D5=start:=by rw[B0,a2t a];rfl
 obtain⟨f,a1,a2⟩:=HP.b7N a q 0 b (a2J a) (by rw[e];exact c) d;exact⟨_,a1,a2⟩
theorem b7O(b:s7 t):∀(q:List Nat) (s s':State),E5 t s q=some s'→∀c∈C5 t q,c<63
 | [],_,_,_=>by simp[C5]
 |k::q,s,s',h=>by
  obtain⟨s1,e,f⟩:=X1.1 (show(T.step t s k).bind (fun s'=>E5 t s' q)=some s' from h);intro c a;have:c∈cls t k++C5 t q:=a;rcases I5.1 this with a|a
  . have d:=a2B e;unfold cls at a;rw[B0,l9 d]at a;exact b3f b (C4 d) a
  . exact b7O b q s1 s' f c a
theorem HP.lng(a:s7 t){w x:By}{h':Hf}(h:T.HP t ⟨0,[]⟩ w x h')(he:HE t h'):S8 t (w.map UInt8.toNat) x:=by
 have e:(j8 t).getD 0 D5=start:=by rw[B0,a2t a];rfl
 obtain⟨q,d,b,f,g,i⟩:=HP.path a w ⟨0,[]⟩ x h' (a2J a) h he;rw[e]at b;refine⟨q,d,b,f,?_,i⟩;rw[g,a4H,c2y fun c j=>by have:=b7O a q _ _ b c j;omega]
theorem c2p(c:s7 t){Hs:List Hf}{F:FT}(hr:∀n,Rec F n→Don t Hs F n∧¬Cls t Hs n∧∃w,NS t Hs w n)(h0:Hs[0]?=some ⟨0,[]⟩)(d:Rec F ⟨0,0,⟨0,[]⟩⟩):¬Two t:=by rintro⟨l,x,y,h1,e,f⟩;obtain⟨a,a1,a2⟩:=h1.HP c;obtain⟨b,g,h⟩:=e.HP c;have:=b2V hr (cb l) _ d _ _ x y a b h0 h0 a1 g a2 h;rw[show(⟨0,0,⟨0,[]⟩⟩:Nd).l=ld [] []from rfl,a3E,a5O]at this;exact f this
end
structure Sm(t:k7):Prop where
 m2:t.modes≤2
 r10:t.rules.length≤10
 c3:∀r∈t.rules,r.cells.length≤3
def a9P(t:k7):List By:=[]::t.rules.flatMap fun r=>[(cb r.cells).drop 1,(cb r.cells).drop 2]
def HfB(t:k7)(h:Hf):Prop:=h.x<(j8 t).length∧h.r∈a9P t
section
variable{t:k7}
theorem HfB.root(a:s7 t):HfB t ⟨0,[]⟩:=⟨a2J a,a3x⟩
theorem b9F(l:List Nat):(cb l).length=l.length:=by unfold cb;simp
theorem Stp.bd(f:s7 t)(hs:Sm t){h h':Hf}{c:UInt8}{p:By}(hb:HfB t h)(h1:Stp t h c p h'):HfB t h':=by
 rcases h1 with⟨d,_,b⟩|⟨d,a,g,k,_,b⟩
 . refine⟨by rw[b];exact hb.1,?_⟩;have hm:=hb.2;rw[d]at hm;rcases Y8.1 hm with e|e
   . cases e
   . obtain⟨r,hr,e⟩:=a3b.1 e;have l:=hs.c3 r hr;rcases Y8.1 e with e|e
     . refine a4i _ (a3b.2 ⟨r,hr,?_⟩);have:h'.r=(cb r.cells).drop 2:=(by rw[show 2=1+1 from rfl,←a2V,←e];rfl);rw[this];simp
     . have e:=H5.1 e;have:h'.r=[]:=by
        have i:(c::h'.r).length=((cb r.cells).drop 2).length:=(by rw[e]);rw[a4O,b9F,S9]at i;exact a0U.1 j4
       rw[this];exact a3x
 . obtain⟨l1,j,_,_⟩:=a4B f hb.1 g;refine⟨by rw[b];exact j,a4i _ (a3b.2 ⟨t.rules[a.1],C4 l1,?_⟩)⟩;have e:cls t a.1=t.rules[a.1].cells:=by unfold cls;rw[B0,l9 l1];rfl
   grind
def c0X(t:k7):List Hf:=(List.range (j8 t).length).flatMap fun x=>(a9P t).map fun r=>⟨x,r⟩
theorem c8n(t:k7):(a9P t).length=1+2*t.rules.length:=by
 unfold a9P;rw[S9];have:∀l:List I4,(l.flatMap fun r=>[(cb r.cells).drop 1,(cb r.cells).drop 2]).length=2*l.length:=by
  intro l
  induction l with
  |nil=>rfl
  |cons r l a=>rw[a2Z,Z9,a];simp;omega
 rw[this];omega
theorem a4v(c:s7 t)(hs:Sm t){Hs:List Hf}(d:Hs.Nodup)(hb:∀h∈Hs,HfB t h):Hs.length≤16128:=by
 have h1:=a9b Hs (c0X t) d fun h e=>by obtain⟨b,a⟩:=hb h e;exact a3b.2 ⟨h.x,a2p.2 b,G7.2 ⟨h.r,a,rfl⟩⟩
 have b:(c0X t).length=(j8 t).length*(1+2*t.rules.length):=a9s _ _ _ fun _=>by rw[O0,c8n]
 have a:=b4K c hs.m2;have f:=hs.r10;have g:(j8 t).length*(1+2*t.rules.length)≤768*21:=a8a a j4;omega
structure J6 where
 (c:UInt8)
 (p:By)
 (to:Nat)
 deriving DecidableEq
abbrev J2:=List Hf×List (Option (List J6))
def R2(s:J2)(h:Hf):Nat×J2:=match s.1.idxOf? h with
 |some n=>(n,s)
 |none=>(s.1.length,(s.1++[h],s.2++[none]))
def arE(t:k7)(s:J2)(a:Nat×Nat):J6:=⟨(cb (cls t a.1)).headD 0,prt t a.1,(R2 s ⟨a.2,(cb (cls t a.1)).tail⟩).1⟩
def W8(t:k7)(st:J2×List J6)(a:Nat×Nat):J2×List J6:=((R2 st.1 ⟨a.2,(cb (cls t a.1)).tail⟩).2,if arE t st.1 a∈st.2 then st.2 else st.2++[arE t st.1 a])
noncomputable def a1y(t:k7)(s:J2)(h:Hf):J2×List J6:=match h.r with
 |c::r=>((R2 s ⟨h.x,r⟩).2,[⟨c,[],(R2 s ⟨h.x,r⟩).1⟩])
 | []=>(G8 t h.x).foldl (W8 t) (s,[])
noncomputable def a9t(t:k7)(s:J2)(n:Nat):J2×List J6:=(((a1y t s (s.1.getD n ⟨0,[]⟩)).1.1,(a1y t s (s.1.getD n ⟨0,[]⟩)).1.2.set n (some (a1y t s (s.1.getD n ⟨0,[]⟩)).2)),(a1y t s (s.1.getD n ⟨0,[]⟩)).2)
noncomputable def L5(t:k7)(s:J2)(n:Nat):J2×List J6:=match s.2.getD n none with
 |some L=>(s,L)
 |none=>a9t t s n
def StI(t:k7)(Hs:List Hf)(h:Hf)(L:List J6):Prop:=(∀s∈L,∃h',Hs[s.to]?=some h'∧Stp t h s.c s.p h')∧∀c p h',Stp t h c p h'→∃s∈L,s.c=c∧s.p=p∧Hs[s.to]?=some h'
structure HSI(t:k7)(s:J2):Prop where
 nd:s.1.Nodup
 hb:∀h∈s.1,HfB t h
 sl:s.2.length=s.1.length
 st:∀(n:Nat) L h,s.2[n]?=some (some L)→s.1[n]?=some h→StI t s.1 h L∧L.length≤64
theorem a0e{α:Type}{l m:List α}(h:l<+:m){i:Nat}{x:α}(hi:l[i]?=some x):m[i]?=some x:=by
 obtain⟨r,rfl⟩:=h
 grind
theorem StI.mono{Hs Hs':List Hf}{h:Hf}{L:List J6}(hp:Hs<+:Hs')(hi:StI t Hs h L):StI t Hs' h L:=
 ⟨fun s hs=>by obtain⟨h',a,b⟩:=hi.1 s hs;exact⟨h',a0e hp a,b⟩,fun c p h' hs=>by obtain⟨s,a,b,d,e⟩:=hi.2 c p h' hs;exact⟨s,a,b,d,a0e hp e⟩⟩
theorem b7C{s:J2}(hi:HSI t s){h:Hf}(hb:HfB t h):HSI t (R2 s h).2∧s.1<+:(R2 s h).2.1∧s.2<+:(R2 s h).2.2∧(R2 s h).2.1[(R2 s h).1]?=some h:=by
 unfold R2;cases c:s.1.idxOf? h with
 |some n=>
  rw[List.idxOf?,a1W]at c;obtain⟨h1,d,_⟩:=c;refine⟨hi,a5p _,a5p _,?_⟩;rw[l9 h1];simpa using d
 |none=>
  have hm:=a3a.1 c;refine⟨⟨?_,?_,?_,?_⟩,List.prefix_append _ _,List.prefix_append _ _,k8⟩
  . rw[a6d];exact⟨hi.nd,k8,fun a g b hb e=>by rw[H5]at hb;subst hb;subst e;exact hm g⟩
  . intro x c;rcases I5.1 c with c|c
    . exact hi.hb x c
    . grind
  . simp[hi.sl]
  . intro n L x h1 d;have f:n<s.2.length:=(by grind);rw[a1k f]at h1;rw[a1k (by rw[←hi.sl];exact f)]at d;obtain⟨a,b⟩:=hi.st n L x h1 d;exact⟨a.mono (List.prefix_append _ _),b⟩
theorem c6b(b:s7 t){x:Nat}(d:x<(j8 t).length){a:Nat×Nat}(e:a∈G8 t x):cb (cls t a.1)=(cb (cls t a.1)).headD 0::(cb (cls t a.1)).tail:=by
 obtain⟨_,_,h,_⟩:=a4B b d e;have:(cb (cls t a.1)).length=A0 t a.1:=by rw[b9F];rfl
 cases f:cb (cls t a.1)with
 |nil=>rw[f]at this;simp at this;omega
 |cons c r=>rfl
structure ArI(t:k7)(s:J2)(h:Hf)(A:List (Nat×Nat))(j:Nat)(st:J2×List J6):Prop where
 hi:HSI t st.1
 pre:s.1<+:st.1.1
 pr2:s.2<+:st.1.2
 snd:∀e∈st.2,∃h',st.1.1[e.to]?=some h'∧Stp t h e.c e.p h'
 all:∀a∈A.take j,∃e∈st.2,e.c=(cb (cls t a.1)).headD 0∧e.p=prt t a.1∧st.1.1[e.to]?=some ⟨a.2,(cb (cls t a.1)).tail⟩
 len:st.2.length≤j
theorem ArI.next(f:s7 t)(hs:Sm t){s:J2}{h:Hf}(hb:HfB t h)(hr:h.r=[]){j:Nat}{st:J2×List J6}(hi:ArI t s h (G8 t h.x) j st)(hj:j<(G8 t h.x).length):ArI t s h (G8 t h.x) (j+1) (W8 t st (G8 t h.x)[j]):=by
 obtain⟨a,g⟩:=s8 ((G8 t h.x)[j]);have i:a∈G8 t h.x:=by grind
 have l:=c6b f hb.1 i;have k:Stp t h ((cb (cls t a.1)).headD 0) (prt t a.1) ⟨a.2,(cb (cls t a.1)).tail⟩:=.inr ⟨hr,a,i,l,rfl,rfl⟩;obtain⟨g1,g2,g3,g4⟩:=b7C hi.hi (k.bd f hs hb);rw[←g];have m:arE t st.1 a∈(W8 t st a).2:=by
  unfold W8;simp only;split
  . assumption
  . simp
 refine⟨g1,hi.pre.trans g2,hi.pr2.trans g3,fun e he=>?_,fun b c=>?_,?_⟩
 . have d:e∈st.2∨e=arE t st.1 a:=by
    unfold W8 at he;simp only at he;split at he
    . exact .inl he
    . grind
   rcases d with d|rfl
   . obtain⟨h',a1,a2⟩:=hi.snd e d;exact⟨h',a0e g2 a1,a2⟩
   . exact⟨_,g4,k⟩
 . rw[J5,l9 hj]at c;rcases I5.1 c with c|c
   . obtain⟨e,q,n,o,p⟩:=hi.all b c;refine⟨e,?_,n,o,a0e g2 p⟩;unfold W8
     grind
   . simp only[a9N,H5]at c;rw[c,←g];exact⟨_,m,rfl,rfl,g4⟩
 . have:=hi.len;unfold W8
   grind
theorem c0H(b:s7 t)(hs:Sm t){s:J2}(hi:HSI t s){h:Hf}(hb:HfB t h)(hr:h.r=[]):∀j,j≤(G8 t h.x).length→ArI t s h (G8 t h.x) j (((G8 t h.x).take j).foldl (W8 t) (s,[]))
 |0,_=>⟨hi,a5p _,a5p _,fun e he=>(by cases he),fun a c=>(by simp at c),p7 _⟩
 |j+1,hj=>by rw[a5B _ _ (show j<(G8 t h.x).length by omega)];exact(c0H b hs hi hb hr j j4).next b hs hb hr j4
theorem c4K(g:s7 t)(hs:Sm t){s:J2}(hi:HSI t s){h:Hf}(hb:HfB t h):HSI t (a1y t s h).1∧s.1<+:(a1y t s h).1.1∧s.2<+:(a1y t s h).1.2∧StI t (a1y t s h).1.1 h (a1y t s h).2∧(a1y t s h).2.length≤64:=by
 unfold a1y;cases hr:h.r with
 |cons c r=>
  have j:Stp t h c [] ⟨h.x,r⟩:=.inl ⟨hr,rfl,rfl⟩;obtain⟨g1,g2,g3,g4⟩:=b7C hi (j.bd g hs hb);refine⟨g1,g2,g3,⟨fun e he=>?_,fun c' k h' h1=>?_⟩,k8⟩
  . grind
  . rcases h1 with⟨b,d,f⟩|⟨b,_⟩
    . rw[hr]at b;cases b;refine⟨_,H5.2 rfl,rfl,d.symm,?_⟩;rw[g4];cases h';simp only at f;rw[f]
    . rw[hr]at b;cases b
 |nil=>
  have h1:=c0H g hs hi hb hr _ (p7 _);rw[K8]at h1;refine⟨h1.hi,h1.pre,h1.pr2,⟨h1.snd,fun c' k h' b=>?_⟩,U3 h1.len (a6p g _)⟩;rcases b with⟨d,_⟩|⟨_,a,p,d,f,i⟩
  . rw[hr]at d;cases d
  . obtain⟨e,l,m,n,o⟩:=h1.all a (by grind);refine⟨e,l,by rw[m,d];rfl,by rw[n,f],?_⟩;rw[o,d];cases h';simp only at i;rw[i];rfl
theorem getD_some{α:Type}{l:List α}{n:Nat}{d x:α}(h:l[n]?=some x):l.getD n d=x:=by grind
theorem a7j(g:s7 t)(hs:Sm t){s:J2}(hi:HSI t s){n:Nat}{h:Hf}(c:s.1[n]?=some h):HSI t (L5 t s n).1∧s.1<+:(L5 t s n).1.1∧StI t (L5 t s n).1.1 h (L5 t s n).2∧(L5 t s n).2.length≤64∧L5 t (L5 t s n).1 n=L5 t s n:=by
 have i:n<s.2.length:=by rw[hi.sl];exact(C0.1 c).1
 cases f:s.2.getD n none with
 |some L=>
  have e:L5 t s n=(s,L):=by unfold L5;rw[f]
  rw[e];have j:s.2[n]?=some (some L):=by grind
  obtain⟨a,b⟩:=hi.st n L h j c;exact⟨hi,a5p _,a,b,e⟩
 |none=>
  have e:L5 t s n=a9t t s n:=by unfold L5;rw[f]
  rw[e];unfold a9t;rw[getD_some c];obtain⟨g1,g2,g3,g4,g5⟩:=c4K g hs hi (hi.hb h (D0 c));have k:n<(a1y t s h).1.2.length:=a9I i g3.length_le;refine⟨⟨g1.nd,g1.hb,by rw[a4J];exact g1.sl,fun m L x h1 d=>?_⟩,g2,g4,g5,?_⟩
  . by_cases hm:m=n
    . subst hm;rw[E8 k]at h1;cases h1;rw[a0e g2 c]at d;cases d;exact⟨g4,g5⟩
    . rw[F4 (Ne.symm hm)]at h1;exact g1.st m L x h1 d
  . show L5 t ((a1y t s h).1.1,_) n=_;unfold L5
    grind
abbrev BM:=List (UInt8×List Nd)
def a0y(l:Ld)(x:J6)(B:BM)(y:J6):BM:=if x.c=y.c then Y7 B x.c (Nd.ord ⟨x.to,y.to,l.aft x.p y.p⟩)else B
def a1S(l:Ld)(Lb:List J6)(B:BM)(x:J6):BM:=Lb.foldl (a0y l x) B
theorem c5N{l:Ld}{x y:J6}{B:BM}{c:UInt8}{m:Nd}:m∈D4 (a0y l x B y) c↔m∈D4 B c∨(x.c=c∧y.c=c∧m=Nd.ord ⟨x.to,y.to,l.aft x.p y.p⟩):=by
 unfold a0y;split
 . rename_i h;rw[a7J];split
   . grind
   . grind
 . grind
theorem b6q{l:Ld}{x:J6}{c:UInt8}{m:Nd}:∀{Lb:List J6} {B:BM},m∈D4 (a1S l Lb B x) c↔m∈D4 B c∨∃y∈Lb,x.c=c∧y.c=c∧m=Nd.ord ⟨x.to,y.to,l.aft x.p y.p⟩
 | [],B=>by simp[a1S]
 |y::Lb,B=>by
  show m∈D4 (a1S l Lb (a0y l x B y) x) c↔_;rw[b6q (Lb:=Lb),c5N]
  grind
theorem b0T{l:Ld}{Lb:List J6}{c:UInt8}{m:Nd}:∀{La:List J6} {B:BM},m∈D4 (La.foldl (a1S l Lb) B) c↔m∈D4 B c∨∃x∈La,∃y∈Lb,x.c=c∧y.c=c∧m=Nd.ord ⟨x.to,y.to,l.aft x.p y.p⟩
 | [],B=>by simp
 |x::La,B=>by
  rw[a4e,b0T (La:=La),b6q]
  grind
theorem c6n{l:Ld}{x y:J6}{B:BM}(c:UInt8):(D4 (a0y l x B y) c).length≤(D4 B c).length+1:=by
 unfold a0y;split
 . rw[a7J]
   grind
 . omega
theorem b6g{l:Ld}{x:J6}(c:UInt8):∀{Lb:List J6} {B:BM},(D4 (a1S l Lb B x) c).length≤(D4 B c).length+Lb.length
 | [],B=>by simp[a1S]
 |y::Lb,B=>by have h1:=b6g (l:=l) (x:=x) c (Lb:=Lb) (B:=a0y l x B y);have a:=c6n (l:=l) (x:=x) (y:=y) (B:=B) c;show(D4 (a1S l Lb (a0y l x B y) x) c).length≤_;rw[S9];omega
theorem c1q{l:Ld}{Lb:List J6}(c:UInt8):∀{La:List J6} {B:BM},(D4 (La.foldl (a1S l Lb) B) c).length≤(D4 B c).length+La.length*Lb.length
 | [],B=>by simp
 |x::La,B=>by have h1:=c1q (l:=l) (Lb:=Lb) c (La:=La) (B:=a1S l Lb B x);have a:=b6g (l:=l) (x:=x) c (Lb:=Lb) (B:=B);rw[a4e,S9,Nat.succ_mul];omega
noncomputable def a0C(t:k7)(s:J2)(B:BM)(n:Nd):J2×BM:=if(L5 t s n.a).2=[]then((L5 t s n.a).1,B)else((L5 t (L5 t s n.a).1 n.b).1,(L5 t s n.a).2.foldl (a1S n.l (L5 t (L5 t s n.a).1 n.b).2) B)
theorem c6h(C:s7 t)(hs:Sm t){s:J2}(hi:HSI t s){B:BM}{n:Nd}{w:By}(M:NS t s.1 w n):
 HSI t (a0C t s B n).1∧s.1<+:(a0C t s B n).1.1∧(∀c m,m∈D4 B c→m∈D4 (a0C t s B n).2 c)∧(∀c m,m∈D4 (a0C t s B n).2 c→m∈D4 B c∨NS t (a0C t s B n).1.1 (w++[c]) m∧m.a≤m.b)∧
 (∀c,(D4 (a0C t s B n).2 c).length≤(D4 B c).length+4096)∧
 (∀c p q g hb D E,s.1[n.a]?=some g→s.1[n.b]?=some hb→Stp t g c p D→Stp t hb c q E→∃i j,(a0C t s B n).1.1[i]?=some D∧(a0C t s B n).1.1[j]?=some E∧Nd.ord ⟨i,j,n.l.aft p q⟩∈D4 (a0C t s B n).2 c):=by
 obtain⟨u,v,g,hb,k,F,N,O,P⟩:=id M;obtain⟨a1,a2,a3,a4,a5⟩:=a7j C hs hi k;unfold a0C;split
 . rename_i Q;refine⟨a1,a2,fun _ _ h=>h,fun _ _ h=>.inl h,fun _=>Nat.le_add_right _ _,fun c p q R S a G b o r H=>?_⟩;rw[k]at b;cases b;obtain⟨e,I,_⟩:=a3.2 c p a r;rw[Q]at I;cases I
 . obtain⟨T,J,K,U,ae⟩:=a7j C hs a1 (a0e a2 F);have L:=a3.mono J;refine⟨T,a2.trans J,fun c m h=>b0T.2 (.inl h),fun c m h=>?_,fun c=>?_,fun c p q R S a G b o r H=>?_⟩
   . rcases b0T.1 h with h|⟨x,V,y,W,X,Y,rfl⟩
     . exact .inl h
     . refine .inr ⟨NS.ord ?_,?_⟩
       . obtain⟨a,z,d⟩:=L.1 x V;obtain⟨Z,A,f⟩:=K.1 y W;rw[X]at d;rw[Y]at f;exact⟨u++x.p,v++y.p,a,Z,z,A,HP.snoc d N,HP.snoc f O,by rw[P];exact a3E _ _ _ _⟩
       . unfold Nd.ord;split
         . omega
         . rename_i h;simp only at h⊢;omega
   . have h1:=c1q (l:=n.l) (Lb:=(L5 t (L5 t s n.a).1 n.b).2) c (La:=(L5 t s n.a).2) (B:=B);have af:(L5 t s n.a).2.length*(L5 t (L5 t s n.a).1 n.b).2.length≤64*64:=a8a a4 U;refine U3 h1 ?_;omega
   . rw[k]at b;cases b;rw[F]at o;cases o;obtain⟨x,z,d,aa,ab⟩:=L.2 c p a r;obtain⟨y,A,f,ac,ad⟩:=K.2 c q G H;refine⟨x.to,y.to,ab,ad,b0T.2 (.inr ⟨x,z,y,A,d,f,?_⟩)⟩;rw[aa,ac]
def O9(ls:List Ld)(l:Ld):Bool:=ls.any (fun k=>k==l||k.s==3)||ls.length==2
def Y2(F:FT)(n:Nd):Bool×FT:=if O9 (D4 F n.k) n.l=true then(false,F)else(true,Y7 F n.k n.l)
structure SrI(t:k7)(Hs:List Hf)(F:FT)(P:Nd→Prop):Prop where
 ns:∀n,Rec F n→(∃w,NS t Hs w n)∧¬Cls t Hs n
 dn:∀n,Rec F n→P n∨Don t Hs F n
 kd:(F.map (·.1)).Nodup
 ke:∀e∈F,e.1.1≤e.1.2∧e.1.2<Hs.length
 tw:∀e∈F,e.2.length≤2∧e.2.Nodup
 h0:Hs[0]?=some ⟨0,[]⟩
 rt:Rec F ⟨0,0,⟨0,[]⟩⟩
def FLe(F F':FT):Prop:=∀k l,l∈D4 F k→l∈D4 F' k
theorem FLe.hdl{F F':FT}(h:FLe F F'){n:Nd}(d:Hdl F n):Hdl F' n:=by
 rcases d with h1|⟨k,h1,c⟩|⟨a,b,h1,c,e⟩
 . exact .inl (h _ _ h1)
 . exact .inr (.inl ⟨k,h _ _ h1,c⟩)
 . exact .inr (.inr ⟨a,b,h _ _ h1,h _ _ c,e⟩)
theorem FLe.put(F:FT)(k:Nat×Nat)(l:Ld):FLe F (Y7 F k l):=fun a b h=>by
 rw[a7J];split
 . grind
 . exact h
theorem FLe.rec(F:FT)(n:Nd):FLe F (Y2 F n).2:=by
 unfold Y2;split
 . exact fun _ _ h=>h
 . exact FLe.put F _ _
theorem Don.mono{Hs:List Hf}{F F':FT}(e:FLe F F'){n:Nd}(h:Don t Hs F n):Don t Hs F' n:=fun c p q f hb g k h1 l m o=>by obtain⟨i,j,a,b,d⟩:=h c p q f hb g k h1 l m o;exact⟨i,j,a,b,e.hdl d⟩
theorem Don.pre{Hs Hs':List Hf}{F:FT}(hp:Hs<+:Hs'){n:Nd}{w:By}(k:NS t Hs w n)(h:Don t Hs F n):Don t Hs' F n:=fun c p q s hb l m h1 e o r=>by obtain⟨u,v,x,y,f,g,_⟩:=k;rw[a0e hp f]at h1;cases h1;rw[a0e hp g]at e;cases e;obtain⟨i,j,a,b,d⟩:=h c p q _ _ l m f g o r;exact⟨i,j,a0e hp a,a0e hp b,d⟩
theorem SrI.mono{Hs:List Hf}{F:FT}{P P':Nd→Prop}(h:SrI t Hs F P)(hp:∀n,Rec F n→P n→P' n∨Don t Hs F n):SrI t Hs F P':=
 {h with dn:=fun n a=>(h.dn n a).elim (hp n a) .inr}
theorem SrI.pre{Hs Hs':List Hf}{F:FT}{P:Nd→Prop}(hp:Hs<+:Hs')(h:SrI t Hs F P):SrI t Hs' F P:=
 ⟨fun n a=>by
  obtain⟨⟨w,h1⟩,g⟩:=h.ns n a;refine⟨⟨w,h1.mono hp⟩,fun b=>g ⟨b.1,?_⟩⟩;obtain⟨_,i,hb,c1,c2,c3,c4⟩:=b;obtain⟨u,v,j,k,c,f,_⟩:=h1;rw[a0e hp c]at c1;cases c1;rw[a0e hp f]at c2;cases c2;exact⟨_,_,c,f,c3,c4⟩,
  fun n a=>by obtain⟨⟨w,h1⟩,_⟩:=h.ns n a;exact(h.dn n a).imp id fun d=>d.pre hp h1,
  h.kd,fun e he=>⟨(h.ke e he).1,a9I (h.ke e he).2 hp.length_le⟩,h.tw,a0e hp h.h0,h.rt⟩
theorem c5E{Hs:List Hf}{F:FT}{P:Nd→Prop}(h:SrI t Hs F P){n:Nd}(hb:O9 (D4 F n.k) n.l=true):Hdl F n:=by
 unfold O9 at hb;rw[a1j,List.any_eq_true]at hb;rcases hb with⟨k,h1,c⟩|h1
 . simp only[a1j,beq_iff_eq]at c;rcases c with c|c
   . subst c;exact .inl h1
   . exact .inr (.inl ⟨k,h1,c⟩)
 . simp only[beq_iff_eq]at h1;have c:(D4 F n.k).Nodup:=by
    rcases a8S (k:=n.k) (F:=F)with e|e
    . rw[e];simp
    . exact(h.tw _ e).2
   match hl:D4 F n.k,h1 with
   | [a,b],_=>
    rw[hl]at c;refine .inr (.inr ⟨a,b,by rw[hl];simp,by rw[hl];simp,?_⟩);intro e;subst e;simp at c
theorem c3O{Hs:List Hf}{F:FT}{P:Nd→Prop}(h:SrI t Hs F P){n:Nd}{w:By}(c:NS t Hs w n)(hle:n.a≤n.b)(g:¬Cls t Hs n)(hb:¬O9 (D4 F n.k) n.l=true):SrI t Hs (Y7 F n.k n.l) fun m=>P m∨m=n:=by
 have f:∀m,Rec (Y7 F n.k n.l) m→Rec F m∨m=n:=fun m hm=>by
  unfold Rec at hm⊢;rw[a7J]at hm;split at hm
  . rename_i e;rcases I5.1 hm with hm|hm
    . left;rw[←e];exact hm
    . right
      have l:n.a=m.a:=congrArg Prod.fst e;have o:n.b=m.b:=congrArg Prod.snd e;have p:=H5.1 hm;cases m;cases n
      grind
  . exact .inl hm
 refine⟨fun m hm=>?_,fun m hm=>?_,?_,fun e he=>?_,fun e he=>?_,h.h0,FLe.put F _ _ _ _ h.rt⟩
 . rcases f m hm with hm|rfl
   . exact h.ns m hm
   . exact⟨⟨w,c⟩,g⟩
 . rcases f m hm with hm|rfl
   . exact(h.dn m hm).imp .inl fun d=>d.mono (FLe.put F _ _)
   . exact .inl (.inr rfl)
 . rw[b9o];split
   . exact h.kd
   . rename_i i;rw[a6d];exact⟨h.kd,k8,fun a j b hb e=>by rw[H5]at hb;subst hb;subst e;exact i j⟩
 . obtain⟨u,v,q,r,s,x,_⟩:=c;rcases b0r he with he|rfl
   . exact h.ke e he
   . grind
 . rcases b0r he with he|rfl
   . exact h.tw e he
   . unfold O9 at hb;simp only[a1j,not_or,List.any_eq_true,not_exists,not_and,beq_iff_eq]at hb;obtain⟨y,z⟩:=hb;have A:(D4 F n.k).length≤2∧(D4 F n.k).Nodup:=by
      rcases a8S (k:=n.k) (F:=F)with e|e
      . rw[e];simp
      . exact h.tw _ e
     grind
theorem c0K{F:FT}{n:Nd}:Rec (Y7 F n.k n.l) n:=by unfold Rec;rw[a7J,if_pos rfl];simp
def prs:Nat→List (Nat×Nat)
 |0=>[]
 |n+1=>prs n++(List.range (n+1)).map fun a=>(a,n)
theorem c0f:∀n,2*(prs n).length=n*(n+1)
 |0=>rfl
 |n+1=>by
  have a:=c0f n;unfold prs
  grind
theorem b9K{a b:Nat}:∀{n:Nat},a≤b→b<n→(a,b)∈prs n
 |0,_,h=>by omega
 |n+1,h1,c=>by
  unfold prs;by_cases h:b=n
  . grind
  . exact a4M _ (b9K h1 j4)
theorem SrI.cnt{Hs:List Hf}{F:FT}{P:Nd→Prop}(h:SrI t Hs F P):K9 F≤Hs.length*(Hs.length+1):=by
 have h1:K9 F≤2*F.length:=by
  have:=h.tw;unfold K9;clear h
  induction F with
  |nil=>simp
  |cons e F b=>
   have h1:=(this e a3x).1;have a:=b fun e he=>this e (a4i _ he);simp only[a0s,List.sum_cons,S9];omega
 have a:=a9b (F.map (·.1)) (prs Hs.length) h.kd fun k c=>by obtain⟨e,he,rfl⟩:=G7.1 c;exact b9K (h.ke e he).1 (h.ke e he).2
 rw[O0]at a;have d:=c0f Hs.length;omega
theorem a6K{n m:Nat}(h:m≤n*(n+1))(a:n≤16128):m≤260128512:=
 U3 h (U3 (a8a a (Nat.succ_le_succ a)) H9)
theorem SrI.fin(b:s7 t){Hs:List Hf}{F:FT}(h:SrI t Hs F fun _=>False):¬Two t:=
 c2p b (fun n a=>⟨(h.dn n a).elim False.elim id,(h.ns n a).2,(h.ns n a).1⟩) h.h0 h.rt
end
def a1a:u9:=
 ⟨51,[0,1,2,3,6,8,9,15,21,29,34,40,45],2,[(4,some (true,2))],sq [.reg [H4 3 0 0,ow 4 (.alloc 1 [.int .i64 0,.str ⟨#[]⟩])],sq [.reg [od 0 3,Z3 5 1 0],.block 0 (sq [.reg [oeo 5 1,oc 6 0],.cond (.v 6) (.reg [od 1 3,ob 1 0,oa 1,obq 1 2,oc 1 3]) (sq [.reg [oeo 5 2,oc 7 0],.cond (.v 7) (.reg [od 1 3,ob 1 0,oa 2,obq 1 2,oc 2 3]) (sq [.reg [oeo 5 3,oc 8 0],.cond (.v 8) (sq [.reg [oo 2 3,L0 2 4 0],ko]) kc])])])],.block 1 (.loopS [1,2,4] 2 (sq [sq [.reg [oa 1,oq (.bin .neq false (.l 0) (.c (.str ⟨#[]⟩))),om 1,oj 2 2,⟨.bin .neq false (.l 3) (.c (.str ⟨#[]⟩)),none,some (.l 2,true),[]⟩,V1 9 2 4],B9 9 1],.block 2 (sq [sq [.reg [oa 1,oea 0 0,oa 2,oea 2 0,ocb 10 1 3],.cond (.v 10) (sq [.reg [oq (.build [.int .i64 0,.str ⟨#[]⟩] [(0,1,oi 3)]),L0 2 4 0],ko]) kc],.reg [oa 1,oed 0 0 1,oa 2,oed 0 2 1,oc 1 1,oc 2 3]])])),.block 3 (sq [.reg [oa 1,oq (.bin .neq false (.l 0) (.c (.str ⟨#[]⟩))),oc 11 1],.cond (.v 11) (sq [.reg [oa 1,oq (.build [.int .i64 0,.str ⟨#[]⟩] [(0,1,oi 1),(1,1,.l 0)]),L0 2 4 1],ko]) (sq [.reg [oa 2,oq (.bin .neq false (.l 0) (.c (.str ⟨#[]⟩))),oc 12 1],.cond (.v 12) (sq [.reg [oa 2,oq (.build [.int .i64 0,.str ⟨#[]⟩] [(0,1,oi 2),(1,1,.l 0)]),L0 2 4 1],ko]) kc])]),.reg [oq (.build [.int .i64 0,.str ⟨#[]⟩] []),L0 2 4 0],ko]⟩
def a4o:u9:=
 ⟨48,[0,1,2,24,38,39,43],2,[(2,some (true,4))],sq [.reg [H4 1 0 0,ocu 2 1 0 0 0],sq [.reg [od 0 1,ok 0 0,ob 1 1,od 0 1,ok 1 3,ob 1 4,oby 2 5,om 6,ox 0 1 7,⟨.fieldAddr 0 (.l 8),none,some (.l 7,false),[]⟩,os 1 9 7,ox 0 1 7,⟨.fieldAddr 1 (.l 11),none,some (.l 7,false),[]⟩,os 1 12 7,⟨.bin .eql false (.l 10) (.l 13),none,some (.l 7,false),[]⟩,⟨.mv (.l 14),none,some (.l 7,false),[]⟩,ou 2 1 15,oaw 0 16 15,oe 1 17 15,⟨.bin .neq false (.l 18) (oi 2),none,some (.l 15,true),[]⟩,oen 15 19 7,W9 3 7 20],.cond (.v 3) (sq [.reg [oo 4 1,L0 4 2 0],ko]) kc],.reg [od 0 1,ok 1 0,ob 1 1,od 0 1,ok 0 3,ob 1 4,od 0 1,ok 0 6,og 1 7 2,od 0 1,ok 1 9,og 1 10 5],sq [.reg [od 2 1,ok 0 0,Z3 4 1 1],.block 0 (sq [.reg [oeo 4 1,oc 5 0],.cond (.v 5) (.reg [od 2 1,ok 0 0,oq (.store 1 (.l 1) (oi 2))]) (sq [.reg [oeo 4 2,oc 6 0],.cond (.v 6) (.reg [od 2 1,ok 0 0,oq (.store 1 (.l 1) (oi 1))]) kc])])],.reg [oo 4 1,L0 4 2 0],ko]⟩
def X97:u9:=
 ⟨26,[0,1,4,5,6,11,12,13,14,15,24],0,[(2,none)],sq [kk 2,sq [.reg [oa 0,E6 0,oa 1,E6 2,oas 5 1 3],.cond (.v 5) (kaq 2) kc],sq [kal 6 1 7 0 8 0,.block 0 (.loopS [0,6,7,8] 0 (sq [ki 9 8 7,B9 9 0,.block 1 (sq [.reg [oa 8,N8 1 6 8,ob 1 1,oc 3 0,oc 4 2],.reg [oa 0,oa 3,ol 1 0 1,ob 1 2,oa 4,ocb 10 3 4],.cond (.v 10) (kaq 2) kc]),ke 8 1 8 0]))],kad 2,ko]⟩
def X98:u9:=
 ⟨46,[0,1,4,5,11,22,29],3,[(2,none)],sq [ku 2,.block 0 (sq [.reg [oa 0,E6 0,obz 1 0,oc 3 2],.cond (.v 3) (sq [.reg [oa 1,oq (.mkarr 0 1 [.str ⟨#[]⟩] [(0,.l 0)]),oc 2 1],.G6 [(0,true)] ko]) (sq [.reg [oa 1,oa 0,oce 1 1 0,ob 1 2,oby 0 3,oc 4 4],.cond (.v 4) (sq [.reg [oa 1,oa 0,oce 1 1 0,ob 1 2,oq (.mkarr 1 1 [.str ⟨#[]⟩,.str ⟨#[]⟩] [(0,.l 0),(1,.l 3)]),oc 2 4],.G6 [(1,true)] ko]) (sq [.reg [oa 1,oa 0,oce 1 1 0,ob 1 2,ocq 0 3,oc 5 4],.cond (.v 5) (sq [kf 0 2 0,ko]) (sq [.reg [oa 0,E6 0,obz 1 1,om 2,N2 1 3,N2 0 3,⟨.indexAddr 1 (.l 5) (oi 1),none,some (.l 3,false),[]⟩,os 1 6 3,odm 4 7 3,U9 3 8,oc 6 9],.cond (.v 6) (sq [.reg [oa 0,oce 1 0 0,ob 1 1,oa 1,oq (.mkarr 2 1 [.str ⟨#[]⟩,.str ⟨#[]⟩] [(0,.l 2),(1,.l 3)]),oc 2 4],.G6 [(2,true)] ko]) kc])])])]),kf 0 2 0,ko]⟩
theorem c122:D3 122 a1a:=D7
theorem c123:D3 123 a4o:=D7
theorem c97:D3 97 X97:=D7
theorem c98:D3 98 X98:=D7
abbrev LQ(l:Ld):PV:=.agg [IN l.s,St l.x]
abbrev NQ(n:Nd):PV:=.agg [IN n.a,IN n.b,IN n.l.s,St n.l.x]
theorem c4S(l:Ld)(v:l.s≤3)(p q:By)(h1:l.x.length≤1000000000000)(w:p.length≤1000000)(z:q.length≤1000000):F0 122 [0,0] [LQ l,St p,St q] (LQ (l.aft p q)):=by
 obtain⟨R,g⟩:=s8 (l.aft p q);rw[←g];refine E1 c122 3 (by simp[a1a]) fun Q f A=>?_;have t:¬((9223372036854775807:Int)<(l.x.length:Int)+(p.length:Int)):=j4;have u:¬((9223372036854775807:Int)<(l.x.length:Int)+(q.length:Int)):=j4;obtain⟨s,x⟩:=l;dsimp only at*;have hs:s=0∨s=1∨s=2∨s=3:=j4;rcases hs with rfl|rfl|rfl|rfl
 . simp[Ld.aft]at g;simp[a1a];obtain⟨P0,k⟩:=s8 (p);obtain⟨Q0,m⟩:=s8 (q);rw[←k,←m]at g⊢;refine I6 (fun(y:By×By) vs h=>ld y.1 y.2=R∧vs=[.uu,St y.1,St y.2,.uu,.ptr 2 1 0,.uu,.uu,.uu,.uu,.uu,.uu,.uu,.uu]∧h=[dd,dd,(1,.var [I 0,St []])]) (fun y=>y.1.length) (P0,Q0) ?_ ?_
   . simp[g]
   . rintro⟨p,q⟩ vs h ⟨c,rfl,rfl⟩ Q' n i o;dsimp only at c;cases p with
     |nil=>
      cases q with
      |nil=>
       simp[ld]at c;simp;refine i _ _ _ ?_;simp;refine f _ _ ?_;simp[a1a,←c]
      |cons b q=>
       simp[ld]at c;have e:¬((q.length:Int)+1=0):=j4;simp;refine i _ _ _ ?_;simp;refine f _ _ ?_;simp[a1a,←c]
     |cons a p=>
      cases q with
      |nil=>
       simp[ld]at c;simp;refine i _ _ _ ?_;simp;refine f _ _ ?_;simp[a1a,←c]
      |cons b q=>
       have f1:(1:Int)≤(p.length:Int)+1:=j4;have f2:(1:Int)≤(q.length:Int)+1:=j4;by_cases d:a=b
       . rw[ld,if_pos d]at c;subst d;simp[f1,f2];refine n (p,q) _ _ k8 ?_;simp[c]
       . rw[ld,if_neg d]at c;have j:¬(a.toNat=b.toNat):=fun e=>d (a6e.1 e);have r:¬((a.toNat:Int)=(b.toNat:Int)):=fun e=>j (Int.ofNat.inj e);simp[j,r,d];refine o _ _ ?_;refine f _ _ ?_;simp[a1a,←c]
 . simp[Ld.aft]at g;obtain⟨P0,k⟩:=s8 (x++p);obtain⟨Q0,m⟩:=s8 (q);rw[←k,←m]at g;simp[a1a,t,←k];rw[←m];refine I6 (fun(y:By×By) vs h=>ld y.1 y.2=R∧vs=[.uu,St y.1,St y.2,.uu,.ptr 2 1 0,.uu,.uu,.uu,.uu,.uu,.uu,.uu,.uu]∧h=[dd,dd,(1,.var [I 0,St []])]) (fun y=>y.1.length) (P0,Q0) ?_ ?_
   . simp[g]
   . rintro⟨p,q⟩ vs h ⟨c,rfl,rfl⟩ Q' n i o;dsimp only at c;cases p with
     |nil=>
      cases q with
      |nil=>
       simp[ld]at c;simp;refine i _ _ _ ?_;simp;refine f _ _ ?_;simp[a1a,←c]
      |cons b q=>
       simp[ld]at c;have e:¬((q.length:Int)+1=0):=j4;simp;refine i _ _ _ ?_;simp;refine f _ _ ?_;simp[a1a,←c]
     |cons a p=>
      cases q with
      |nil=>
       simp[ld]at c;simp;refine i _ _ _ ?_;simp;refine f _ _ ?_;simp[a1a,←c]
      |cons b q=>
       have f1:(1:Int)≤(p.length:Int)+1:=j4;have f2:(1:Int)≤(q.length:Int)+1:=j4;by_cases d:a=b
       . rw[ld,if_pos d]at c;subst d;simp[f1,f2];refine n (p,q) _ _ k8 ?_;simp[c]
       . rw[ld,if_neg d]at c;have j:¬(a.toNat=b.toNat):=fun e=>d (a6e.1 e);have r:¬((a.toNat:Int)=(b.toNat:Int)):=fun e=>j (Int.ofNat.inj e);simp[j,r,d];refine o _ _ ?_;refine f _ _ ?_;simp[a1a,←c]
 . simp[Ld.aft]at g;obtain⟨P0,k⟩:=s8 (p);obtain⟨Q0,m⟩:=s8 (x++q);rw[←k,←m]at g;simp[a1a,u,←m];rw[←k];refine I6 (fun(y:By×By) vs h=>ld y.1 y.2=R∧vs=[.uu,St y.1,St y.2,.uu,.ptr 2 1 0,.uu,.uu,.uu,.uu,.uu,.uu,.uu,.uu]∧h=[dd,dd,(1,.var [I 0,St []])]) (fun y=>y.1.length) (P0,Q0) ?_ ?_
   . simp[g]
   . rintro⟨p,q⟩ vs h ⟨c,rfl,rfl⟩ Q' n i o;dsimp only at c;cases p with
     |nil=>
      cases q with
      |nil=>
       simp[ld]at c;simp;refine i _ _ _ ?_;simp;refine f _ _ ?_;simp[a1a,←c]
      |cons b q=>
       simp[ld]at c;have e:¬((q.length:Int)+1=0):=j4;simp;refine i _ _ _ ?_;simp;refine f _ _ ?_;simp[a1a,←c]
     |cons a p=>
      cases q with
      |nil=>
       simp[ld]at c;simp;refine i _ _ _ ?_;simp;refine f _ _ ?_;simp[a1a,←c]
      |cons b q=>
       have f1:(1:Int)≤(p.length:Int)+1:=j4;have f2:(1:Int)≤(q.length:Int)+1:=j4;by_cases d:a=b
       . rw[ld,if_pos d]at c;subst d;simp[f1,f2];refine n (p,q) _ _ k8 ?_;simp[c]
       . rw[ld,if_neg d]at c;have j:¬(a.toNat=b.toNat):=fun e=>d (a6e.1 e);have r:¬((a.toNat:Int)=(b.toNat:Int)):=fun e=>j (Int.ofNat.inj e);simp[j,r,d];refine o _ _ ?_;refine f _ _ ?_;simp[a1a,←c]
 . simp[Ld.aft]at g;simp[a1a];refine f _ _ ?_;simp[a1a,g]
def b0g:u9:=
 ⟨9,[0,1,3,4],1,[(3,none)],sq [.reg [H4 2 0 1,oh 3],.reg [oa 0,oo 3 2,oay 162 0 1 0 0,ofh 2 0,oc 3 3],ko]⟩
def a7v:u9:=
 ⟨19,[0,1,3,4,5,7,8,9,16],1,[(3,none)],sq [.reg [H4 2 0 1,ov 3 0],sq [.reg [oa 0,N4 5 0,ov 6 0],.block 0 (.loopS [0,2,5,6] 1 (sq [ki 7 6 5,B9 7 0,.block 1 (sq [kf 6 4 0,.reg [oo 3 2,oa 0,oa 4,ol 3 1 2,J7 3 3,ow 8 (.eqS false [1,2,1] (.l 0) (.l 4))],.cond (.v 8) (sq [kf 4 3 0,ko]) kc]),ke 6 1 6 0]))],.reg [odv 3],ko]⟩
def X92:u9:=
 ⟨49,[0,1,3,4,5,6,17],41,[(3,none)],sq [.reg [H4 2 36 1,ov 3 0],.reg [oa 0,C7 0,ok 2 1,ob 1 2,oo 2 2,oq (.lookup 18 true (.int .i64 0) (.l 3) (.l 4)),om 5,oy 6 0,oy 6 1,oc 4 7,oc 5 8],sq [kaf 5 6 0,.cond (.v 6) (sq [.reg [oa 0,C7 0,ok 1 1,ob 1 2,E6 3,oc 4 4],.reg [oa 0,C7 0,ok 2 1,ob 1 2,oo 2 2,oa 4,odo 18 3 4 5],.reg [⟨.mv (.v 0),none,none,[37,38,39,40]⟩,⟨.mv (.v 0),none,none,[37,38,39,40]⟩,obv 0 37 39,odq 2 37 39,ocn 1 3 37 39,odg 1 4 37 39,occ 2 2 39,⟨.mkarr 37 2 [.agg [.int .i64 0,.str ⟨#[]⟩]] [(0,.l 6)],none,none,[39]⟩,⟨.append 38 2 24 1 (.l 5) (.l 7),none,none,[39]⟩,⟨.mv (.v 0),none,none,[37,38,39]⟩,⟨.nilchk (.l 9),none,none,[37,38,39]⟩,⟨.fieldAddr 3 (.l 10),none,none,[37,38,39]⟩,⟨.loadV false 1 (.l 11),none,none,[37,38,39]⟩,⟨.mkarr 39 1 [.nils] [(0,.c .nils)],none,none,[37,38]⟩,J3 40 1 24 1 12 13,C7 0,ok 1 15,og 1 16 8,C7 1,ok 3 18,og 1 19 14]]) kc],kf 4 3 0,ko]⟩
def X93:u9:=
 ⟨54,[0,1,3,4,5,7,18,19,20,21,32,36],23,[(3,none)],sq [.reg [H4 2 20 1,oh 3],.reg [M9 0 21,ocx 0 21,ock 4 1 21,Q7 1 2 21,obh 0 2 21,ode 2 4 21,⟨.lookup 14 false (.agg [.int .i64 0,.int .i64 0,.str ⟨#[]⟩,.int .i64 0,.str ⟨#[]⟩]) (.l 3) (.l 5),none,none,[21]⟩,ow 4 (.alloc 21 [.int .i64 0,.int .i64 0,.str ⟨#[]⟩,.int .i64 0,.str ⟨#[]⟩]),og 5 7 6],sq [.reg [od 1 4,od 0 4,ob 1 1,ow 6 (.sliceV 2 2 (.l 0) none (some (.l 2))),N4 7 3,ov 8 0],.block 0 (.loop (sq [ki 9 8 7,B9 9 0,.block 1 (sq [.reg [N8 2 6 8,J7 2 0,ow 5 (.alloc 22 [.int .i64 0,.str ⟨#[]⟩]),og 2 2 1],.reg [oo 2 5,od 2 2,J7 2 1,oq (.eqS false [1,2] (.l 0) (.l 2)),om 3,ox 0 5 4,os 1 5 4,⟨.bin .eql false (.l 6) (oi 3),none,some (.l 4,false),[]⟩,W9 10 4 7],.cond (.v 10) (kaq 3) kc]),ke 8 1 8 0]))],sq [.reg [od 0 4,ob 1 0,odb 11 1 2],.cond (.v 11) (kaq 3) kc],.reg [od 0 4,ob 1 0,od 2 2,J7 2 2,od 1 4,oq (.indexAddrA 2 2 (.l 4) (.l 1)),og 2 5 3],.reg [od 0 4,ob 1 0,oaf 1 1,od 0 4,og 1 3 2],.reg [oa 0,C7 0,ok 4 1,ob 1 2,od 0 2,J7 2 4,oo 5 4,odo 14 3 5 6],kad 3,ko]⟩
def X94:u9:=
 ⟨62,[0,1,2,4,7,9,10,15,16,17,18,25,26,27,28,35],27,[],sq [.reg [H4 3 20 1],.reg [oa 0,od 0 3,ok 0 1,ob 1 2,odd 7 121 0 3,N4 8 4,ov 9 0],.block 0 (.loop (sq [ki 10 9 8,B9 10 0,.block 1 (sq [.reg [N8 3 7 9,J7 3 0,ow 4 (.alloc 21 [.int .u8 0,.str ⟨#[]⟩,.int .i64 0]),og 3 2 1],.reg [oa 0,od 0 3,ok 1 1,ob 1 2,odd 11 121 0 3,N4 12 4,ov 13 0],.block 2 (.loop (sq [ki 14 13 12,B9 14 2,.block 3 (sq [.reg [N8 3 11 13,J7 3 0,ow 5 (.alloc 22 [.int .u8 0,.str ⟨#[]⟩,.int .i64 0]),og 3 2 1],sq [.reg [od 0 4,ob 1 0,od 0 5,ob 1 2,ocb 15 1 3],kau 15 3],.reg [obh 2 4 23,Q7 1 0 23,obh 2 5 23,Q7 1 2 23,⟨.build [.int .i64 0,.int .i64 0] [(0,1,.l 1),(1,1,.l 3)],none,none,[23]⟩,obh 2 3 23,ode 2 5 23,obh 1 4 23,Q7 1 7 23,obh 1 5 23,Q7 1 9 23,⟨.call 122 [.l 6,.l 8,.l 10] [(0,0),(0,0)] true,none,none,[23]⟩,⟨.build [.int .i64 0,.int .i64 0,.int .i64 0,.str ⟨#[]⟩] [(0,2,.l 4),(2,2,.l 11)],none,none,[23]⟩,ocu 6 23 0 0 0,og 4 13 12],.reg [⟨.mv (.v 2),none,none,[24,25,26]⟩,⟨.fieldAddr 0 (.v 4),none,none,[24,25,26]⟩,⟨.loadV false 1 (.l 1),none,none,[24,25,26]⟩,M9 2 25,obh 0 4 25,Q7 1 4 25,⟨.lookupT 24 1 4 .nils (.l 3) (.l 5),none,none,[25]⟩,⟨.loadV true 4 (.v 6),none,none,[24]⟩,⟨.call 123 [.l 7] [(0,0),(0,0),(0,0),(0,0)] true,none,none,[24]⟩,⟨.mkarr 25 4 [.agg [.int .i64 0,.int .i64 0,.int .i64 0,.str ⟨#[]⟩]] [(0,.l 8)],none,none,[24]⟩,J3 26 4 40 1 6 9,odo 1 0 2 10]]),ke 13 1 13 0]))]),ke 9 1 9 0]))]⟩
def X95:u9:=
 ⟨65,[0,1,3,4,5,6],23,[(3,none)],sq [.reg [H4 2 20 1,oh 3],.reg [obv 0 21 22,odq 0 21 22,ocn 1 1 21 22,odg 1 2 21 22,⟨.fieldAddr 0 (.v 2),none,none,[21,22]⟩,ocn 0 4 21 22,odg 1 5 21 22,⟨.indexAddr 2 (.l 3) (.l 6),none,none,[21,22]⟩,⟨.load true 2 (.l 7),none,none,[21,22]⟩,obv 0 21 22,odq 9 21 22,ocn 1 10 21 22,odg 1 11 21 22,⟨.fieldAddr 0 (.v 2),none,none,[21,22]⟩,ocn 1 13 21 22,odg 1 14 21 22,⟨.indexAddr 2 (.l 12) (.l 15),none,none,[21,22]⟩,⟨.load true 2 (.l 16),none,none,[21,22]⟩,⟨.alloc 21 [.int .i64 0,.str ⟨#[]⟩],some 4,none,[22]⟩,⟨.alloc 22 [.int .i64 0,.str ⟨#[]⟩],some 5,none,[21]⟩,oq (.storeN 2 (.l 18) (.l 8) [11,14,16]),og 2 19 17],.reg [od 2 2,ok 0 0,ob 1 1,oq (.bin .neq false (.l 2) (oi 0)),om 3,ou 1 4 4,oe 1 5 4,⟨.bin .eql false (.l 6) (.c (.str ⟨#[]⟩)),none,some (.l 4,true),[]⟩,ot 4 7,om 8,ou 1 5 9,oe 1 10 9,⟨.bin .eql false (.l 11) (.c (.str ⟨#[]⟩)),none,some (.l 9,true),[]⟩,ot 9 12,om 13,oj 0 14,obe 15 14,oaw 0 16 14,oe 1 17 14,obe 18 14,oaw 1 19 14,oe 1 20 14,ou 0 4 14,oe 1 22 14,oau 1 21 23 14,oe 1 24 14,ot 14 25,om 26,oj 0 27,obe 28 27,oaw 0 29 27,oe 1 30 27,obe 31 27,oaw 1 32 27,oe 1 33 27,ou 0 5 27,oe 1 35 27,oau 1 34 36 27,oe 1 37 27,ot 27 38,oc 3 39],ko]⟩
def a1w:u9:=
 ⟨113,[0,1,4,5,6,8,9,11,12,20,38,64,65,66,67,71,72,73,74,99],36,[(2,none)],sq [ku 2,sq [.reg [oa 0,C7 0,ok 3 1,ob 1 2,oa 1,ol 1 3 4,ob 1 5,ow 9 (.eqNil true (.l 6) (.c .nils))],.cond (.v 9) (sq [.reg [oa 0,C7 0,ok 3 1,ob 1 2,oa 1,ol 1 3 4,ob 1 5,oc 2 6],ko]) kc],.reg [oq (.lit 0 [] []),oc 3 0],.reg [oa 0,C7 0,ok 1 1,ob 1 2,oa 1,ol 2 3 4,J7 2 5,ow 4 (.alloc 27 [.int .i64 0,.str ⟨#[]⟩]),og 2 7 6],sq [.reg [od 1 4,ob 1 0,ow 10 (.bin .neq false (.l 1) (.c (.str ⟨#[]⟩)))],.cond (.v 10) (.reg [M9 3 28,od 1 4,ob 1 1,oea 2 0,oa 0,od 0 4,ob 1 5,od 1 4,ob 1 7,oed 0 8 1,oq (.build [.int .i64 0,.str ⟨#[]⟩] [(0,1,.l 6),(1,1,.l 9)]),⟨.callv (.c (.fn (.func 92) [] [])) [.l 4,.l 10],none,none,[1000001]⟩,oq (.build [.int .u8 0,.str ⟨#[]⟩,.int .i64 0] [(0,1,.l 3),(2,1,.l 11)]),oq (.mkarr 28 3 [.agg [.int .u8 0,.str ⟨#[]⟩,.int .i64 0]] [(0,.l 12)]),J3 29 3 32 1 0 13,oc 3 14]) (sq [.reg [oa 0,C7 0,ok 0 1,ob 1 2,C7 3,ok 0 4,ob 1 5,od 0 4,ob 1 7,ol 1 6 8,Z3 11 1 9,N4 12 10,ov 13 0],.block 0 (.loop (sq [ki 14 13 12,B9 14 0,.block 1 (sq [.reg [N8 3 11 13,J7 3 0,ofd 5 30 0,og 3 2 1],ku 6,sq [.reg [od 1 5,Z3 15 1 0,N4 16 1,ov 17 0],.block 2 (.loop (sq [ki 18 17 16,B9 18 2,.block 3 (sq [.reg [N8 1 15 17,ob 1 0,oc 7 1],.reg [oa 6,oa 7,ocw 31 1 0 0 1,J3 32 1 1 1 0 2,oc 6 3]]),ke 17 1 17 0]))],.reg [M9 6 33,⟨.indexAddr 1 (.l 0) (oi 0),none,none,[33]⟩,Q7 1 1 33,obh 0 5 33,Q7 1 3 33,M9 0 33,obh 2 5 33,Q7 1 6 33,M9 6 33,⟨.slice false 1 (.l 8) (some (oi 1)) none none,none,none,[33]⟩,⟨.convStr (.l 9),none,none,[33]⟩,⟨.build [.int .i64 0,.str ⟨#[]⟩] [(0,1,.l 7),(1,1,.l 10)],none,none,[33]⟩,⟨.callv (.c (.fn (.func 92) [] [])) [.l 5,.l 11],none,none,[33,1000001,1000003]⟩,⟨.build [.int .u8 0,.str ⟨#[]⟩,.int .i64 0] [(0,1,.l 2),(1,1,.l 4),(2,1,.l 12)],none,none,[33]⟩,ow 8 (.alloc 33 [.int .u8 0,.str ⟨#[]⟩,.int .i64 0]),og 3 14 13],.reg [oa 3,oo 3 8,oay 148 0 1 0 0,obd 19 2],.cond (.v 19) (.reg [oa 3,oo 3 8,oq (.mkarr 34 3 [.agg [.int .u8 0,.str ⟨#[]⟩,.int .i64 0]] [(0,.l 1)]),J3 35 3 32 1 0 2,oc 3 3]) kc]),ke 13 1 13 0]))])],.G6 [(29,true),(35,true)] (.reg [oa 0,C7 0,ok 3 1,ob 1 2,oa 1,oa 3,ol 1 3 4,og 1 6 5]),kf 3 2 0,.G4 2 none 0 0 ko]⟩
def X50:u9:=
 ⟨8,[0,2],6,[(1,none)],sq [.reg [odj 1],.reg [oa 0,ofb 3,ofb 4,oq (.build [.lit (.pointer none),.nils,.lit (.map none),.nils,.lit (.map none)] [(0,1,.l 0),(2,1,.l 1),(4,1,.l 2)]),oq (.box 5 (.l 3)),oc 1 4],.G4 1 (some 1) 6 2 (.G4 1 (some 3) 7 1 ko)]⟩
def X51:u9:=
 ⟨113,[0,2,3,4,5,6,7,9,11,12,13,15,23,43,44,45,46,47,54,55,56,57,65,66,74,75,76,77,83,86,105],20,[(1,none),(2,none)],sq [.reg [oax 1,oh 2],sq [.reg [oa 0,C7 0,ok 0 1,ob 1 2,C7 3,ok 2 4,ob 1 5,obd 12 6],.cond (.v 12) (sq [.reg [oax 1,oh 2],ko]) kc],.reg [oa 0,oq (.build [.int .i64 0,.str ⟨#[]⟩] []),oda 92 0 1,oa 0,oq (.build [.int .i64 0,.str ⟨#[]⟩] []),oda 92 3 4,off 0 0 0 1 2 1 1 5,oq (.build [.int .i64 0,.int .i64 0,.int .i64 0,.str ⟨#[]⟩] [(0,2,.l 6)]),ocu 3 8 0 0 0,og 4 8 7],.reg [oa 0,oo 4 3,oda 93 0 1],.reg [oo 4 3,oq (.lit 4 [.agg [.int .i64 0,.int .i64 0,.int .i64 0,.str ⟨#[]⟩]] [(0,.l 0)]),oq (.build [.nils,.lit (.pointer none),.int .u8 0] [(0,1,.l 1)]),oq (.box 9 (.l 2)),oq (.mkarr 10 1 [.lit (.pointer none)] [(0,.l 3)]),oc 4 4],.reg [ofb 11,oc 5 0],.block 0 (.loop (sq [sq [.reg [oa 4,E6 0,ods 13 1 0],B9 13 0],.block 1 (sq [ku 6,sq [kal 14 4 15 0 16 0,.block 2 (.loop (sq [ki 17 16 15,B9 17 2,.block 3 (sq [.reg [N8 1 14 16,ob 1 0,oc 7 1],.G4 7 none 1 0 (sq [.reg [oa 5,oq (.clearM (.l 0))],sq [.reg [oa 7,C7 0,ok 0 1,Z3 18 1 2,N4 19 3,ov 20 0],.block 4 (.loop (sq [ki 21 20 19,B9 21 4,.block 5 (sq [.reg [N8 4 18 20,J7 4 0,ocu 8 12 0 0 0,og 4 2 1],.reg [oa 0,oo 4 8,oa 5,oq (.callv (.c (.fn (.func 94) [] [])) [.l 0,.l 1,.l 2])]]),ke 20 1 20 0]))],.G6 [(11,false)] (.reg [ow 22 (.mv (.c (.int .u8 0)))]),.block 6 (.loop (sq [.reg [ow 23 (.bin .lss false (.v 22) (.c (.int .u8 63)))],B9 23 6,.block 7 (sq [kf 22 9 0,.reg [oa 7,oa 9,oq (.build [.nils,.lit (.pointer none),.int .u8 0] [(1,1,.l 0),(2,1,.l 1)]),oq (.box 13 (.l 2)),oc 10 3],sq [.reg [oa 5,oa 9,ow 24 (.lookup 1 false .nils (.l 0) (.l 1)),N4 25 2,ov 26 0],.block 8 (.loop (sq [ki 27 26 25,B9 27 8,.block 9 (sq [.reg [N8 4 24 26,J7 4 0,ocu 11 14 0 0 0,og 4 2 1],sq [.reg [oa 0,oo 4 11,oda 93 0 1,obd 28 2],kau 28 9],sq [.reg [oa 0,oo 4 11,odd 29 95 0 1],.cond (.v 29) (sq [.reg [oa 10,Y4 96 0 15 1,oc 1 1,oba 2],ko]) kc],.reg [obv 10 16 17,M9 10 16,ocx 1 16,ock 0 2 16,Q7 1 3 16,oo 4 11,oq (.mkarr 16 4 [.agg [.int .i64 0,.int .i64 0,.int .i64 0,.str ⟨#[]⟩]] [(0,.l 5)]),J3 17 4 40 1 4 6,C7 0,ok 0 8,og 1 9 7]]),ke 26 1 26 0]))],.reg [oa 10,C7 0,ok 0 1,ob 1 2,E6 3,ods 30 4 0],.cond (.v 30) (.G6 [(17,true),(13,true)] (.G4 10 none 1 0 (.reg [oa 6,oa 10,oq (.mkarr 18 1 [.lit (.pointer none)] [(0,.l 1)]),J3 19 1 8 1 0 2,oc 6 3]))) kc]),.reg [oq (.bin .add false (.v 22) (.c (.int .u8 1))),oc 22 0]]))])]),ke 16 1 16 0]))],.G6 [(19,true)] (.G4 6 none 0 0 (.G4 6 none 1 0 (kf 6 4 0)))])])),.reg [oax 1,oh 2],ko]⟩
def X96:u9:=
 ⟨23,[0,2,3,8],2,[(1,none)],sq [ku 1,ku 2,.G4 2 none 1 1 (sq [.block 0 (.loop (sq [sq [.reg [oa 0,C7 0,ok 1 1,ob 1 2,ow 3 (.eqPtr true (.l 3) (.c (.lit (.pointer none))))],B9 3 0],.block 1 (.reg [oa 2,oa 0,C7 1,ok 2 2,ob 1 3,ocw 0 1 0 0 4,J3 1 1 1 1 0 5,oc 2 6]),.reg [oa 0,C7 0,ok 1 1,ob 1 2,oc 0 3]])),.reg [oa 2,obj 124 0],kf 2 1 0,ko])]⟩
def a7T:u9:=
 ⟨28,[0,2,3,9],2,[],sq [.reg [oa 0,E6 0,obk 1 1,ov 1 0,oc 2 2],.block 0 (.loop (sq [sq [.reg [oa 1,oa 2,oas 3 0 1],B9 3 0],.block 1 (.reg [oa 0,oa 1,oa 0,oa 2,oa 0,oa 2,ol 1 4 5,ob 1 6,oa 0,oa 1,ol 1 8 9,ob 1 10,ol 1 0 1,og 1 12 7,ol 1 2 3,og 1 14 11]),.reg [oa 1,oaf 0 1,oa 2,obk 2 1,oc 1 1,oc 2 3]]))]⟩
def X52:u9:=
 ⟨109,[0,1,4,5,6,7,8,9,10,12,14,15,16,30,38,39,40,54,62,63,64,65,74,86,87,88,89],5,[(2,none)],sq [ku 2,.reg [ow 3 (.allocA 0 [.slc [],.slc [],.slc [],.slc [],.slc []])],sq [kj 11 0,.block 0 (.loop (sq [.reg [ow 12 (.bin .lss false (.v 11) (oi 5))],B9 12 0,.block 1 (sq [kf 11 4 0,.reg [oa 4,oa 0,C7 1,ok 0 2,ob 1 3,E6 4,oq (.makeSlice 1 1 24 .nils (.l 5) (.l 5)),odw 5 1 3 0,og 1 7 6]]),ke 11 1 11 0]))],sq [.reg [oa 1,E6 0,oc 5 1],.block 2 (.loop (sq [sq [.reg [oa 5,ow 13 (.bin .geq false (.l 0) (oi 0))],B9 13 2],.block 3 (sq [.reg [oa 5,ofi 0 5,odw 5 1 3 1,ob 1 2,oc 6 3],.reg [oa 6,N4 14 0,ov 15 0],.block 4 (.loop (sq [ki 16 15 14,B9 16 4,.block 5 (sq [kf 15 7 0,ku 8,.G4 8 none 1 0 (sq [sq [.reg [oa 5,oa 1,E6 1,ocq 0 2,om 3,oj 0 4,obe 5 4,oaw 1 6 4,oe 1 7 4,oj 7 4,oau 1 8 9 4,oe 1 10 4,V1 17 4 11],.cond (.v 17) (.reg [oq (.mkarr 2 1 [.str ⟨#[]⟩] [(0,.c (.str ⟨#[]⟩))]),oc 8 0]) kc],sq [.G6 [(2,true)] (.G4 8 none 0 0 (.reg [oa 0,C7 0,ok 0 1,ob 1 2,oa 7,ol 1 3 4,Z3 18 1 5,N4 19 6,ov 20 0])),.block 6 (.loop (sq [ki 21 20 19,B9 21 6,.block 7 (sq [.reg [N8 3 18 20,J7 3 0,ofd 9 3 0,og 3 2 1],sq [.reg [oa 1,oa 5,oq (.slice false 1 (.l 0) (some (.l 1)) none none),od 1 9,ob 1 3,oay 97 2 4 0 0,obd 22 5],kau 22 7],.reg [oa 5,od 1 9,ob 1 1,E6 2,obq 0 3,ofi 4 5,odw 5 1 3 5,ob 1 6,od 2 9,ob 1 8,ol 1 7 9,Z3 23 1 10,N4 24 11,ov 25 0],.block 8 (.loop (sq [ki 26 25 24,B9 26 8,.block 9 (sq [.reg [N8 1 23 25,ob 1 0,oc 10 1],.reg [oa 8,od 0 9,ob 1 1,oa 10,obq 2 3,oay 98 0 4 4 1,oc 8 5]]),ke 25 1 25 0]))]),ke 20 1 20 0]))],.reg [oa 6,oa 7,oa 8,ol 1 0 1,og 1 3 2]])]),ke 15 1 15 0]))]),.reg [oa 5,obk 0 1,oc 5 1]]))],.reg [oq (.indexAddrA 5 1 (.v 3) (oi 0)),ob 1 0,oce 1 1 0,ob 1 2,oc 2 3],ko]⟩
def X17:u9:=
 ⟨38,[0,1,2,3,4,5,6,7,10,21,28],3,[(2,some (true,3)),(3,none)],sq [.reg [H4 1 0 0,ow 2 (.alloc 1 [.nils,.str ⟨#[]⟩,.str ⟨#[]⟩]),ov 3 0],sq [.reg [oo 3 1,Y4 39 0 0 0,obd 8 1],.cond (.v 8) (kaz 3 2 0 3 20) kc],.reg [oo 3 1,Y4 49 0 0 0,oc 4 1],.reg [oa 4,obj 50 0,obj 51 1,om 2,oy 3 0,oy 3 1,oc 5 4,oc 6 5],sq [kaf 6 9 0,.cond (.v 9) (kaz 3 2 0 3 0) kc],.G6 [(15,true)] (.G4 5 none 0 0 (.reg [oa 4,oa 5,oay 52 0 1 2 1,oc 7 2])),sq [.reg [oa 7,E6 0,ow 10 (.bin .lss false (.l 1) (oi 2))],.cond (.v 10) (kaz 3 2 0 3 0) kc],.reg [oa 5,oa 7,oce 1 1 0,ob 1 2,oa 7,oce 1 4 1,ob 1 5,oq (.build [.nils,.str ⟨#[]⟩,.str ⟨#[]⟩] [(0,1,.l 0),(1,1,.l 3),(2,1,.l 6)]),L0 3 2 7,ov 3 50],ko]⟩
def X20:u9:=
 ⟨12,[0,1,2,4],3,[(2,none)],sq [.reg [H4 1 0 0,oh 2],.reg [oo 3 1,oq (.call 17 [.l 0] [(1,1),(0,0),(0,0),(0,0)] false),om 1,oy 2 0,oy 2 1,oq (.alloc 2 [.nils,.str ⟨#[]⟩,.str ⟨#[]⟩]),og 3 5 3,oc 3 4],.reg [oa 3,obz 0 0,oc 2 1],ko]⟩
theorem c148:D3 148 b0g:=D7
theorem c162:D3 162 a7v:=D7
theorem c92:L9 Tryz.prog 92 36=some {X92 with body:=strip X92.body}:=by kernel_rfl
theorem c93:L9 Tryz.prog 93 20=some {X93 with body:=strip X93.body}:=by kernel_rfl
theorem c94:L9 Tryz.prog 94 20=some {X94 with body:=strip X94.body}:=by kernel_rfl
theorem c95:L9 Tryz.prog 95 20=some {X95 with body:=strip X95.body}:=by kernel_rfl
theorem b4m:L9 Tryz.prog 121 27=some {a1w with body:=strip a1w.body}:=by kernel_rfl
theorem c50:L9 Tryz.prog 50 3=some {X50 with body:=strip X50.body}:=by kernel_rfl
theorem c51:L9 Tryz.prog 51 8=some {X51 with body:=strip X51.body}:=by kernel_rfl
theorem c96:D3 96 X96:=D7
theorem c124:L9 Tryz.prog 124 2=some {a7T with body:=strip a7T.body}:=by kernel_rfl
theorem c52:D3 52 X52:=D7
theorem c17:D3 17 X17:=D7
theorem N9:D3 20 X20:=D7
theorem c4F(n:Nd)(hs:n.l.s≤3):F0 123 [0,0,0,0] [NQ n] (NQ n.ord):=by
 refine E1 c123 2 (by simp[a4o]) fun Q c g=>?_;obtain⟨a,b,s,x⟩:=n;dsimp only at hs;by_cases h1:a<b
 . have d:¬((a:Int)=(b:Int)):=j4;simp[a4o,h1];refine c _ _ ?_;simp[a4o,Nd.ord,h1]
 . by_cases d:a=b
   . subst d;by_cases e:s=2
     . subst e;simp[a4o];refine c _ _ ?_;simp[a4o,Nd.ord,Ld.sw]
     . simp[a4o,e];refine c _ _ ?_;simp[a4o,Nd.ord,e]
   . have f:¬((a:Int)=(b:Int)):=j4;have hs:s=0∨s=1∨s=2∨s=3:=j4;rcases hs with rfl|rfl|rfl|rfl<;>simp[a4o,h1,d,f]<;>refine c _ _ ?_<;>simp[a4o,Nd.ord,Ld.sw,h1,d]
theorem c4f(l p:List Nat)(o:p.length≤1000000):F0 97 [0] [CL l,CL p] (B (decide (p<+:l))):=by
 refine E1 c97 0 (by simp[X97]) fun Q a q=>?_;by_cases f:l.length<p.length
 . have b:¬p<+:l:=fun h=>(by have:=h.length_le;omega);simp[X97,f];refine a _ _ ?_;simp[X97,b]
 . simp[X97,f];refine I6 (fun(k:Nat) vs h=>k≤p.length∧p.take k=l.take k∧vs=[CL l,.uu,.uu,.uu,.uu,.uu,CL p,IN p.length,IN k,.uu,.uu]∧h=[]) (fun k=>p.length-k) 0 ?_ ?_
   . simp
   . rintro k vs h ⟨s,c,rfl,rfl⟩ Q' g i j;by_cases d:k<p.length
     . have e:k<l.length:=j4;have m:=wk1 k j4;by_cases he:l[k]=p[k]
       . simp[d,e,he,m];refine g (k+1) _ _ j4 ?_;simp;refine⟨j4,?_⟩;rw[J5,J5,c,l9 d,l9 e,he]
       . have b:¬p<+:l:=fun⟨r,hr⟩=>he (by grind);have n:¬((l[k]:Int)=(p[k]:Int)):=j4;simp[d,e,he,n];refine j _ _ ?_;refine a _ _ ?_;simp[X97,b]
     . obtain rfl:k=p.length:=j4
       have hp:p<+:l:=⟨l.drop p.length,by rw[K8]at c;conv=>lhs;arg 1;rw[c]
                                          exact a9G _ _⟩
       simp;refine i _ _ _ ?_;simp;refine a _ _ ?_;simp[X97,hp]
abbrev bL(a b:By):Bool:=Op.bytesLess a b
def a2g(two:List By)(x:By):List By:=match two with
 | []=>[x]
 | [a]=>if bL x a then [x,a]else if x=a then [a]else [a,x]
 |a::b::r=>if bL x a then [x,a]else if x=a then a::b::r else if bL x b then [a,x]else a::b::r
theorem c9a(two:List By)(x:By):F0 98 [1] [.slc (two.map St),St x] (.slc ((a2g two x).map St)):=by
 refine E1 c98 3 (by simp[X98]) fun Q d f=>?_
 match two with
 | []=>
  simp[X98];refine d _ _ ?_;simp[X98,a2g]
 | [a]=>
  by_cases h1:bL x a=true
  . simp[X98,h1];refine d _ _ ?_;simp[X98,a2g,h1]
  . by_cases c:x=a
    . subst c;simp[X98,h1];refine d _ _ ?_;simp[X98,a2g,h1]
    . simp[X98,h1,c];refine d _ _ ?_;simp[X98,a2g,h1,c]
 |a::b::r=>
  have g0:¬((r.length:Int)+1+1=0):=j4;have g1:¬((r.length:Int)+1+1=1):=j4;by_cases h1:bL x a=true
  . simp[X98,h1,g0,g1];refine d _ _ ?_;simp[X98,a2g,h1]
  . by_cases c:x=a
    . subst c;simp[X98,h1,g0,g1];refine d _ _ ?_;simp[X98,a2g,h1]
    . by_cases e:bL x b=true
      . simp[X98,h1,c,e,g0,g1];refine d _ _ ?_;simp[X98,a2g,h1,c,e]
      . simp[X98,h1,c,e,g0,g1];refine d _ _ ?_;simp[X98,a2g,h1,c,e]
abbrev S3(s:J6):PV:=.agg [.int .u8 s.c.toNat,St s.p,IN s.to]
theorem d0x(L:List J6)(s:J6)(o:L.length≤1000000):∃r,(∃m:Int,r=I m∧(0≤m↔s∈L))∧F0 162 [0] [.slc (L.map S3),S3 s] r:=by
 refine a3u mixed (X:=a7v) c162 2 (by simp[a7v]) (by kernel_rfl) fun Q d p=>?_;simp[a7v];refine I6 (fun(k:Nat) vs h=>k≤L.length∧s∉L.take k∧vs=[.slc (L.map S3),.uu,.ptr 1 1 0,.uu,.uu,IN L.length,IN k,.uu,.uu]∧h=[dd,(1,.var [.int .u8 s.c.toNat,St s.p,IN s.to])]) (fun k=>L.length-k) 0 ?_ ?_
 . simp
 . rintro k vs h ⟨q,b,rfl,rfl⟩ Q' g i j;by_cases a:k<L.length
   . have l:=wk1 k j4;obtain⟨x,c⟩:=s8 (L[k]);by_cases he:s=x
     . have hm:s∈L:=(by rw[he,c];exact C4 a);simp[a,←c,←he];refine j _ _ ?_;refine d _ _ _ ⟨(k:Int),rfl,⟨fun _=>hm,fun _=>j4⟩⟩ ?_;simp[a7v]
     . have n:(decide (s.c.toNat=x.c.toNat)&&(s.p==x.p&&decide (s.to=x.to)))=false:=by
        rw[Bool.eq_false_iff];intro h;simp only[E7,beq_iff_eq,decide_eq_true_eq]at h;apply he;obtain⟨h1,e,f⟩:=h;cases s;cases x;simp only at h1 e f⊢;rw[J6.mk.injEq];exact⟨a6e.1 h1,e,f⟩
       simp[a,←c,n,l];refine g (k+1) _ _ j4 ?_;simp;refine⟨j4,fun h=>?_⟩;rw[J5,l9 a]at h;rcases I5.1 h with h|h
       . exact b h
       . grind
   . obtain rfl:k=L.length:=j4;rw[K8]at b;simp;refine i _ _ _ ?_;simp;refine d _ _ _ ⟨-1,rfl,⟨fun h=>j4,fun h=>absurd h b⟩⟩ ?_;simp[a7v]
theorem d0O(L:List J6)(s:J6)(a:L.length≤1000000):F0 148 [0] [.slc (L.map S3),S3 s] (B (decide (s∈L))):=by obtain⟨r,⟨m,rfl,hm⟩,b⟩:=d0x L s a;refine E1 c148 2 (by simp[b0g]) fun Q c d=>?_;simp[b0g];refine l8 b ?_;simp;refine c _ _ ?_;simp[b0g,hm]
section
variable{h h0:Heap}{s:J2}{hide:List Nat}{t:k7}{F:FT}{v7:Nat}{ws:List (Nat×Row)}{args vs:List PV}{var:Option Nat}{xs:List l5}{K:B3→Prop}
structure RX where
 (c0 c1 c2 c8 c9 c10 K3 c12 J9 c14 c15 c16 c17 c18 Q9 N9 O3 c22 c23 c24 c25 c26 c27 c28 c29 c30 c31 c32 c33 c34 c35 c36 c37 c38 c39 c40:Row)
def RX.l(x:RX):List Row:=[x.c0,x.c1,x.c2,x.c8,x.c9,x.c10,x.K3,x.c12,x.J9,x.c14,x.c15,x.c16,x.c17,x.c18,x.Q9,x.N9,x.O3,x.c22,x.c23,x.c24,x.c25,x.c26,x.c27,x.c28,x.c29,x.c30,x.c31,x.c32,x.c33,x.c34,x.c35,x.c36,x.c37,x.c38,x.c39,x.c40]
abbrev HfQ(h:Hf):PV:=.agg [IN h.x,St h.r]
abbrev PrQ(k:Nat×Nat):PV:=.agg [IN k.1,IN k.2]
def zLd:Ld:=⟨0,[]⟩
abbrev SeQ(e:(Nat×Nat)×List Ld):PV:=.agg [IN e.2.length,IN (e.2.getD 0 zLd).s,St (e.2.getD 0 zLd).x,IN (e.2.getD 1 zLd).s,St (e.2.getD 1 zLd).x]
def SLQ:List J6→PV
 | []=>.ne
 |a::l=>.slc ((a::l).map S3)
@[simp] theorem c3M:SLQ []=.ne:=rfl
@[simp] theorem d2p(a:J6)(l:List J6):SLQ (a::l)=.slc (S3 a::l.map S3):=rfl
def OSQ:Option (List J6)→PV
 |none=>.nils
 |some L=>SLQ L
@[simp] theorem d2u:OSQ none=.nils:=rfl
@[simp] theorem d4I(L:List J6):OSQ (some L)=SLQ L:=rfl
theorem c3J(a b:Hf):a1g (HfQ a) (HfQ b)=some (decide (a=b)):=by
 cases a;cases b;have hb:∀r q:By,((ByteArray.mk ⟨r⟩==ByteArray.mk ⟨q⟩))=decide (r=q):=fun r q=>by rw[show(ByteArray.mk ⟨r⟩==ByteArray.mk ⟨q⟩)=((⟨r⟩:Array UInt8)==⟨q⟩)from rfl,Bool.eq_iff_iff];simp
 simp[a1g,V7,a1d,Bool.and_assoc,hb]
@[simp] theorem d2q(a:Nat)(r:By)(L:List Hf):a0q (.agg [.int .i64 a,.str ⟨⟨r⟩⟩]) (L.map HfQ) 0=some (L.idxOf? ⟨a,r⟩):=by have:=a7B c3J ⟨a,r⟩ L 0;simpa using this
theorem c4n(a b:Nat×Nat):a1g (PrQ a) (PrQ b)=some (decide (a=b)):=by cases a;cases b;simp[a1g,V7,a1d]
@[simp] theorem c9j(a b:Nat)(L:List (Nat×Nat)):a0q (.agg [.int .i64 a,.int .i64 b]) (L.map PrQ) 0=some (@List.idxOf? (Nat×Nat) instBEqOfDecidableEq (a,b) L):=by have:=a7B c4n (a,b) L 0;simpa using this
theorem c8R(a b:UInt8):a1g (UB a) (UB b)=some (decide (a=b)):=by simp[a1g,a1d,a6e]
open Classical in
noncomputable abbrev AGR(t:k7):PV:=.fptr [.slc ((gL (E3 t) t).map (SG t)),.slc ((S5 t).map B),B (decide (Live t start))]
noncomputable abbrev SVQ(t:k7)(n:Nat):List PV:=[AGR t,.own 6 1 n 2 0 n,.mapv 3 1,.own 7 1 n 1 0 n,.mapv 4 1]
def FKQ(F:FT):List PV:=(F.map (·.1)).map PrQ
def a3W(F:FT):Row:=(1,.mp false (FKQ F) (F.map SeQ))
noncomputable abbrev SH(t:k7)(s:J2)(F:FT)(v7:Nat)(x:RX):Heap:=
 [x.c0,x.c1,x.c2,(1,.mp false (s.1.map HfQ) ((List.range s.1.length).map IN)),a3W F,(1,.var (SVQ t s.1.length)),(1,.arr 2 0 false (s.1.map HfQ)),(1,.arr 1 v7 false (s.2.map OSQ)),
  x.c8,x.c9,x.c10,x.K3,x.c12,x.J9,x.c14,x.c15,x.c16,x.c17,x.c18,x.Q9,x.N9,x.O3,x.c22,x.c23,x.c24,x.c25,x.c26,x.c27,x.c28,x.c29,x.c30,x.c31,x.c32,x.c33,x.c34,x.c35,x.c36,x.c37,x.c38,x.c39,x.c40]
theorem M3{α:Type}{h:List α}{n:Nat}(a:h.length=n+1):∃r t,h=r::t∧t.length=n:=by
 cases h with
 |nil=>cases a
 |cons r t=>exact⟨r,t,rfl,by simpa using a⟩
theorem b8o(a:h.length=41)(b:h[3]?=some (1,.mp false (s.1.map HfQ) ((List.range s.1.length).map IN)))(c:h[4]?=some (a3W F))(d:h[5]?=some (1,.var (SVQ t s.1.length)))(e:h[6]?=some (1,.arr 2 0 false (s.1.map HfQ)))(f:h[7]?=some (1,.arr 1 v7 false (s.2.map OSQ))):∃x,h=SH t s F v7 x:=by obtain⟨r0,g1,rfl,g⟩:=M3 a;obtain⟨r1,g2,rfl,i⟩:=M3 g;obtain⟨r2,g3,rfl,j⟩:=M3 i;obtain⟨r3,g4,rfl,k⟩:=M3 j;obtain⟨r4,g5,rfl,l⟩:=M3 k;obtain⟨r5,g6,rfl,m⟩:=M3 l;obtain⟨r6,g7,rfl,n⟩:=M3 m;obtain⟨aH,g8,rfl,o⟩:=M3 n;obtain⟨p,g9,rfl,q⟩:=M3 o;obtain⟨r,g10,rfl,u⟩:=M3 q;obtain⟨r10,g11,rfl,v⟩:=M3 u;obtain⟨w,g12,rfl,y⟩:=M3 v;obtain⟨z,g13,rfl,A⟩:=M3 y;obtain⟨r13,g14,rfl,B⟩:=M3 A;obtain⟨C,g15,rfl,D⟩:=M3 B;obtain⟨E,g16,rfl,G⟩:=M3 D;obtain⟨H,g17,rfl,I⟩:=M3 G;obtain⟨J,g18,rfl,K⟩:=M3 I;obtain⟨L,g19,rfl,M⟩:=M3 K;obtain⟨N,g20,rfl,O⟩:=M3 M;obtain⟨P,g21,rfl,Q⟩:=M3 O;obtain⟨R,g22,rfl,S⟩:=M3 Q;obtain⟨T,g23,rfl,U⟩:=M3 S;obtain⟨V,g24,rfl,W⟩:=M3 U;obtain⟨X,aI,rfl,Y⟩:=M3 W;obtain⟨Z,aJ,rfl,aa⟩:=M3 Y;obtain⟨ab,aK,rfl,ac⟩:=M3 aa;obtain⟨ad,aL,rfl,ae⟩:=M3 ac;obtain⟨af,aM,rfl,ag⟩:=M3 ae;obtain⟨ah,aN,rfl,ai⟩:=M3 ag;obtain⟨aj,aO,rfl,ak⟩:=M3 ai;obtain⟨al,aP,rfl,am⟩:=M3 ak;obtain⟨an,aQ,rfl,ao⟩:=M3 am;obtain⟨ap,aR,rfl,aq⟩:=M3 ao;obtain⟨ar,aS,rfl,au⟩:=M3 aq;obtain⟨av,aT,rfl,aw⟩:=M3 au;obtain⟨ax,aU,rfl,ay⟩:=M3 aw;obtain⟨az,aV,rfl,aA⟩:=M3 ay;obtain⟨aB,aW,rfl,aC⟩:=M3 aA;obtain⟨aD,aX,rfl,aE⟩:=M3 aC;obtain⟨aF,aY,rfl,aG⟩:=M3 aE;obtain rfl:=a0U.1 aG;obtain rfl:=U4 b;obtain rfl:=U4 c;obtain rfl:=U4 d;obtain rfl:=U4 e;obtain rfl:=U4 f;exact⟨⟨r0,r1,r2,p,r,r10,w,z,r13,C,E,H,J,L,N,P,R,T,V,X,Z,ab,ad,af,ah,aj,al,an,ap,ar,av,ax,az,aB,aD,aF⟩,rfl⟩
theorem b4X{m:Nat}{L:List Row}(a:h.length=41)(b:h[3]?=some (1,.mp false (s.1.map HfQ) ((List.range s.1.length).map IN)))(c:h[4]?=some (a3W F))(d:h[5]?=some (1,.var (SVQ t s.1.length)))(e:h[6]?=some (1,.arr 2 0 false (s.1.map HfQ)))(f:h[7]?=some (1,.arr 1 v7 false (s.2.map OSQ)))
 (g:(h.take 3++h.drop 8).take m=L):∃x,h=SH t s F v7 x∧x.l.take m=L:=by
 obtain⟨x,rfl⟩:=b8o a b c d e f;exact⟨x,rfl,g⟩
def a0j(l:List Row):List Row:=l.take 15++l.drop 18
theorem a6z{L:List Row}(a:h.length=41)(b:h[3]?=some (1,.mp false (s.1.map HfQ) ((List.range s.1.length).map IN)))(c:h[4]?=some (a3W F))(d:h[5]?=some (1,.var (SVQ t s.1.length)))(e:h[6]?=some (1,.arr 2 0 false (s.1.map HfQ)))(f:h[7]?=some (1,.arr 1 v7 false (s.2.map OSQ)))
 (g:a0j (h.take 3++h.drop 8)=L):∃x,h=SH t s F v7 x∧a0j x.l=L:=by
 obtain⟨x,rfl⟩:=b8o a b c d e f;exact⟨x,rfl,g⟩
theorem b9d{α:Type} [DecidableEq α]{L:List α}{x:α}{n:Nat}(h:L.idxOf? x=some n):n<L.length:=by rw[List.idxOf?,a1W]at h;exact h.1
theorem c8E{h':Heap}(n:Nat)(a:agr hide h h')(c:∀k,k<h.length→k≠n→hide.contains k=false):h'=h.set n (h'.getD n dd):=by
 apply a4g;intro k;by_cases b:k<h.length
 . by_cases e:k=n
   . subst e;rw[E8 b,B0,l9 (by rw[a.1];exact b)];rfl
   . rw[F4 (Ne.symm e),a.2 k (c k b e)]
 . rw[a0i (by rw[a.1];omega),a0i (by grind)]
theorem d0y{ks:List Nat}(h:∀y∈ws,y.1∈ks){b:A6→PV}(h1:∀n∈hide,n∉ks)(a:∀n∈hide,n<1000000∨∃k,k∉ks∧((∃g o,b (avO (n-1000000))=.ptr k g o)∨∃g c s i j,b (avO (n-1000000))=.eptr k g c s i j)):a2e hide b ws=true:=by
 unfold a2e;rw[E7,B5,B5];refine⟨fun y d=>?_,fun n e=>?_⟩
 . grind
 . rcases a n e with a|⟨k,f,a⟩
   . simp[a1J,a]
   . have l:k∉ws.map (·.1):=fun hm=>by
      obtain⟨y,d,rfl⟩:=G7.1 hm;exact f (h y d)
     rcases a with⟨g,o,a⟩|⟨g,c,s,i,j,a⟩<;>rw[a]<;>
      simp only[a1X,a1j,a6Y,List.contains_eq_mem,decide_eq_false_iff_not]<;>exact .inr l
def b1m(h:Heap):List (Nat×Row):=(List.range h.length).map fun k=>(k,h.getD k dd)
theorem b8t(h0 h:Heap)(a:h.length=h0.length):∀n,n≤h.length→p8 h0 ((List.range n).map fun k=>(k,h.getD k dd))=h.take n++h0.drop n
 |0,_=>by simp[p8]
 |n+1,d=>by
  have b:=b8t h0 h a n j4;rw[a2F,S0,a3I,b];show(h.take n++h0.drop n).set n (h.getD n dd)=_;have c:h.getD n dd=h[n]:=by grind
  rw[c,List.set_append_right _ _ (by grind),a1V,Nat.min_eq_left j4,a6a];rw[J5,l9 j4,a2o];congr 1;rw[b5u j4];rfl
theorem b1v(a:h.length=h0.length):p8 h0 (b1m h)=h:=by unfold b1m;rw[b8t h0 h a _ (p7 _),K8,b5r j4,a1v]
def T8(rs:List (Nat×Option (Bool×Nat)))(r:PV)(vs:List PV)(h:Heap):Prop:=∃l,a2m (l7 h []) vs rs=some l∧(l.length==1||l.all a2c)=true∧U7 l=r
theorem a7S{P:Program}{φ:PV→Heap→Prop}(hm:P.follows .mixedOrders=true){f:FuncId}{off s0:Nat}{X:u9}(d:L9 P f off=some {X with sites:=s0,body:=strip X.body})(e:a2n X.body=true){first cap:List PV}(hlen:(first++args++cap).length≤X.ntmps)(g:(first.all one&&cap.all one)=true)(i:noX X.body=true)
 (h:∀Q:J0,(∀r vs h,φ r h→h.length=h0.length→T8 X.results r vs h→Q .ret vs h)→(∀r vs h,φ r h→h.length=h0.length→T8 X.results r vs h→Q .normal vs h)→Xw (fns P) X.body Q (X.vars.map fun s=>(first++args++cap).getD s .uu) h0):∃r ws,φ r (p8 h0 ws)∧FI P (.fn (.func f) first cap) args h0 r ws:=by
 refine a3P hm d e hlen g i fun Q h1 j=>h Q (fun r vs h a b c=>?_) fun r vs h a b c=>?_
 . obtain⟨l,c1,c2,c3⟩:=c;exact h1 r (b1m h) vs h (by rw[b1v b];exact a) ⟨l,c1,c2,c3,(b1v b).symm⟩
 . obtain⟨l,c1,c2,c3⟩:=c;exact j r (b1m h) vs h (by rw[b1v b];exact a) ⟨l,c1,c2,c3,(b1v b).symm⟩
theorem a2T{f:PV}{l:List PV}{r:PV}{h1 a:Heap}(b:FI Tryz.prog f args h1 r ws)(hu:p8 h1 ws=a)(he:h=h1)
 (c:Xr (fns Tryz.prog) xs ⟨l++[r],I8 vs var r,a⟩ K):Xv (fns Tryz.prog) f args var xs ⟨l,vs,h⟩ K:=by
 subst he;subst hu;exact U5 b c
theorem c4W{f:PV}{l:List PV}{r:PV}{h1 a:Heap}(b:∀h',agr hide h1 h'→FI Tryz.prog f args h' r ws)(hu:p8 h1 ws=a)(he:h=h1)
 (c:a2e hide (y9 l vs) ws=true) (d:Xr (fns Tryz.prog) xs ⟨l++[r],I8 vs var r,a⟩ K):Xvh (fns Tryz.prog) hide f args var xs ⟨l,vs,h⟩ K:=by
 subst he;subst hu;exact c9E b ⟨c,d⟩
theorem b3N(t:k7)(s:J2)(F:FT)(v7:Nat)(x:RX)(h:Hf)(hs:s.1.length≤1000000)(k:s.2.length=s.1.length):
 ∃ws b,(∀y:RX,y.c36=x.c36→y.c37=x.c37→y.c39=x.c39→FI Tryz.prog (.fn (.func 92) [] []) [.ptr 5 1 0,HfQ h] (SH t s F v7 y) (IN (R2 s h).1) ws)∧p8 (SH t s F v7 x) ws=SH t (R2 s h).2 F v7 b∧
  (∀y∈ws,y.1∈[3,5,6,7,36,37,39])∧{b with c36:=x.c36,c37:=x.c37,c39:=x.c39}=x:=by
 obtain⟨a,r⟩:=h;unfold R2;cases c:s.1.idxOf? ⟨a,r⟩with
 |some n=>
  have l:=b9d c;refine⟨[(36,(x.c36.1+1,.var [IN a,St r]))],{x with c36:=(x.c36.1+1,.var [IN a,St r])},fun y d g i=>?_,rfl,k8,rfl⟩;rw[←d];refine a3q mixed (X:=X92) c92 (by rfl) (by simp[X92]) k8 fun Q e m=>?_;simp[X92,SH,c,l];refine e _ _ ?_;simp[L3,X92]
 |none=>
  obtain⟨H2,f⟩:=s8 (s.1++[⟨a,r⟩]);obtain⟨S2,j⟩:=s8 (s.2++[none]);rw[←f,←j];have o:s.1.map HfQ++[.agg [IN a,St r]]=H2.map HfQ:=by grind
  have p:(List.range s.1.length).map IN++[IN s.1.length]=(List.range H2.length).map IN:=by rw[f,Z9,b2g,a2F,S0];rfl
  have q:s.2.map OSQ++[.nils]=S2.map OSQ:=by rw[j,S0];rfl
  have u:s.1.length+1=H2.length:=by rw[f];simp
  have v:S2.length=H2.length:=by grind
  have w:H2.length*24≤140737488355328:=j4;have key:∃ws b,(∀y:RX,y.c36=x.c36→y.c37=x.c37→y.c39=x.c39→FI Tryz.prog (.fn (.func 92) [] []) [.ptr 5 1 0,HfQ ⟨a,r⟩] (SH t s F v7 y) (IN s.1.length) ws)∧p8 (SH t s F v7 x) ws=SH t (H2,S2) F v7 b∧
   (∀y∈ws,y.1∈[3,5,6,7,36,37,39])∧{b with c36:=x.c36,c37:=x.c37,c39:=x.c39}=x:=by
   refine⟨[(3,(1,.mp false (H2.map HfQ) ((List.range H2.length).map IN))),(5,(1,.var (SVQ t H2.length))),(6,(1,.arr 2 0 false (H2.map HfQ))),(7,(1,.arr 1 v7 false (S2.map OSQ))),(36,(x.c36.1+1,.var [IN a,St r])),(37,(x.c37.1+1,.dead)),(39,(x.c39.1+1,.dead))],{x with c36:=(x.c36.1+1,.var [IN a,St r]),c37:=(x.c37.1+1,.dead),c39:=(x.c39.1+1,.dead)},fun y d g i=>?_,rfl,k8,rfl⟩;rw[←d,←g,←i];refine a3q mixed (X:=X92) c92 (by rfl) (by simp[X92]) k8 fun Q e m=>?_;simp[X92,SH,c,o,p,q,u,v,w,k];refine e _ _ ?_;simp[L3,X92]
  exact key
theorem b5j{h:Hf}(a:s.2.length=s.1.length):(R2 s h).2.2.length=(R2 s h).2.1.length:=by
 unfold R2;split
 . exact a
 . simp[a]
theorem get_at(t:k7)(s:J2)(F:FT)(v7:Nat)(x:RX)(h:Hf)(hs:s.1.length≤1000000)(b:s.2.length=s.1.length){l:List PV}{r:By}(he:h0=SH t s F v7 x)(hr:r=h.r)
 (c:∀k,k<41→k≠33→hide.contains k=false) (h1:∀n∈hide,n∉ [3,5,6,7,36,37,39]) (d:∀n∈hide,n<1000000∨∃k,k∉ [3,5,6,7,36,37,39]∧((∃g o,y9 l vs (avO (n-1000000))=.ptr k g o)∨∃g f s i j,y9 l vs (avO (n-1000000))=.eptr k g f s i j))
 (m:∀a:RX,{a with c36:=x.c36,c37:=x.c37,c39:=x.c39}=x→Xr (fns Tryz.prog) xs ⟨l++[IN (R2 s h).1],I8 vs var (IN (R2 s h).1),SH t (R2 s h).2 F v7 a⟩ K):
 Xvh (fns Tryz.prog) hide (.fn (.func 92) [] []) [.ptr 5 1 0,.agg [.int .i64 h.x,.str ⟨⟨r⟩⟩]] var xs ⟨l,vs,h0⟩ K:=by
 subst hr;obtain⟨w0,x0,p,q,u,v⟩:=b3N t s F v7 x h hs b;refine c4W (h1:=SH t s F v7 x) (r:=IN (R2 s h).1) (fun h' w=>?_) q he (d0y u h1 d) (m x0 v);have e:=c8E 33 w c;rw[e];exact p {x with c33:=h'.getD 33 dd} rfl rfl rfl
end
def OV(k sz:Nat)(z tv:PV)(R:Row)(es:List PV):Prop:=(tv=z∧es=[])∨∃g,tv=.own k g es.length sz 0 es.length∧R=(g,.arr sz 0 false es)∧es≠ []
theorem b6p:∀l:List Nat,a0n (l.map UN)=some (cb l)
 | []=>rfl
 |c::l=>by have a:=b6p l;rw[a0s];simp only[a0n,a6R,a,if_true];rfl
theorem b1x{L:List J6}(h:L≠ []):SLQ L=.slc (L.map S3):=by
 cases L with
 |nil=>exact absurd rfl h
 |cons a l=>rfl
theorem b7D(L:List J6):∀x,x∈L.map S3→D9 x=true:=fun x a=>by obtain⟨i,_,rfl⟩:=G7.1 a;rfl
@[simp ↓] theorem d2U(L:List J6):(∀x,x∈L.map S3→D9 x=true)=True:=eq_true (b7D L)
@[simp ↓] theorem d2O(L:List J6):(L.map S3).all D9=true:=B5.2 (b7D L)
@[simp] theorem d4g(L:List J6):List.map (B6∘S3) L=L.map S3:=O1 fun _ _=>rfl
theorem d0B(s:J2)(h:Hf):s.2<+:(R2 s h).2.2∧(R2 s h).2.1.length≤s.1.length+1:=by
 unfold R2
 grind
theorem b9E(t:k7)(s:J2)(d:s.2.length=s.1.length):∀(A:List (Nat×Nat)) (st:J2×List J6),s.2<+:st.1.2→st.1.2.length=st.1.1.length→
 s.2<+:(A.foldl (W8 t) st).1.2∧(A.foldl (W8 t) st).1.2.length=(A.foldl (W8 t) st).1.1.length∧(A.foldl (W8 t) st).1.1.length≤st.1.1.length+A.length∧(A.foldl (W8 t) st).2.length≤st.2.length+A.length
 | [],st,h1,b=>⟨h1,b,p7 _,p7 _⟩
 |a::A,st,h1,b=>by
  have c:=d0B st.1 ⟨a.2,(cb (cls t a.1)).tail⟩;obtain⟨e,f,g,h⟩:=b9E t s d A (W8 t st a) (h1.trans c.1) (b5j b);refine⟨e,f,U3 g ?_,U3 h ?_⟩
  . rw[S9];have:=c.2;show(R2 st.1 ⟨a.2,(cb (cls t a.1)).tail⟩).2.1.length+_≤_;omega
  . rw[S9];unfold W8
    grind
structure RF where
 (k:Nat)
 (x:RX)
 (tv w5 w6 w7 w8 w14 w15 w16 w17 w18 w19:PV)
structure RG where
 (j:Nat)
 (tv:PV)
 (c31 c32:Row)
 (w7 w18:PV)
theorem c0Q(t:k7)(D:s7 t)(s:J2)(F:FT)(v7:Nat)(x:RX)(n:Nat)(h:Hf)(hs:s.1.length≤900000)(o:s.2.length=s.1.length)(p:s.1[n]?=some h)(W:h.x<(j8 t).length):
 ∃ws b d,FI Tryz.prog (.fn (.func 121) [] []) [.ptr 5 1 0,IN n] (SH t s F v7 x) (SLQ (L5 t s n).2) ws∧p8 (SH t s F v7 x) ws=SH t (L5 t s n).1 F d b∧b.l.take 22=x.l.take 22:=by
 obtain⟨P,an⟩:=C0.1 p;have ao:n<s.2.length:=j4;cases ap:s.2.getD n none with
 |some L=>
  have e:L5 t s n=(s,L):=by unfold L5;rw[ap]
  have w:s.2[n]=some L:=by grind
  rw[e];refine⟨[],x,v7,?_,rfl,rfl⟩;refine a3q mixed (X:=a1w) b4m (by rfl) (by simp[a1w]) k8 fun Q l H=>?_;cases L with
  |nil=>
   simp[a1w,SH,P,o,w];refine l _ _ ?_;simp[L3,a1w]
  |cons a L=>
   have h0:¬((L.length:Int)+1=0):=j4;simp[a1w,SH,P,o,w];refine l _ _ ?_;simp[L3,a1w]
 |none=>
  have e:L5 t s n=a9t t s n:=by unfold L5;rw[ap]
  have w:s.2[n]=none:=by grind
  rw[e];unfold a9t;rw[getD_some p];cases hr:h.r with
  |cons c r=>
   have Y:a1y t s h=((R2 s ⟨h.x,r⟩).2,[⟨c,[],(R2 s ⟨h.x,r⟩).1⟩]):=(by unfold a1y;rw[hr]);rw[Y];obtain⟨g,R⟩:=s8 (R2 s ⟨h.x,r⟩);rw[←R];have S:n<g.2.1.length∧n<g.2.2.length∧g.2.2[n]?=some none:=by
    rw[R];unfold R2;split
    . grind
    . grind
   have aH:g.2.2[n]'(S.2.1)=none:=(by grind);have key:∃r ws,(r=SLQ [⟨c,[],g.1⟩]∧∃d b,p8 (SH t s F v7 x) ws=SH t (g.2.1,g.2.2.set n (some [⟨c,[],g.1⟩])) F d b∧b.l.take 22=x.l.take 22)∧FI Tryz.prog (.fn (.func 121) [] []) [.ptr 5 1 0,IN n] (SH t s F v7 x) r ws:=by
    refine a7S (φ:=fun r h=>r=SLQ [⟨c,[],g.1⟩]∧∃d b,h=SH t (g.2.1,g.2.2.set n (some [⟨c,[],g.1⟩])) F d b∧b.l.take 22=x.l.take 22) mixed (X:=a1w) b4m (by rfl) (by simp[a1w]) k8 (by kernel_rfl) fun Q l H=>?_;have Z:s.1[n]=h:=an;have f1:(1:Int)≤(r.length:Int)+1:=j4;have f2:¬((r.length:Int)+1=0):=j4;simp[a1w,SH,w,P,o,Z,hr,f1,f2];refine get_at t s F v7 {x with c27:=(x.c27.1+1,.var [IN h.x,St (c::r)])} ⟨h.x,r⟩ j4 o rfl rfl (by grind) k8 (fun n p=>?_) fun b aa=>?_
    . simp only[H5]at p;subst p;exact .inr ⟨27,k8,.inl ⟨_,1,rfl⟩⟩
    have aI:b.l.take 22=x.l.take 22:=by have:=congrArg (fun z:RX=>z.l.take 22) aa;exact this
    rw[←R];obtain⟨S2,I⟩:=s8 (g.2.2.set n (some [⟨c,[],g.1⟩]));rw[←I]at l H;have v:(g.2.2.map OSQ).set n (.slc [.agg [.int .u8 c.toNat,St [],IN g.1]])=S2.map OSQ:=(by rw[I,L6];rfl);have aJ:g.2.2.length=g.2.1.length:=(by rw[R];exact b5j o);simp[SH,S.1,aH,aJ,v];refine l _ _ _ ⟨rfl,v7+1,b4X rfl rfl rfl rfl rfl rfl aI⟩ rfl ?_;simp[T8,a1w]
   obtain⟨r1,ws,⟨rfl,d,b,hu,ab⟩,ac⟩:=key;exact⟨ws,b,d,ac,hu,ab⟩
  |nil=>
   obtain⟨A,ad⟩:=s8 (G8 t h.x);have Y:a1y t s h=A.foldl (W8 t) (s,[]):=(by unfold a1y;rw[hr,ad]);rw[Y];have S:(gL (E3 t) t).length=(j8 t).length:=(by simp[gL]);have aK:(gL (E3 t) t)[h.x]'j4=A:=(by grind);obtain⟨E,aq⟩:=s8 (A.foldl (W8 t) (s,[]));rw[←aq];have key:∃r ws,(r=SLQ E.2∧∃d b,p8 (SH t s F v7 x) ws=SH t (E.1.1,E.1.2.set n (some E.2)) F d b∧b.l.take 22=x.l.take 22)∧FI Tryz.prog (.fn (.func 121) [] []) [.ptr 5 1 0,IN n] (SH t s F v7 x) r ws:=by
    refine a7S (φ:=fun r h=>r=SLQ E.2∧∃d b,h=SH t (E.1.1,E.1.2.set n (some E.2)) F d b∧b.l.take 22=x.l.take 22) mixed (X:=a1w) b4m (by rfl) (by simp[a1w]) k8 (by kernel_rfl) fun Q l H=>?_;have Z:s.1[n]=h:=an;simp[a1w,SH,w,P,o,Z,hr,S,W,aK];refine F5 (fun(y:RF) vs h=>y.k≤A.length∧y.x.l.take 22=x.l.take 22∧OV 35 3 .ne y.tv y.x.c35 (((A.take y.k).foldl (W8 t) (s,[])).2.map S3)∧
     vs=[.ptr 5 1 0,IN n,.nils,y.tv,.ptr 27 (x.c27.1+1) 0,y.w5,y.w6,y.w7,y.w8,.bool false,.bool false,.slc (A.map (AG t)),IN A.length,IN y.k,y.w14,y.w15,y.w16,y.w17,y.w18,y.w19]∧h=SH t ((A.take y.k).foldl (W8 t) (s,[])).1 F v7 y.x) (fun y=>A.length-y.k)
     ⟨0,{x with c27:=(x.c27.1+1,.var [IN h.x,St []])},.ne,.uu,.uu,.uu,.uu,.uu,.uu,.uu,.uu,.uu,.uu⟩ ⟨E0 _,rfl,.inl ⟨rfl,rfl⟩,rfl,rfl⟩ ?_
    rintro⟨k,q,tv,w5,w6,w7,w8,w14,w15,w16,w17,w18,w19⟩ vs h1 ⟨aL,T,f,rfl,rfl⟩ Q2 ae aM aX;dsimp only at aL f T;obtain⟨st,J⟩:=s8 ((A.take k).foldl (W8 t) (s,[]));rw[←J]at f⊢;obtain⟨af,K,ar,ag⟩:=b9E t s o (A.take k) (s,[]) (a5p _) o;rw[←J]at af K ar ag;have aY:(A.take k).length≤64:=by rw[a1V];have:=a6p D h.x;rw[←ad]at this;omega
    have aZ:A.length≤64:=(by rw[ad];exact a6p D h.x);dsimp only at ar ag;simp only[a6U]at ag;by_cases au:k<A.length
    . have ah:=wk1 k j4;obtain⟨a,av⟩:=s8 (A[k]);have aw:a∈G8 t h.x:=(by grind);obtain⟨_,_,a0,a1⟩:=a4B D W aw;obtain⟨C,U⟩:=s8 (cls t a.1);have ax:C.length=A0 t a.1:=(by rw[U];rfl);have u:(A.take (k+1)).foldl (W8 t) (s,[])=W8 t st a:=(by rw[a5B _ _ au,←J,av]);simp[au,←av,←U];refine F5 (fun(z:RG) vs h=>z.j≤C.length∧OV 32 1 .nils z.tv z.c32 ((C.take z.j).map UN)∧
       vs=[.ptr 5 1 0,IN n,.nils,tv,.ptr 27 (x.c27.1+1) 0,.ptr 30 (q.c30.1+1) 0,z.tv,z.w7,w8,.bool false,.bool false,.slc (A.map (AG t)),IN A.length,IN k,.bool true,CL C,IN C.length,IN z.j,z.w18,w19]∧
       h=SH t st.1 F v7 {q with c30:=(q.c30.1+1,.var [St (prt t a.1),CL C,IN a.2]),c31:=z.c31,c32:=z.c32}) (fun z=>C.length-z.j) ⟨0,.nils,q.c31,q.c32,_,_⟩ ⟨E0 _,.inl ⟨rfl,rfl⟩,rfl,rfl⟩ ?_
      rintro⟨j,aN,c31,c32,w7,w18⟩ vs h1 ⟨aO,z2,rfl,rfl⟩ Q3 ay aP a2;dsimp only at aO z2;by_cases hj:j<C.length
      . have az:=wk1 j j4;obtain⟨C1,aA⟩:=s8 (C.take j);obtain⟨C2,ai⟩:=s8 (C.take (j+1));rw[←aA]at z2;have aj:C1.map UN++[UN C[j]]=C2.map UN:=(by rw[ai,J5,l9 hj,←aA,S0];rfl);have M:C1.length+1=C2.length:=(by grind);have aB:C2.map UN≠ []:=fun e=>(by have:=congrArg List.length e;simp at this;rw[this]at M;simp at M);rcases z2 with⟨rfl,z2⟩|⟨g,rfl,rfl,z2⟩
        . have z3:C1=[]:=(by simpa using z2);have aQ:[UN C[j]]=C2.map UN:=(by grind);have aR:C2.length=1:=(by grind);have m:OV 32 1 .nils (.own 32 (c32.1+1) 1 1 0 1) (c32.1+1,.arr 1 0 false [UN C[j]]) ((C.take (j+1)).map UN):=by
           rw[←ai];exact .inr ⟨c32.1+1,by rw[O0,aR],by rw[aQ],aB⟩
          simp[hj,az];exact ay ⟨j+1,.own 32 (c32.1+1) 1 1 0 1,_,(c32.1+1,.arr 1 0 false [UN C[j]]),_,_⟩ _ _ (by grind) ⟨u7,m,rfl,rfl⟩
        . have m:OV 32 1 .nils (.own 32 g C2.length 1 0 C2.length) (g,.arr 1 0 false (C2.map UN)) ((C.take (j+1)).map UN):=by
           rw[←ai];exact .inr ⟨g,by rw[O0],rfl,aB⟩
          have hb:C2.length≤140737488355328:=(by grind);simp[hj,az,aj,M,hb];exact ay ⟨j+1,.own 32 g C2.length 1 0 C2.length,_,(g,.arr 1 0 false (C2.map UN)),_,_⟩ _ _ (by grind) ⟨u7,m,rfl,rfl⟩
      . obtain rfl:j=C.length:=j4;rw[K8]at z2;obtain⟨c0,Cr,aC⟩:∃c0 Cr,C=c0::Cr:=by
         cases aS:C with
         |nil=>rw[aS]at ax;simp at ax;omega
         |cons c0 Cr=>exact⟨c0,Cr,rfl⟩
        obtain⟨g,rfl,rfl⟩:∃g,aN=.own 32 g C.length 1 0 C.length∧c32=(g,.arr 1 0 false (C.map UN)):=by
         rcases z2 with⟨_,z2⟩|⟨g,z2,z3,_⟩
         . rw[aC]at z2;simp at z2
         . grind
        subst aC;have aT:c0<256:=by
         obtain⟨aD,_,_,_⟩:=a4B D W aw;have hm:c0∈t.rules[a.1].cells:=by have:cls t a.1=t.rules[a.1].cells:=(by unfold cls;rw[B0,l9 aD];rfl);rw[←this,←U];exact a3x
         have:=b3f D (C4 aD) hm;omega
        obtain⟨c,rfl⟩:∃c:UInt8,c0=c.toNat:=⟨UInt8.ofNat c0,(ofNat_toNat aT).symm⟩
        have f5:(1:Int)≤(Cr.length:Int)+1:=j4;have f6:1+Cr.length≤Cr.length+1:=j4;have aU:cb (cls t a.1)=c::cb Cr:=(by rw[←U];simp[cb]);obtain⟨G,ak⟩:=s8 (R2 st.1 ⟨a.2,cb Cr⟩);obtain⟨e,he⟩:∃e:J6,e=⟨c,prt t a.1,G.1⟩:=⟨_,rfl⟩
        have a3:G.2.2.length=G.2.1.length:=(by rw[ak];exact b5j K);have aV:W8 t st a=(G.2,if e∈st.2 then st.2 else st.2++[e]):=(by unfold W8 arE;rw[aU,he,ak];rfl);rw[aV]at u;have N:=d0O st.2 e j4;rw[he]at N;simp;refine aP _ _ _ ?_;simp[SH,b6p,f5,f6];refine get_at t st.1 F v7 {q with c30:=(q.c30.1+1,.var [St (prt t a.1),CL (c.toNat::Cr),IN a.2]),c31:=c31,c32:=(g,.arr 1 0 false ((c.toNat::Cr).map UN))} ⟨a.2,cb Cr⟩ j4 K rfl rfl (by grind) k8 (fun n p=>?_) fun b aa=>?_
        . simp only[Y8,List.not_mem_nil,or_false]at p;rcases p with rfl|rfl|rfl
          . exact .inl j4
          . exact .inr ⟨32,k8,.inr ⟨_,_,_,_,_,rfl⟩⟩
          . exact .inr ⟨30,k8,.inl ⟨_,_,rfl⟩⟩
        have al:b.l.take 22=x.l.take 22:=by have:=congrArg (fun z:RX=>z.l.take 22) aa;exact Eq.trans this T
        have aE:b.c35=q.c35:=(by grind);rw[←ak];rcases f with⟨rfl,f⟩|⟨i,rfl,V,f⟩
        . have B:st.2=[]:=(by simpa using f);rw[B]at N u;have m:OV 35 3 .ne (.own 35 (b.c35.1+1) 1 3 0 1) (b.c35.1+1,.arr 3 0 false [S3 e]) (((A.take (k+1)).foldl (W8 t) (s,[])).2.map S3):=by
           rw[u];exact .inr ⟨b.c35.1+1,rfl,rfl,k8⟩
          rw[he]at m;simp[SH];refine l8 N ?_;simp[ah];refine ae ⟨k+1,{b with c33:=(b.c33.1+1,.var [.int .u8 c.toNat,St (prt t a.1),IN G.1]),c34:=(b.c34.1+1,.dead),c35:=(b.c35.1+1,.arr 3 0 false [S3 ⟨c,prt t a.1,G.1⟩])},.own 35 (b.c35.1+1) 1 3 0 1,_,_,_,_,_,_,_,_,_,_⟩ _ _ (by grind) ⟨u7,al,m,rfl,?_⟩;dsimp only;rw[u]
        . rw[O0]at*;by_cases hm:e∈st.2
          . have m:OV 35 3 .ne (.own 35 i st.2.length 3 0 st.2.length) (i,.arr 3 0 false (st.2.map S3)) (((A.take (k+1)).foldl (W8 t) (s,[])).2.map S3):=by
             rw[u,if_pos hm];exact .inr ⟨i,by rw[O0],rfl,f⟩
            have O:=hm;rw[he]at O;simp[SH,aE,V];refine l8 N ?_;simp[ah,O];refine ae ⟨k+1,{b with c33:=(b.c33.1+1,.var [.int .u8 c.toNat,St (prt t a.1),IN G.1]),c35:=(i,.arr 3 0 false (st.2.map S3))},.own 35 i st.2.length 3 0 st.2.length,_,_,_,_,_,_,_,_,_,_⟩ _ _ (by grind) ⟨u7,al,m,rfl,?_⟩;dsimp only;rw[u]
          . obtain⟨L2,am⟩:=s8 (st.2++[e]);have m:OV 35 3 .ne (.own 35 i L2.length 3 0 L2.length) (i,.arr 3 0 false (L2.map S3)) (((A.take (k+1)).foldl (W8 t) (s,[])).2.map S3):=by
             rw[u,if_neg hm,←am];exact .inr ⟨i,by rw[O0],rfl,by rw[am];simp⟩
            have O:=hm;rw[he]at O;have aj:st.2.map S3++[.agg [.int .u8 c.toNat,St (prt t a.1),IN G.1]]=L2.map S3:=(by grind);have M:st.2.length+1=L2.length:=(by rw[am];simp);have hb:L2.length*32≤140737488355328:=j4;simp[SH,aE,V];refine l8 N ?_;simp[ah,O,aj,M,hb];refine ae ⟨k+1,{b with c33:=(b.c33.1+1,.var [.int .u8 c.toNat,St (prt t a.1),IN G.1]),c34:=(b.c34.1+1,.dead),c35:=(i,.arr 3 0 false (L2.map S3))},.own 35 i L2.length 3 0 L2.length,_,_,_,_,_,_,_,_,_,_⟩ _ _ (by grind) ⟨u7,al,m,rfl,?_⟩;dsimp only;rw[u]
    . obtain rfl:k=A.length:=j4;rw[K8,←aq]at J;subst J;obtain⟨S2,I⟩:=s8 (st.1.2.set n (some st.2));rw[←I]at l H;have aW:n<st.1.2.length:=a9I ao af.length_le;have aF:n<st.1.1.length:=j4;have aG:st.1.2[n]=none:=by
       have:=a0e af (by rw[l9 ao]:s.2[n]?=some s.2[n]);rw[l9 aW,w]at this;exact U4 this
      have v:(st.1.2.map OSQ).set n (SLQ st.2)=S2.map OSQ:=(by rw[I,L6];rfl);simp;refine aM _ _ _ ?_;rcases f with⟨rfl,f⟩|⟨i,rfl,V,f⟩
      . have B:st.2=[]:=(by simpa using f);rw[B]at v l H;simp only[c3M]at v;simp[SH,aF,K,aG,v];refine l _ _ _ ⟨rfl,v7+1,b4X rfl rfl rfl rfl rfl rfl T⟩ rfl ?_;simp[T8,a1w]
      . have B:st.2≠ []:=fun e=>f (by rw[e];rfl);rw[b1x B]at v;simp[SH,V,aF,K,aG,v];refine l _ _ _ ⟨(b1x B).symm,v7+1,b4X rfl rfl rfl rfl rfl rfl T⟩ rfl ?_;simp[T8,a1w]
   obtain⟨r1,ws,⟨rfl,d,b,hu,ab⟩,ac⟩:=key;exact⟨ws,b,d,ac,hu,ab⟩
@[simp] theorem d3j(a b:Nat)(F:FT):a0q (.agg [.int .i64 a,.int .i64 b]) (FKQ F) 0=some (@List.idxOf? (Nat×Nat) instBEqOfDecidableEq (a,b) (F.map (·.1))):=c9j a b _
theorem b1h{a α:Type} [DecidableEq a]{F:List (a×List α)}{k:a}{l:α}(h:(F.map (·.1)).idxOf? k=none):Y7 F k l=F++[(k,[l])]∧D4 F k=[]:=by unfold Y7 D4;rw[h];exact⟨rfl,rfl⟩
theorem a9u{a α:Type} [DecidableEq a]{F:List (a×List α)}{k:a}{l:α}{i:Nat}(h:(F.map (·.1)).idxOf? k=some i):∃hi:i<F.length,F[i]=(k,D4 F k)∧Y7 F k l=F.set i (k,D4 F k++[l]):=by
 have h1:=b9d h;rw[O0]at h1;have b:F[i].1=k:=by
  rw[List.idxOf?,a1W]at h
  grind
 have c:D4 F k=F[i].2:=by unfold D4;rw[h];simp only;rw[l9 h1]
 refine⟨h1,by rw[c,←b],?_⟩;unfold Y7;rw[h]
theorem d1Z{F:FT}{i:Nat}{k:Nat×Nat}{ls:List Ld}(hi:i<F.length)(h:F[i].1=k):FKQ (F.set i (k,ls))=FKQ F:=by
 unfold FKQ;rw[L6];congr 1;show(F.map (·.1)).set i k=_;apply a0z k8
 grind
@[simp] theorem d4p{k g o s l:Nat}:isStr (.vsl k g o s l)=false:=rfl
theorem a4m{t:k7}{s:J2}{F:FT}{v7:Nat}{h:Heap}{L:List Row}(a:h.length=41)(b:h[3]?=some (1,.mp false (s.1.map HfQ) ((List.range s.1.length).map IN)))(c:h[4]?=some (1,.mp false (FKQ F) (F.map SeQ)))(d:h[5]?=some (1,.var (SVQ t s.1.length)))(e:h[6]?=some (1,.arr 2 0 false (s.1.map HfQ)))(f:h[7]?=some (1,.arr 1 v7 false (s.2.map OSQ)))(g:a0j (h.take 3++h.drop 8)=L):∃x,h=SH t s F v7 x∧a0j x.l=L:=a6z a b c d e f g
theorem ww1:IntKind.i64.wrap 1=1:=T3
theorem ww2:IntKind.i64.wrap 2=2:=T3
theorem b4F(t:k7)(s:J2)(F:FT)(v7:Nat)(x:RX)(n:Nd)(N:∀e∈F,e.2.length≤2):
 ∃ws j,FI Tryz.prog (.fn (.func 93) [] []) [.ptr 5 1 0,NQ n] (SH t s F v7 x) (B (Y2 F n).1) ws∧p8 (SH t s F v7 x) ws=SH t s (Y2 F n).2 v7 j∧a0j j.l=a0j x.l:=by
 obtain⟨a,b,l⟩:=n;obtain⟨ls,A⟩:=s8 (D4 F (a,b));have O:ls.length≤2:=by
  rcases a8S (k:=(a,b)) (F:=F)with e|e
  . rw[A,e];simp
  . rw[A];exact N _ e
 have key:∃r ws,(r=B (Y2 F ⟨a,b,l⟩).1∧∃j,p8 (SH t s F v7 x) ws=SH t s (Y2 F ⟨a,b,l⟩).2 v7 j∧a0j j.l=a0j x.l)∧FI Tryz.prog (.fn (.func 93) [] []) [.ptr 5 1 0,NQ ⟨a,b,l⟩] (SH t s F v7 x) r ws:=by
  refine a7S (φ:=fun r h=>r=B (Y2 F ⟨a,b,l⟩).1∧∃j,h=SH t s (Y2 F ⟨a,b,l⟩).2 v7 j∧a0j j.l=a0j x.l) mixed (X:=X93) c93 (by rfl) (by simp[X93]) k8 (by kernel_rfl) fun Q d D=>?_;unfold Y2 at d D;dsimp only[Nd.k]at d D;rw[←A]at d D;cases m:@List.idxOf? (Nat×Nat) instBEqOfDecidableEq (a,b) (F.map (·.1))with
  |none=>
   obtain⟨P,R⟩:=b1h (l:=l) m;rw[R]at A;subst A;rw[P]at d D;have hb:O9 [] l=false:=rfl;obtain⟨F2,p⟩:=s8 (F++[((a,b),[l])]);rw[←p]at d;have I:FKQ F++[.agg [IN a,IN b]]=FKQ F2:=(by rw[p];unfold FKQ;rw[S0,S0];rfl);have E:F.map SeQ++[.agg [.int .i64 1,IN l.s,St l.x,IN 0,St []]]=F2.map SeQ:=(by rw[p,S0];rfl);simp[X93,SH,a3W,m,zLd];refine F5 (fun(y:Nat×Row×PV×PV×PV) vs h=>y.1≤0∧(([]:List Ld).take y.1).any (fun k=>k==l||k.s==3)=false∧vs=[.ptr 5 1 0,NQ ⟨a,b,l⟩,.ptr 20 (x.N9.1+1) 0,.bool false,.ptr 21 (x.O3.1+1) 0,y.2.2.1,.vsl 21 (x.O3.1+1) 1 2 0,IN 0,IN y.1,y.2.2.2.1,y.2.2.2.2,.uu]∧h=SH t s F v7 {x with N9:=(x.N9.1+1,.var [IN a,IN b,IN l.s,St l.x]),O3:=(x.O3.1+1,.var [IN 0,IN (zLd).s,St (zLd).x,IN (zLd).s,St (zLd).x]),c22:=y.2.1}) (fun y=>0-y.1) (0,x.c22,_,_,_) ⟨E0 _,rfl,rfl,rfl⟩ ?_;rintro⟨k,c22,w5,w9,w10⟩ vs h1 ⟨w,q,rfl,rfl⟩ Q2 C z o;dsimp only at w q;obtain rfl:k=0:=j4;have f:O9 [] l=false:=(by unfold O9;simp);rw[f]at d;simp only[a4c,if_false]at d;simp[SH];refine z _ _ _ ?_;simp[m,I,E,a3W,zLd,ww1,ww2];refine d _ _ _ ⟨rfl,a4m rfl rfl rfl rfl rfl rfl rfl⟩ rfl ?_;simp[T8,X93]
  |some i=>
   obtain⟨hi,G,K⟩:=a9u (l:=l) m;rw[←A]at G K;rw[K]at d D;obtain⟨F2,p⟩:=s8 (F.set i ((a,b),ls++[l]));rw[←p]at d;have I:FKQ F2=FKQ F:=by rw[p];exact d1Z hi (by rw[G])
   match ls,O with
   | [],_=>
    have E:(F.map SeQ).set i (.agg [.int .i64 1,IN l.s,St l.x,IN 0,St []])=F2.map SeQ:=(by rw[p,L6];rfl);simp[X93,SH,a3W,m,hi,G,zLd];refine F5 (fun(y:Nat×Row×PV×PV×PV) vs h=>y.1≤0∧(([]:List Ld).take y.1).any (fun k=>k==l||k.s==3)=false∧vs=[.ptr 5 1 0,NQ ⟨a,b,l⟩,.ptr 20 (x.N9.1+1) 0,.bool false,.ptr 21 (x.O3.1+1) 0,y.2.2.1,.vsl 21 (x.O3.1+1) 1 2 0,IN 0,IN y.1,y.2.2.2.1,y.2.2.2.2,.uu]∧h=SH t s F v7 {x with N9:=(x.N9.1+1,.var [IN a,IN b,IN l.s,St l.x]),O3:=(x.O3.1+1,.var [IN 0,IN (zLd).s,St (zLd).x,IN (zLd).s,St (zLd).x]),c22:=y.2.1}) (fun y=>0-y.1) (0,x.c22,_,_,_) ⟨E0 _,rfl,rfl,rfl⟩ ?_;rintro⟨k,c22,w5,w9,w10⟩ vs h1 ⟨w,q,rfl,rfl⟩ Q2 C z o;dsimp only at w q;obtain rfl:k=0:=j4;have f:O9 [] l=false:=(by unfold O9;simp);rw[f]at d;simp only[a4c,if_false]at d;simp[SH];refine z _ _ _ ?_;simp[m,hi,E,a3W,zLd,ww1,ww2];refine d _ _ _ ⟨rfl,a4m rfl rfl (by rw[I];rfl) rfl rfl rfl rfl⟩ rfl ?_;simp[T8,X93]
   | [c],_=>
    have E:(F.map SeQ).set i (.agg [.int .i64 2,IN c.s,St c.x,IN l.s,St l.x])=F2.map SeQ:=(by rw[p,L6];rfl);simp[X93,SH,a3W,m,hi,G,zLd];refine F5 (fun(y:Nat×Row×PV×PV×PV) vs h=>y.1≤1∧(([c]:List Ld).take y.1).any (fun k=>k==l||k.s==3)=false∧vs=[.ptr 5 1 0,NQ ⟨a,b,l⟩,.ptr 20 (x.N9.1+1) 0,.bool false,.ptr 21 (x.O3.1+1) 0,y.2.2.1,.vsl 21 (x.O3.1+1) 1 2 1,IN 1,IN y.1,y.2.2.2.1,y.2.2.2.2,.uu]∧h=SH t s F v7 {x with N9:=(x.N9.1+1,.var [IN a,IN b,IN l.s,St l.x]),O3:=(x.O3.1+1,.var [IN 1,IN (c).s,St (c).x,IN (zLd).s,St (zLd).x]),c22:=y.2.1}) (fun y=>1-y.1) (0,x.c22,_,_,_) ⟨E0 _,rfl,rfl,rfl⟩ ?_;rintro⟨k,c22,w5,w9,w10⟩ vs h1 ⟨w,q,rfl,rfl⟩ Q2 C z o;dsimp only at w q;by_cases J:k=0
    . subst J;by_cases he:(c).s=l.s∧(c).x=l.x
      . have f:O9 [c] l=true:=by
         have:c=l:=(by cases h0:c;rw[h0]at he;cases l;simp only at he;rw[he.1,he.2]);unfold O9;simp[this]
        rw[f]at d;simp only[if_true]at d;simp[SH,he.1,he.2];refine o _ _ ?_;refine d _ _ _ ⟨rfl,a4m rfl rfl rfl rfl rfl rfl rfl⟩ rfl ?_;simp[T8,X93]
      . have u:(decide ((c).s=l.s)&&(c).x==l.x)=false:=by
         rw[Bool.eq_false_iff];intro h;simp only[E7,decide_eq_true_eq,beq_iff_eq]at h;exact he h
        have L:(c==l)=false:=(by grind);by_cases g:(c).s=3
        . have f:O9 [c] l=true:=(by unfold O9;simp[g]);rw[f]at d;simp only[if_true]at d;have v:=u;rw[g]at v;simp[SH,v,g];refine o _ _ ?_;refine d _ _ _ ⟨rfl,a4m rfl rfl rfl rfl rfl rfl rfl⟩ rfl ?_;simp[T8,X93]
        . have M:((c).s==3)=false:=(by simp[g]);have H:(([c]:List Ld).take 1).any (fun k=>k==l||k.s==3)=false:=(by grind);simp[SH,u,g];exact C (1,_,_,_,_) _ _ j4 ⟨u7,H,rfl,rfl⟩
    obtain rfl:k=1:=j4;have f:O9 [c] l=false:=(by unfold O9;simpa using q);rw[f]at d;simp only[a4c,if_false]at d;simp[SH];refine z _ _ _ ?_;simp[m,hi,E,a3W,zLd,ww1,ww2];refine d _ _ _ ⟨rfl,a4m rfl rfl (by rw[I];rfl) rfl rfl rfl rfl⟩ rfl ?_;simp[T8,X93]
   | [c,l1],_=>
    simp[X93,SH,a3W,m,hi,G,zLd];refine F5 (fun(y:Nat×Row×PV×PV×PV) vs h=>y.1≤2∧(([c,l1]:List Ld).take y.1).any (fun k=>k==l||k.s==3)=false∧vs=[.ptr 5 1 0,NQ ⟨a,b,l⟩,.ptr 20 (x.N9.1+1) 0,.bool false,.ptr 21 (x.O3.1+1) 0,y.2.2.1,.vsl 21 (x.O3.1+1) 1 2 2,IN 2,IN y.1,y.2.2.2.1,y.2.2.2.2,.uu]∧h=SH t s F v7 {x with N9:=(x.N9.1+1,.var [IN a,IN b,IN l.s,St l.x]),O3:=(x.O3.1+1,.var [IN 2,IN (c).s,St (c).x,IN (l1).s,St (l1).x]),c22:=y.2.1}) (fun y=>2-y.1) (0,x.c22,_,_,_) ⟨E0 _,rfl,rfl,rfl⟩ ?_;rintro⟨k,c22,w5,w9,w10⟩ vs h1 ⟨w,q,rfl,rfl⟩ Q2 C z o;dsimp only at w q;by_cases J:k=0
    . subst J;by_cases he:(c).s=l.s∧(c).x=l.x
      . have f:O9 [c,l1] l=true:=by
         have:c=l:=(by cases h0:c;rw[h0]at he;cases l;simp only at he;rw[he.1,he.2]);unfold O9;simp[this]
        rw[f]at d;simp only[if_true]at d;simp[SH,he.1,he.2];refine o _ _ ?_;refine d _ _ _ ⟨rfl,a4m rfl rfl rfl rfl rfl rfl rfl⟩ rfl ?_;simp[T8,X93]
      . have u:(decide ((c).s=l.s)&&(c).x==l.x)=false:=by
         rw[Bool.eq_false_iff];intro h;simp only[E7,decide_eq_true_eq,beq_iff_eq]at h;exact he h
        have L:(c==l)=false:=(by grind);by_cases g:(c).s=3
        . have f:O9 [c,l1] l=true:=(by unfold O9;simp[g]);rw[f]at d;simp only[if_true]at d;have v:=u;rw[g]at v;simp[SH,v,g];refine o _ _ ?_;refine d _ _ _ ⟨rfl,a4m rfl rfl rfl rfl rfl rfl rfl⟩ rfl ?_;simp[T8,X93]
        . have M:((c).s==3)=false:=(by simp[g]);have H:(([c,l1]:List Ld).take 1).any (fun k=>k==l||k.s==3)=false:=(by grind);simp[SH,u,g];exact C (1,_,_,_,_) _ _ j4 ⟨u7,H,rfl,rfl⟩
    by_cases S:k=1
    . subst S;by_cases he:(l1).s=l.s∧(l1).x=l.x
      . have f:O9 [c,l1] l=true:=by
         have:l1=l:=(by cases h0:l1;rw[h0]at he;cases l;simp only at he;rw[he.1,he.2]);unfold O9;simp[this]
        rw[f]at d;simp only[if_true]at d;simp[SH,he.1,he.2];refine o _ _ ?_;refine d _ _ _ ⟨rfl,a4m rfl rfl rfl rfl rfl rfl rfl⟩ rfl ?_;simp[T8,X93]
      . have u:(decide ((l1).s=l.s)&&(l1).x==l.x)=false:=by
         rw[Bool.eq_false_iff];intro h;simp only[E7,decide_eq_true_eq,beq_iff_eq]at h;exact he h
        have L:(l1==l)=false:=(by grind);by_cases g:(l1).s=3
        . have f:O9 [c,l1] l=true:=(by unfold O9;simp[g]);rw[f]at d;simp only[if_true]at d;have v:=u;rw[g]at v;simp[SH,v,g];refine o _ _ ?_;refine d _ _ _ ⟨rfl,a4m rfl rfl rfl rfl rfl rfl rfl⟩ rfl ?_;simp[T8,X93]
        . have M:((l1).s==3)=false:=(by simp[g]);have H:(([c,l1]:List Ld).take 2).any (fun k=>k==l||k.s==3)=false:=(by grind);simp[SH,u,g];exact C (2,_,_,_,_) _ _ j4 ⟨u7,H,rfl,rfl⟩
    obtain rfl:k=2:=j4;have f:O9 [c,l1] l=true:=(by unfold O9;simp);rw[f]at d;simp only[if_true]at d;simp[SH];refine z _ _ _ ?_;simp;refine d _ _ _ ⟨rfl,a4m rfl rfl rfl rfl rfl rfl rfl⟩ rfl ?_;simp[T8,X93]
 obtain⟨r1,ws,⟨rfl,j,hu,T⟩,U⟩:=key;exact⟨ws,j,U,hu,T⟩
theorem b9a(t:k7)(s:J2)(F:FT)(v7:Nat)(x:RX)(n:Nd)(g hb:Hf)(C:s.1[n.a]?=some g)(D:s.1[n.b]?=some hb)(w:g.x<(j8 t).length)(A:hb.x<(j8 t).length):
 ∃(c:Bool) (ws:List (Nat×Row)) (i:RX),(c=true↔Cls t s.1 n)∧FI Tryz.prog (.fn (.func 95) [] []) [.ptr 5 1 0,NQ n] (SH t s F v7 x) (B c) ws∧p8 (SH t s F v7 x) ws=SH t s F v7 i∧a0j i.l=a0j x.l:=by
 obtain⟨j,k⟩:=C0.1 C;obtain⟨m,o⟩:=C0.1 D;have E:(S5 t).length=(j8 t).length:=by simp[S5]
 have acc:∀y,(H:y<(j8 t).length)→(S5 t)[y]'j4=B8 t ((j8 t).getD y D5):=fun y H=>by simp only[S5,a0V];rw[B0,l9 H];rfl
 have p:Cls t s.1 n↔n.l.s≠0∧HE t g∧HE t hb:=by
  constructor
  . rintro⟨h1,N,O,d,f,q,u⟩;rw[C]at d;cases d;rw[D]at f;cases f;exact⟨h1,q,u⟩
  . rintro⟨h1,d,f⟩;exact⟨h1,g,hb,C,D,d,f⟩
 have key:∃r ws,(∃c:Bool,r=B c∧(c=true↔Cls t s.1 n)∧∃i,p8 (SH t s F v7 x) ws=SH t s F v7 i∧a0j i.l=a0j x.l)∧FI Tryz.prog (.fn (.func 95) [] []) [.ptr 5 1 0,NQ n] (SH t s F v7 x) r ws:=by
  refine a7S (φ:=fun r h=>∃c:Bool,r=B c∧(c=true↔Cls t s.1 n)∧∃i,h=SH t s F v7 i∧a0j i.l=a0j x.l) mixed (X:=X95) c95 (by rfl) (by simp[X95]) k8 (by kernel_rfl) fun Q v P=>?_;obtain⟨a,b,l⟩:=n;dsimp only at j m k o;by_cases h1:l.s=0
  . simp[X95,SH,j,m,k,o,h1];refine v _ _ _ ⟨false,rfl,by simp[p,h1],a6z rfl rfl rfl rfl rfl rfl rfl⟩ rfl ?_;simp[T8,X95]
  . by_cases d:g.r=[]
    . by_cases f:hb.r=[]
      . cases q:B8 t ((j8 t).getD g.x D5)with
        |false=>
         have e:=acc g.x w;rw[q]at e;simp[X95,SH,j,m,k,o,h1,d,f,E,w,e];refine v _ _ _ ⟨false,rfl,?_,a6z rfl rfl rfl rfl rfl rfl rfl⟩ rfl ?_
         . rw[p];unfold HE;rw[q];simp
         simp[T8,X95]
        |true=>
         have e:=acc g.x w;rw[q]at e;cases u:B8 t ((j8 t).getD hb.x D5)with
         |false=>
          have z:=acc hb.x A;rw[u]at z;simp[X95,SH,j,m,k,o,h1,d,f,E,w,A,e,z];refine v _ _ _ ⟨false,rfl,?_,a6z rfl rfl rfl rfl rfl rfl rfl⟩ rfl ?_
          . rw[p];unfold HE;rw[u];simp
          simp[T8,X95]
         |true=>
          have z:=acc hb.x A;rw[u]at z;simp[X95,SH,j,m,k,o,h1,d,f,E,w,A,e,z];refine v _ _ _ ⟨true,rfl,?_,a6z rfl rfl rfl rfl rfl rfl rfl⟩ rfl ?_
          . rw[p];unfold HE;rw[q,u];simp[h1,d,f]
          simp[T8,X95]
      . have I:hb.r.isEmpty=false:=by cases G:hb.r with|nil=>exact absurd G f|cons=>rfl
        simp[X95,SH,j,m,k,o,h1,d,I];refine v _ _ _ ⟨false,rfl,?_,a6z rfl rfl rfl rfl rfl rfl rfl⟩ rfl ?_
        . rw[p];unfold HE;simp[f]
        simp[T8,X95]
    . have J:g.r.isEmpty=false:=by cases G:g.r with|nil=>exact absurd G d|cons=>rfl
      simp[X95,SH,j,m,k,o,h1,J];refine v _ _ _ ⟨false,rfl,?_,a6z rfl rfl rfl rfl rfl rfl rfl⟩ rfl ?_
      . rw[p];unfold HE;simp[d]
      simp[T8,X95]
 obtain⟨r1,ws,⟨c,rfl,K,i,hu,L⟩,M⟩:=key;exact⟨c,ws,i,K,M,hu,L⟩
def BKQ(B:BM):List PV:=(B.map (·.1)).map UB
def BVQ(B:BM):List PV:=B.map fun e=>.uslc (e.2.map NQ)
@[simp] theorem d4l(c:UInt8)(B:BM):a0q (.int .u8 c.toNat) (BKQ B) 0=some ((B.map (·.1)).idxOf? c):=by have:=a7B c8R c (B.map (·.1)) 0;unfold BKQ;simpa using this
@[simp] theorem d2a(B:BM):(BVQ B).length=B.length:=by simp[BVQ]
def Z5(M:Nat)(B:BM):Prop:=∀e∈B,e.2≠ []∧e.2.length≤M
theorem Z5.put{M:Nat}{B:BM}(h:Z5 M B)(c:UInt8)(m:Nd):Z5 (M+1) (Y7 B c m):=fun e he=>by
 rcases b0r he with he|rfl
 . obtain⟨h1,a⟩:=h e he;exact⟨h1,j4⟩
 . refine⟨k8,?_⟩;rw[Z9,b2g];rcases a8S (k:=c) (F:=B)with e|e
   . rw[e];simp
   . have:=(h _ e).2;simp only at this;omega
theorem Z5.up{M M':Nat}{B:BM}(h:Z5 M B)(a:M≤M'):Z5 M' B:=fun e he=>⟨(h e he).1,U3 (h e he).2 a⟩
theorem Z5.a0y{M:Nat}{B:BM}(h:Z5 M B)(l:Ld)(X y:J6):Z5 (M+1) (T.a0y l X B y):=by
 unfold T.a0y;split
 . exact h.put _ _
 . exact h.up (Nat.le_succ _)
theorem Z5.b3r{l:Ld}{X:J6}:∀{L:List J6} {M:Nat} {B:BM},Z5 M B→Z5 (M+L.length) (L.foldl (T.a0y l X) B)
 | [],_,_,h=>h
 |y::L,M,B,h=>by
  have:=Z5.b3r (l:=l) (X:=X) (L:=L) (h.a0y l X y)
  grind
theorem Z5.b2S{l:Ld}{Lb:List J6}:∀{La:List J6} {M:Nat} {B:BM},Z5 M B→Z5 (M+La.length*Lb.length) (La.foldl (a1S l Lb) B)
 | [],_,_,h=>by simpa using h
 |y::La,M,B,h=>by
  have h1:Z5 (M+Lb.length) (a1S l Lb B y):=h.b3r;have:=Z5.b2S (l:=l) (Lb:=Lb) (La:=La) h1
  grind
theorem d0l{B:BM}{c:UInt8}{m:Nd}:(∀{i},(B.map (·.1)).idxOf? c=some i→BKQ (Y7 B c m)=BKQ B∧BVQ (Y7 B c m)=(BVQ B).set i (.uslc ((D4 B c++[m]).map NQ))∧i<B.length∧(BVQ B)[i]?=some (.uslc ((D4 B c).map NQ))∧(c,D4 B c)∈B)∧
 ((B.map (·.1)).idxOf? c=none→BKQ (Y7 B c m)=BKQ B++[UB c]∧BVQ (Y7 B c m)=BVQ B++[.uslc [NQ m]]):=by
 constructor
 . intro i a;obtain⟨hi,h1,b⟩:=a9u (l:=m) a;rw[b];refine⟨?_,?_,hi,?_,?_⟩
   . unfold BKQ;congr 1;rw[L6];apply a0z k8;intro j g1 g2;rw[a4k];split
     . rename_i e;subst e;simp[h1]
     . rfl
   . unfold BVQ;rw[L6]
   . unfold BVQ;rw[H6,l9 hi,h1];rfl
   . rw[←h1];exact C4 hi
 . intro a;obtain⟨h1,_⟩:=b1h (l:=m) a;rw[h1];unfold BKQ BVQ;simp
theorem c2X(L:List Nd):∀x,x∈L.map NQ→D9 x=true:=fun x a=>by obtain⟨i,_,rfl⟩:=G7.1 a;rfl
@[simp ↓] theorem d2k(L:List Nd):(L.map NQ).all D9=true:=B5.2 (c2X L)
@[simp] theorem d2y(L:List Nd):List.map (B6∘NQ) L=L.map NQ:=O1 fun _ _=>rfl
theorem c7x(L:List Nd):a3w 4 (L.map NQ)=true:=B5.2 fun x a=>by obtain⟨i,_,rfl⟩:=G7.1 a;rfl
theorem Stp.B7{t:k7}(b:s7 t){h h':Hf}{c:UInt8}{p:By}(hs:Stp t h c p h'):p.length≤4:=by
 rcases hs with⟨_,rfl,_⟩|⟨_,a,_,_,rfl,_⟩
 . simp
 . exact b2K b _
structure RH where
 (k:Nat)
 (x:RX)
 (v7:Nat)
 (w4 w5 w6 w10 w11 w12 w13 w14 w15:PV)
abbrev BR(B:BM):Row:=(1,.mp false (BKQ B) (BVQ B))
theorem b8L(t:k7)(f:s7 t)(I:Sm t)(s:J2)(hi:HSI t s)(F:FT)(v7:Nat)(x:RX)(n:Nd)(w:By)(ba:NS t s.1 w n)(B:BM)(bb:Z5 2000000000000 B)(aB:x.K3=BR B)(bc:x.c24.2=.dead)(bd:n.l.x.length≤1000000000000):
 ∃(ws:List (Nat×Row)) (a:RX) (o:Nat),FI Tryz.prog (.fn (.func 94) [] []) [.ptr 5 1 0,NQ n,.mapv 11 1] (SH t s F v7 x) (.tup []) ws∧p8 (SH t s F v7 x) ws=SH t (a0C t s B n).1 F o a∧a.K3=BR (a0C t s B n).2∧{a with K3:=x.K3}.l.take 15=x.l.take 15∧a.c24.2=.dead:=by
 have key:∃r ws,(r=.tup []∧∃a o,p8 (SH t s F v7 x) ws=SH t (a0C t s B n).1 F o a∧a.K3=BR (a0C t s B n).2∧{a with K3:=x.K3}.l.take 15=x.l.take 15∧a.c24.2=.dead)∧FI Tryz.prog (.fn (.func 94) [] []) [.ptr 5 1 0,NQ n,.mapv 11 1] (SH t s F v7 x) r ws:=by
  refine a7S (φ:=fun r h=>r=.tup []∧∃a o,h=SH t (a0C t s B n).1 F o a∧a.K3=BR (a0C t s B n).2∧{a with K3:=x.K3}.l.take 15=x.l.take 15∧a.c24.2=.dead) mixed (X:=X94) c94 (by rfl) (first:=[]) (cap:=[]) (args:=[.ptr 5 1 0,NQ n,.mapv 11 1]) (h0:=SH t s F v7 x) (by simp[X94]) k8 (by kernel_rfl) fun Q J p=>?_;obtain⟨u,v,aC,hb,Z,aa,bz,bA,aD⟩:=id ba;have bB:=a4v f I hi.nd hi.hb;obtain⟨a1,a2,a3,a4,a5⟩:=a7j f I hi Z;have aE:=a4v f I a1.nd a1.hb;obtain⟨K,ab,P,ac,R⟩:=a7j f I a1 (a0e a2 aa);have ad:=a4v f I K.nd K.hb;simp[X94,SH];obtain⟨bC,ae,v1,aF,aG,aH⟩:=c0Q t f s F v7 {x with N9:=(x.N9.1+1,.var [IN n.a,IN n.b,IN n.l.s,St n.l.x])} n.a aC j4 hi.sl Z (hi.hb aC (D0 Z)).1;obtain⟨D,aI⟩:=s8 ((L5 t s n.a).1);obtain⟨La,aJ⟩:=s8 ((L5 t s n.a).2);rw[←aJ]at aF a3 a4;rw[←aI]at aG a1 a2 a3 aE K ab P ac R ad;refine a2T aF aG rfl ?_;unfold a0C at J p;rw[←aJ,←aI]at J p;by_cases E:La=[]
  . rw[if_pos E]at J p;have g:=aH;simp[RX.l]at g;rw[E];simp[SH];refine F5 (fun(_:Unit) vs h=>vs=[.ptr 5 1 0,NQ n,.mapv 11 1,.ptr 20 (x.N9.1+1) 0,.uu,.uu,.uu,.ne,IN 0,IN 0,.uu,.uu,.uu,.uu,.uu,.uu]∧h=SH t D F v1 ae) (fun _=>0) () ⟨rfl,rfl⟩ ?_;rintro _ vs h1 ⟨rfl,rfl⟩ Q2 af L be;simp[SH];refine L _ _ _ ?_;simp;refine p _ _ _ ⟨rfl,ae,v1,rfl,?_,?_,?_⟩ rfl ?_
    . rw[g.2.2.2.2.2.2.1];exact aB
    . simp[RX.l,g]
    . grind
    simp[T8,X94]
  . rw[if_neg E]at J p;rw[b1x E];obtain⟨q,ag⟩:=s8 ((L5 t D n.b).1);obtain⟨Lb,ah⟩:=s8 ((L5 t D n.b).2);rw[←ah,←ag]at J p;rw[←ah]at P ac;rw[←ag]at K ab P R ad;have aK:L5 t D n.b=(q,Lb):=(by rw[ag,ah]);rw[aK]at R;have g:=aH;simp[RX.l]at g;simp[SH];refine F5 (fun(y:RH) vs h=>y.k≤La.length∧y.x.N9=(x.N9.1+1,.var [IN n.a,IN n.b,IN n.l.s,St n.l.x])∧y.x.K3=BR ((La.take y.k).foldl (a1S n.l Lb) B)∧{y.x with K3:=x.K3}.l.take 15=x.l.take 15∧y.x.c24.2=.dead∧
     vs=[.ptr 5 1 0,NQ n,.mapv 11 1,.ptr 20 (x.N9.1+1) 0,y.w4,y.w5,y.w6,.slc (La.map S3),IN La.length,IN y.k,y.w10,y.w11,y.w12,y.w13,y.w14,y.w15]∧h=SH t (if y.k=0 then D else q) F y.v7 y.x) (fun y=>La.length-y.k)
     ⟨0,ae,v1,.uu,.uu,.uu,.uu,.uu,.uu,.uu,.uu,.uu⟩ ⟨E0 _,g.2.2.2.2.2.2.2.2.2.2.2.2.2.2.2.1,g.2.2.2.2.2.2.1.trans aB,by simp[RX.l,g],(congrArg Prod.snd g.2.2.2.2.2.2.2.2.2.2.2.2.2.2.2.2.2.2.2.1).trans bc,rfl,rfl⟩ ?_
    rintro⟨k,d,v2,w4,w5,w6,w10,w11,w12,w13,w14,w15⟩ vs h1 ⟨bf,S,M,ai,aj,rfl,rfl⟩ Q2 af L be;dsimp only at bf S M ai aj;by_cases aL:k<La.length
    . have aM:=wk1 k j4;obtain⟨X,aN⟩:=s8 (La[k]);have bg:X∈La:=(by grind);obtain⟨A,aO⟩:∃A,A=if k=0 then D else q:=⟨_,rfl⟩
      obtain⟨Bk,ak⟩:=s8 ((La.take k).foldl (a1S n.l Lb) B);have bh:L5 t A n.b=(q,Lb)∧HSI t A∧A.1[n.b]?=some hb∧A.1.length≤16128:=by
       rw[aO];split
       . exact⟨aK,a1,a0e a2 aa,aE⟩
       . exact⟨R,K,a0e (a2.trans ab) aa,ad⟩
      obtain⟨bi,aP,aQ,p4⟩:=bh;rw[←ak]at M;have aR:(La.take (k+1)).foldl (a1S n.l Lb) B=Lb.foldl (a0y n.l X) Bk:=(by rw[a5B _ _ aL,←ak,←aN];rfl);obtain⟨bD,l,v3,aS,aT,al⟩:=c0Q t f A F v2 {d with O3:=(d.O3.1+1,.var [.int .u8 X.c.toNat,St X.p,IN X.to])} n.b hb j4 aP.sl aQ (aP.hb hb (D0 aQ)).1;rw[bi]at aS aT;have G:=al;simp[RX.l]at G;rw[←aO];simp[SH,aL,←aN,S];refine a2T aS aT (by rw[←S]) ?_;have aU:l.N9=(x.N9.1+1,.var [IN n.a,IN n.b,IN n.l.s,St n.l.x]):=G.2.2.2.2.2.2.2.2.2.2.2.2.2.2.2.1.trans S;have bj:l.O3=(d.O3.1+1,.var [.int .u8 X.c.toNat,St X.p,IN X.to]):=G.2.2.2.2.2.2.2.2.2.2.2.2.2.2.2.2.1;have aV:l.K3=BR Bk:=G.2.2.2.2.2.2.1.trans M;have aW:l.c24.2=.dead:=(congrArg Prod.snd G.2.2.2.2.2.2.2.2.2.2.2.2.2.2.2.2.2.2.2.1).trans aj;have aX:{l with K3:=x.K3}.l.take 15=x.l.take 15:=by refine Eq.trans ?_ ai;simp[RX.l,G]
      by_cases am:Lb=[]
      . have bk:(La.take (k+1)).foldl (a1S n.l Lb) B=Bk:=(by rw[aR,am];rfl);rw[show SLQ (q,Lb).2=.ne from by show SLQ Lb=_;rw[am];rfl];simp[SH];refine F5 (fun(_:Unit) vs h=>vs=[.ptr 5 1 0,NQ n,.mapv 11 1,.ptr 20 (x.N9.1+1) 0,.ptr 21 (d.O3.1+1) 0,w5,w6,.slc (La.map S3),IN La.length,IN k,.bool true,.ne,IN 0,IN 0,w14,w15]∧h=SH t q F v3 l) (fun _=>0) () ⟨rfl,rfl⟩ ?_;rintro _ vs h1 ⟨rfl,rfl⟩ Q3 T an bl;simp[SH];refine an _ _ _ ?_;simp[aM];refine af ⟨k+1,l,v3,_,_,_,_,_,_,_,_,_⟩ _ _ (by grind) ⟨u7,aU,?_,aX,aW,rfl,rfl⟩;dsimp only;rw[bk];exact aV
      . rw[b1x am];simp[SH];refine F5 (fun(z:Nat×RX×PV×PV×PV×PV) vs h=>z.1≤Lb.length∧z.2.1.N9=(x.N9.1+1,.var [IN n.a,IN n.b,IN n.l.s,St n.l.x])∧z.2.1.O3=(d.O3.1+1,.var [.int .u8 X.c.toNat,St X.p,IN X.to])∧z.2.1.K3=BR ((Lb.take z.1).foldl (a0y n.l X) Bk)∧{z.2.1 with K3:=x.K3}.l.take 15=x.l.take 15∧z.2.1.c24.2=.dead∧
         vs=[.ptr 5 1 0,NQ n,.mapv 11 1,.ptr 20 (x.N9.1+1) 0,.ptr 21 (d.O3.1+1) 0,z.2.2.1,z.2.2.2.1,.slc (La.map S3),IN La.length,IN k,.bool true,.slc (Lb.map S3),IN Lb.length,IN z.1,z.2.2.2.2.1,z.2.2.2.2.2]∧h=SH t q F v3 z.2.1) (fun z=>Lb.length-z.1)
         (0,l,_,_,_,_) ⟨E0 _,aU,bj,aV,aX,aW,rfl,rfl⟩ ?_
        rintro⟨j,b,w5,w6,w14,w15⟩ vs h1 ⟨bm,z2,z3,z4,z5,U,rfl,rfl⟩ Q3 T an bl;dsimp only at bm z2 z3 z4 z5 U;obtain⟨g24,aY⟩:∃g24,b.c24=(g24,.dead):=⟨b.c24.1,Prod.ext rfl U⟩
        by_cases hj:j<Lb.length
        . have ao:=wk1 j j4;obtain⟨Y,V⟩:=s8 (Lb[j]);have bn:Y∈Lb:=(by grind);obtain⟨Bj,ap⟩:=s8 ((Lb.take j).foldl (a0y n.l X) Bk);rw[←ap]at z4;have aq:(Lb.take (j+1)).foldl (a0y n.l X) Bk=a0y n.l X Bj Y:=(by rw[a5B _ _ hj,←ap,←V]);have bo:Z5 2000000005000 Bj:=by
           have h1:Z5 (2000000000000+(La.take k).length*Lb.length) Bk:=(by rw[ak];exact bb.b2S);have ar:Z5 (2000000000000+(La.take k).length*Lb.length+(Lb.take j).length) Bj:=(by rw[ap];exact h1.b3r);refine ar.up ?_;have aZ:(La.take k).length*Lb.length≤64*64:=a8a (by grind) ac;have bE:(Lb.take j).length≤64:=(by grind);omega
          by_cases W:X.c=Y.c
          . have a0:Y.c=X.c:=W.symm;have al:n.l.s≤3:=(by rw[aD];exact b4v u v);obtain⟨_,_,L⟩:=a3.1 X bg;obtain⟨_,_,bp⟩:=P.1 Y bn;have bF:=L.B7 f;have bG:=bp.B7 f;obtain⟨C,au⟩:=s8 (n.l.aft X.p Y.p);have bq:C.s≤3:=(by rw[au,aD,a3E];exact b4v _ _);have av:=c4S n.l al X.p Y.p bd j4 j4;rw[←au]at av;obtain⟨m2,a6⟩:=s8 (Nd.ord ⟨X.to,Y.to,C⟩);have aw:=c4F ⟨X.to,Y.to,C⟩ bq;rw[←a6]at aw;have N:a0y n.l X Bj Y=Y7 Bj X.c m2:=(by unfold a0y;rw[if_pos W,a6,au]);obtain⟨B2,br⟩:=s8 (Y7 Bj X.c m2);obtain⟨a7,a8⟩:=d0l (B:=Bj) (c:=X.c) (m:=m2);rw[←br]at a7 a8 N;cases H:(Bj.map (·.1)).idxOf? X.c with
            |none=>
             obtain⟨ax,O⟩:=a8 H;simp[SH,hj,←V,z2,z3,a0];refine l8 av ?_;simp[z4,H,aY];refine l8 aw ?_;simp[H,←ax,←O,ao];refine T (j+1,{b with K3:=BR B2,N9:=(x.N9.1+1,.var [IN n.a,IN n.b,IN n.l.s,St n.l.x]),O3:=(d.O3.1+1,.var [.int .u8 X.c.toNat,St X.p,IN X.to]),c22:=(b.c22.1+1,.var [.int .u8 X.c.toNat,St Y.p,IN Y.to]),c23:=(b.c23.1+1,.var [IN X.to,IN Y.to,IN C.s,St C.x]),c24:=(g24,.dead),c25:=(b.c25.1+1,.dead),c26:=(b.c26.1+1,.dead)},_,_,_,_) _ _ j4 ⟨u7,rfl,rfl,?_,?_,rfl,rfl,?_⟩
             . dsimp only;rw[aq,N]
             . exact z5
             . rfl
            |some i=>
             obtain⟨ax,O,ay,bs,bt⟩:=a7 H;have az:=bo _ bt;simp only at az;obtain⟨ns,bu⟩:=s8 (D4 Bj X.c);rw[←bu]at O bs az;have g1:(BVQ Bj)[i]'(by rw[d2a];exact ay)=.uslc (ns.map NQ):=(by grind);have g2:0<ns.length:=a2E.2 az.1;obtain⟨aA,a9⟩:=s8 (ns++[m2]);rw[←a9]at O;have g3:ns.map NQ++[.agg [IN m2.a,IN m2.b,IN m2.l.s,St m2.l.x]]=aA.map NQ:=(by grind);have g4:ns.length+1=aA.length:=(by rw[a9];simp);have g5:aA.length*40≤140737488355328:=j4;simp[SH,hj,←V,z2,z3,a0];refine l8 av ?_;simp[z4,H,ay,g1,g2,c7x,aY];refine l8 aw ?_;simp[H,ay,g1,g2,g3,g4,g5,←O,ao];refine T (j+1,{b with K3:=BR B2,N9:=(x.N9.1+1,.var [IN n.a,IN n.b,IN n.l.s,St n.l.x]),O3:=(d.O3.1+1,.var [.int .u8 X.c.toNat,St X.p,IN X.to]),c22:=(b.c22.1+1,.var [.int .u8 X.c.toNat,St Y.p,IN Y.to]),c23:=(b.c23.1+1,.var [IN X.to,IN Y.to,IN C.s,St C.x]),c24:=(g24+1,.dead),c25:=(b.c25.1+1,.dead),c26:=b.c26},_,_,_,_) _ _ j4 ⟨u7,rfl,rfl,?_,?_,rfl,rfl,?_⟩
             . dsimp only;rw[aq,N]
             . exact z5
             . rw[←ax]
               all_goals rfl
          . have N:a0y n.l X Bj Y=Bj:=(by unfold a0y;rw[if_neg W]);have bv:¬X.c.toNat=Y.c.toNat:=fun e=>W (a6e.1 e);have bw:¬((X.c.toNat:Int)=(Y.c.toNat:Int)):=j4;simp[SH,hj,←V,z2,z3,bv,bw,ao];refine T (j+1,{b with N9:=(x.N9.1+1,.var [IN n.a,IN n.b,IN n.l.s,St n.l.x]),O3:=(d.O3.1+1,.var [.int .u8 X.c.toNat,St X.p,IN X.to]),c22:=(b.c22.1+1,.var [.int .u8 Y.c.toNat,St Y.p,IN Y.to])},_,_,_,_) _ _ j4 ⟨u7,rfl,rfl,?_,?_,U,rfl,rfl⟩
            . dsimp only;rw[aq,N];exact z4
            . exact z5
        . obtain rfl:j=Lb.length:=j4;rw[K8]at z4;simp[SH];refine an _ _ _ ?_;simp[aM];refine af ⟨k+1,b,v3,_,_,_,_,_,_,_,_,_⟩ _ _ (by grind) ⟨u7,z2,?_,z5,U,rfl,rfl⟩;dsimp only;rw[aR];exact z4
    . obtain rfl:k=La.length:=j4;rw[K8]at M;have bH:La.length≠0:=fun e=>E (a0U.1 e);simp[SH];refine L _ _ _ ?_;simp;refine p _ _ _ ⟨rfl,d,v2,?_,M,ai,aj⟩ rfl ?_
      . rw[if_neg E]
      simp[T8,X94]
 obtain⟨r1,ws,⟨rfl,a,o,hu,h1,ar,aZ⟩,bx⟩:=key;exact⟨ws,a,o,bx,hu,h1,ar,aZ⟩
abbrev N7:=List (List Nd×UInt8)
def GP:N7→PV
 | []=>.lit (.pointer none)
 |(ns,c)::g=>.fptr [.slc (ns.map NQ),GP g,.int .u8 c.toNat]
@[simp] theorem d4S:GP []=.lit (.pointer none):=rfl
@[simp] theorem c1w(ns:List Nd)(c:UInt8)(g:N7):GP ((ns,c)::g)=.fptr [.slc (ns.map NQ),GP g,.int .u8 c.toNat]:=rfl
def Y0:N7→By
 | []=>[]
 | [_]=>[]
 |(_,c)::g::gs=>Y0 (g::gs)++[c]
def a6v(l m:By)(k:Nat):Prop:=m.length=l.length∧∀i,i<l.length→m[i]?=if i<k∨l.length≤i+k then l[l.length-1-i]? else l[i]?
theorem a6v.fin{l m:By}{k:Nat}(h:a6v l m k)(a:l.length≤2*k+1):m=l.reverse:=by
 apply a4g;intro i;by_cases hi:i<l.length
 . rw[h.2 i hi,List.getElem?_reverse hi];split
   . rfl
   . congr 1;omega
 . rw[a0i (by rw[h.1];omega),a0i (by grind)]
theorem a6v.next{l m:By}{k:Nat}(h:a6v l m k)(g:2*k+1<l.length)(h1:k<m.length)(d:l.length-1-k<m.length):a6v l ((m.set k m[l.length-1-k]).set (l.length-1-k) m[k]) (k+1):=by
 refine⟨by simp[h.1],fun i hi=>?_⟩;have a:m[k]?=l[k]?:=by rw[h.2 k j4,if_neg j4]
 have b:m[l.length-1-k]?=l[l.length-1-k]?:=by rw[h.2 _ j4,if_neg j4]
 rw[l9 h1,l9 j4]at a;rw[l9 d,l9 j4]at b;rw[U4 a,U4 b];by_cases e:i=l.length-1-k
 . grind
 . rw[F4 (Ne.symm e)];by_cases f:i=k
   . grind
   . rw[F4 (Ne.symm f),h.2 i hi];by_cases c:i<k∨l.length≤i+k
     . rw[if_pos c,if_pos j4]
     . rw[if_neg c,if_neg j4]
theorem c5F(l:By)(R0:Row)(D:l.length≤4000000000):FI Tryz.prog (.fn (.func 124) [] []) [.own 1 1 l.length 1 0 l.length] [R0,(1,.arr 1 0 false (l.map UB))] (.tup []) [(1,(1,.arr 1 0 false (l.reverse.map UB)))]:=by
 refine a3q mixed (X:=a7T) c124 (by rfl) (by simp[a7T]) k8 fun Q E d=>?_;have hw:IntKind.i64.wrap ((l.length:Int)-1)=(l.length:Int)-1:=T3;simp[a7T,hw];refine F5 (fun(y:Nat×By×PV) vs h=>y.1≤l.length∧a6v l y.2.1 y.1∧(2*y.1≤l.length+1)∧vs=[.own 1 1 l.length 1 0 l.length,IN y.1,I ((l.length:Int)-1-y.1),y.2.2]∧h=[R0,(1,.arr 1 0 false (y.2.1.map UB))]) (fun y=>l.length-y.1) (0,l,.uu) ⟨E0 _,⟨rfl,fun i hi=>by rw[if_neg j4]⟩,u7,k8,rfl⟩ ?_;rintro⟨k,m,w3⟩ vs h1 ⟨e,a,f,rfl,rfl⟩ Q2 g n F;dsimp only at e a f;have o:=a.1;by_cases p:2*k+1<l.length
 . have h0:(k:Int)<(l.length:Int)-1-(k:Int):=j4;obtain⟨j,hj⟩:=s8 (l.length-1-k);have q:(l.length:Int)-1-(k:Int)=(j:Int):=j4;have r:k<m.length:=j4;have G:j<m.length:=j4;have s:k<l.length:=j4;have t:j<l.length:=j4;have H:j≠k:=j4;have u:=wk1 k j4;have v:IntKind.i64.wrap ((j:Int)-1)=(l.length:Int)-1-((k+1:Nat):Int):=(by rw[wrap_ok j4 j4];omega);have w:=a.next p r j4;obtain⟨m1,b⟩:=s8 (m.set k m[j]);obtain⟨m2,c⟩:=s8 (m1.set j m[k]);have x:(m.map UB).set k (.int .u8 m[j].toNat)=m1.map UB:=(by rw[b,L6]);have z:(m1.map UB).set j (.int .u8 m[k].toNat)=m2.map UB:=(by rw[c,L6]);have A:m1.length=l.length:=(by grind);have B:a6v l m2 (k+1):=by
    subst hj;rw[c,b];exact w
   rw[q]at h0⊢;simp[h0,s,t,o,A,u,v,x,z];exact g (k+1,m2,_) _ _ j4 ⟨u7,B,u7,rfl,rfl⟩
 . have h0:¬((k:Int)<(l.length:Int)-1-(k:Int)):=j4;have C:=a.fin j4;simp[h0];refine n _ _ _ ?_;simp;refine d _ _ ?_;simp[L3,a7T,C]
theorem c1o(g:N7)(i:g≠ [])(q:g.length≤3000000000):F0 96 [1] [GP g] (.uslc ((Y0 g).map UB)):=by
 refine E1 c96 2 (by simp[X96]) fun Q j r=>?_;simp[X96];refine F5 (fun(y:N7×By×Nat×PV) vs h=>y.1≠ []∧y.1.length+y.2.1.length=g.length∧Y0 g=Y0 y.1++y.2.1.reverse∧vs=[GP y.1,.nils,.own 1 1 y.2.1.length 1 0 y.2.1.length,y.2.2.2]∧h=[(y.2.2.1,.dead),(1,.arr 1 0 false (y.2.1.map UB))]) (fun y=>y.1.length) (g,[],0,.uu) ⟨i,k8,k8,rfl,rfl⟩ ?_;rintro⟨g1,acc,g0,w3⟩ vs h1 ⟨e,b,d,rfl,rfl⟩ Q2 k l s;dsimp only at e b d
 match g1,e with
 | [(ns,c)],_=>
  have m:acc.length≤4000000000:=j4;simp;refine l _ _ _ ?_;simp;refine U5 (c5F acc _ m) ?_;simp;refine j _ _ ?_;simp[X96,d,Y0]
 |(ns,c)::(n,c2)::g2,_=>
  obtain⟨a,f⟩:=s8 (acc++[c]);have o:acc.map UB++[.int .u8 c.toNat]=a.map UB:=by grind
  have p:acc.length+1=a.length:=by rw[f];simp
  have hb:a.length≤140737488355328:=by simp at b;omega
  simp[o,p,hb];refine k ((n,c2)::g2,a,g0+1,_) _ _ k8 ⟨k8,?_,?_,rfl,rfl⟩
  . simp at b⊢;omega
  . dsimp only;rw[d,f,Y0];simp
def gn(g:N7):List Nd:=match g with
 | []=>[]
 |(ns,_)::_=>ns
section
variable{t:k7}
def GOk(t:k7)(Hs:List Hf)(F:FT)(d:Nat)(g:N7):Prop:=g.length=d+1∧∀n∈gn g,NS t Hs (Y0 g) n∧Rec F n
theorem GOk.mono{Hs Hs':List Hf}{F F':FT}{d:Nat}{g:N7}(hp:Hs<+:Hs')(b:FLe F F')(h:GOk t Hs F d g):GOk t Hs' F' d g:=
 ⟨h.1,fun n a=>⟨(h.2 n a).1.mono hp,b _ _ (h.2 n a).2⟩⟩
theorem GOk.word{Hs:List Hf}{F:FT}{d:Nat}{g:N7}(h:GOk t Hs F d g)(ns:List Nd)(c:UInt8):Y0 ((ns,c)::g)=Y0 g++[c]:=by
 cases g with
 |nil=>cases h.1
 |cons a g=>rfl
def a8i(t:k7)(Hs:List Hf)(B:BM)(n:Nd):Prop:=∀c p q a hb b d,Hs[n.a]?=some a→Hs[n.b]?=some hb→Stp t a c p b→Stp t hb c q d→∃i j,Hs[i]?=some b∧Hs[j]?=some d∧Nd.ord ⟨i,j,n.l.aft p q⟩∈D4 B c
theorem a8i.mono{Hs Hs':List Hf}{B B':BM}{n:Nd}{w:By}(k:NS t Hs w n)(hp:Hs<+:Hs')(l:∀c m,m∈D4 B c→m∈D4 B' c)(h:a8i t Hs B n):a8i t Hs' B' n:=fun c p q y hb o r h1 d s x=>by obtain⟨u,v,z,A,f,g,_⟩:=k;rw[a0e hp f]at h1;cases h1;rw[a0e hp g]at d;cases d;obtain⟨i,j,a,b,e⟩:=h c p q _ _ o r f g s x;exact⟨i,j,a0e hp a,a0e hp b,l _ _ e⟩
structure FoI(t:k7)(s0 s:J2)(w:By)(B:BM)(ns:List Nd)(j:Nat):Prop where
 hs:HSI t s
 pre:s0.1<+:s.1
 snd:∀c m,m∈D4 B c→NS t s.1 (w++[c]) m∧m.a≤m.b
 fol:∀n∈ns.take j,a8i t s.1 B n
 bd:Z5 (4096*j) B
theorem FoI.start{s:J2}(hs:HSI t s)(w:By)(ns:List Nd):FoI t s s w [] ns 0:=
 ⟨hs,a5p _,fun c m h=>(by cases h),fun n a=>(by simp at a),fun e he=>(by cases he)⟩
theorem d1L(a:s7 t)(hs:Sm t){s:J2}(hi:HSI t s){B:BM}{n:Nd}{w:By}(c:NS t s.1 w n){M:Nat}(b:Z5 M B):Z5 (M+4096) (a0C t s B n).2:=by
 obtain⟨u,v,g,hb,d,e,_⟩:=c;obtain⟨a1,a2,_,a4,_⟩:=a7j a hs hi d;obtain⟨_,_,_,f,_⟩:=a7j a hs a1 (a0e a2 e);unfold a0C;split
 . exact b.up j4
 . refine b.b2S.up ?_;have:(L5 t s n.a).2.length*(L5 t (L5 t s n.a).1 n.b).2.length≤64*64:=a8a a4 f;omega
theorem FoI.next(d:s7 t)(e:Sm t){s0 s:J2}{w:By}{B:BM}{ns:List Nd}{j:Nat}(h:FoI t s0 s w B ns j)(f:∀n∈ns,NS t s0.1 w n)(hj:j<ns.length):FoI t s0 (a0C t s B ns[j]).1 w (a0C t s B ns[j]).2 ns (j+1):=by
 have b:NS t s.1 w ns[j]:=(f _ (C4 hj)).mono h.pre;obtain⟨f1,f2,f3,f4,_,f6⟩:=c6h d e h.hs (B:=B) b;refine⟨f1,h.pre.trans f2,fun c m hm=>?_,fun n a=>?_,?_⟩
 . rcases f4 c m hm with g|g
   . exact⟨(h.snd c m g).1.mono f2,(h.snd c m g).2⟩
   . exact g
 . rw[J5,l9 hj]at a;rcases I5.1 a with a|a
   . exact(h.fol n a).mono ((f n (b2h a)).mono h.pre) f2 f3
   . simp only[a9N,H5]at a;subst a;intro c p q l hb o r g1 g2 g3 g4;obtain⟨u,v,x,y,i,k,_⟩:=b;rw[a0e f2 i]at g1;cases g1;rw[a0e f2 k]at g2;cases g2
     grind
 . have:=d1L d e h.hs b h.bd;omega
structure CI(t:k7)(Hs:List Hf)(Q:Nd→Prop)(B:BM)(d c0:Nat)(F:FT)(next:List N7)(c:Nat):Prop where
 sr:SrI t Hs F fun n=>Q n∨∃g∈next,n∈gn g
 hd:∀c':UInt8,c'.toNat<c→∀m∈D4 B c',Hdl F m
 nx:∀g∈next,GOk t Hs F (d+1) g∧(gn g).length≤K9 F
 ct:c0+next.length≤K9 F
structure NI(t:k7)(Hs:List Hf)(Q:Nd→Prop)(B:BM)(d c0:Nat)(next:List N7)(w:By)(c:UInt8)(L:List Nd)(F:FT)(nodes:List Nd)(j:Nat):Prop where
 sr:SrI t Hs F fun n=>(Q n∨∃g∈next,n∈gn g)∨n∈nodes
 hd:∀c':UInt8,c'.toNat<c.toNat→∀m∈D4 B c',Hdl F m
 hj:∀m∈L.take j,Hdl F m
 nx:∀g∈next,GOk t Hs F (d+1) g∧(gn g).length≤K9 F
 nd:∀m∈nodes,NS t Hs (w++[c]) m∧Rec F m
 ct:c0+next.length+nodes.length≤K9 F
theorem CI.enter{Hs:List Hf}{Q:Nd→Prop}{B:BM}{d c0:Nat}{F:FT}{next:List N7}{c:UInt8}(h:CI t Hs Q B d c0 F next c.toNat)(w:By)(L:List Nd):NI t Hs Q B d c0 next w c L F [] 0:=
 ⟨h.sr.mono fun n _ hp=>.inl (.inl hp),h.hd,fun m hm=>(by simp at hm),h.nx,fun m hm=>(by cases hm),by simpa using h.ct⟩
theorem b7z{α:Type}{L:List α}{j:Nat}(hj:j<L.length){m:α}(hm:m∈L.take (j+1)):m∈L.take j∨m=L[j]:=by
 rw[J5,l9 hj]at hm
 grind
theorem NI.skip{Hs:List Hf}{Q:Nd→Prop}{B:BM}{d c0:Nat}{F:FT}{next:List N7}{w:By}{c:UInt8}{L nodes:List Nd}{j:Nat}(h:NI t Hs Q B d c0 next w c L F nodes j)(hj:j<L.length)(hb:(Y2 F L[j]).1=false):
 (Y2 F L[j]).2=F∧NI t Hs Q B d c0 next w c L F nodes (j+1):=by
 unfold Y2 at hb⊢;split at hb
 . rename_i a;rw[if_pos a];exact⟨rfl,h.sr,h.hd,fun m hm=>(b7z hj hm).elim (h.hj m) fun e=>by rw[e];exact c5E h.sr a,h.nx,h.nd,h.ct⟩
 . cases hb
theorem NI.add{Hs:List Hf}{Q:Nd→Prop}{B:BM}{d c0:Nat}{F:FT}{next:List N7}{w:By}{c:UInt8}{L nodes:List Nd}{j:Nat}(h:NI t Hs Q B d c0 next w c L F nodes j)(hj:j<L.length)(hb:(Y2 F L[j]).1=true)(a:NS t Hs (w++[c]) L[j]∧L[j].a≤L[j].b)(i:¬Cls t Hs L[j]):
 NI t Hs Q B d c0 next w c L (Y2 F L[j]).2 (nodes++[L[j]]) (j+1):=by
 have hle:=FLe.rec F L[j];unfold Y2 at hb hle⊢;split at hb
 . cases hb
 . rename_i b;rw[if_neg b]at hle⊢;simp only at hle⊢;have l:K9 (Y7 F (L[j]).k (L[j]).l)=K9 F+1:=b3I _ _ _;refine⟨(c3O h.sr a.1 a.2 i b).mono fun m _ hm=>?_,fun c' k m hm=>hle.hdl (h.hd c' k m hm),fun m hm=>(b7z hj hm).elim (fun g=>hle.hdl (h.hj m g)) fun e=>by rw[e];exact .inl c0K,fun g f=>⟨(h.nx g f).1.mono (a5p _) hle,by have:=(h.nx g f).2;omega⟩,fun m hm=>?_,?_⟩
   . grind
   . rcases I5.1 hm with hm|hm
     . exact⟨(h.nd m hm).1,hle _ _ (h.nd m hm).2⟩
     . rw[H5]at hm;subst hm;exact⟨a.1,c0K⟩
   . rw[Z9,b2g];have:=h.ct;omega
theorem b0K(F:FT)(n:Nd):K9 F≤K9 (Y2 F n).2:=by
 unfold Y2;split
 . exact p7 _
 . show K9 F≤K9 (Y7 F n.k n.l);rw[b3I];omega
theorem c9r{c c':UInt8}(h:c'.toNat<c.toNat+1):c'.toNat<c.toNat∨c'=c:=by
 rcases a4N c'.toNat c.toNat with g|g
 . exact .inl g
 . exact .inr (a6e.1 j4)
theorem NI.leave{Hs Hs0:List Hf}{Q:Nd→Prop}{B:BM}{d c0:Nat}{F F0:FT}{next:List N7}{c:UInt8}{g:N7}{nodes:List Nd}(b:GOk t Hs0 F0 d g)(h:NI t Hs Q B d c0 next (Y0 g) c (D4 B c) F nodes (D4 B c).length):
 CI t Hs Q B d c0 F (if nodes=[]then next else next++[(nodes,c)::g]) (c.toNat+1):=by
 have hj:=h.hj;rw[K8]at hj;have hd:∀c':UInt8,c'.toNat<c.toNat+1→∀m∈D4 B c',Hdl F m:=fun c' i m hm=>by
  rcases c9r i with g1|rfl
  . exact h.hd c' g1 m hm
  . exact hj m hm
 split
 . rename_i he;subst he;exact⟨h.sr.mono fun n _ hp=>.inl (hp.elim id fun e=>by cases e),hd,h.nx,by have:=h.ct;omega⟩
 . rename_i he;have j:0<nodes.length:=a2E.2 he;refine⟨h.sr.mono fun n _ hp=>.inl ?_,hd,fun f a=>?_,?_⟩
   . rcases hp with(hp|⟨f,h1,k⟩)|hp
     . exact .inl hp
     . grind
     . exact .inr ⟨(nodes,c)::g,k8,hp⟩
   . rcases I5.1 a with a|a
     . exact h.nx f a
     . rw[H5]at a;subst a;refine⟨⟨by rw[S9,b.1],fun m hm=>?_⟩,?_⟩
       . rw[b.word];exact h.nd m hm
       . have:=h.ct;show nodes.length≤_;omega
   . rw[Z9,b2g];have:=h.ct;omega
theorem Stp.cell(b:s7 t){h h':Hf}{c:UInt8}{p:By}(hb:HfB t h)(hs:Stp t h c p h'):c.toNat<63:=by
 have key:∀r∈t.rules,∀c∈cb r.cells,c.toNat<63:=fun r hr c d=>by unfold cb at d;obtain⟨k,f,rfl⟩:=G7.1 d;have:=b3f b hr f;rw[ofNat_toNat j4];exact this
 rcases hs with⟨h1,_,_⟩|⟨_,a,g,h1,_,_⟩
 . have hm:=hb.2;rw[h1]at hm;rcases Y8.1 hm with e|e
   . cases e
   . obtain⟨r,hr,e⟩:=a3b.1 e;refine key r hr c ?_;rcases Y8.1 e with e|e
     . exact List.mem_of_mem_drop (by rw[←e];exact a3x)
     . exact List.mem_of_mem_drop (by rw[←H5.1 e];exact a3x)
 . obtain⟨l1,_,_,_⟩:=a4B b hb.1 g;have e:cls t a.1=t.rules[a.1].cells:=by unfold cls;rw[B0,l9 l1];rfl
   grind
theorem CI.done(k:s7 t){s:J2}(hi:HSI t s){Q:Nd→Prop}{B:BM}{d c0:Nat}{F:FT}{next:List N7}{ns:List Nd}(h:CI t s.1 Q B d c0 F next 63)(l:∀n∈ns,a8i t s.1 B n){Q':Nd→Prop}(m:∀n,Q n→Q' n∨n∈ns):CI t s.1 Q' B d c0 F next 0:=by
 refine⟨h.sr.mono fun n w hp=>?_,fun c' x=>j4,h.nx,h.ct⟩;rcases hp with hp|hp
 . rcases m n hp with hp|hp
   . exact .inl (.inl hp)
   . right
     intro c p q f hb o r h1 u g v;obtain⟨i,j,a,b,e⟩:=l n hp c p q f hb o r h1 u g v;exact⟨i,j,a,b,h.hd c (g.cell k (hi.hb f (D0 h1))) _ e⟩
 . exact .inl (.inr hp)
theorem b9h(a:s7 t){Hs:List Hf}{w:By}{n:Nd}(d:NS t Hs w n)(f:Cls t Hs n):∃x y,S8 t (w.map UInt8.toNat) x∧S8 t (w.map UInt8.toNat) y∧x≠y:=by obtain⟨u,v,o,hb,g,h,i,j,k⟩:=d;obtain⟨h1,p,q,b,c,l,m⟩:=f;rw[g]at b;cases b;rw[h]at c;cases c;exact⟨u,v,i.lng a l,j.lng a m,fun e=>h1 (by rw[k,a5O];exact e)⟩
end
section
variable{t:k7}
def ShR(t:k7)(x:RX)(r:PV)(h:Heap):Prop:=((r=.tup [.nils,B false]∧¬Two t)∨∃(w:By) (g:Nat),r=.tup [.own 15 g w.length 1 0 w.length,B true]∧h[15]?=some (g,.arr 1 0 false (w.map UB))∧w.length≤260128513∧∃a b,S8 t (w.map UInt8.toNat) a∧S8 t (w.map UInt8.toNat) b∧a≠b)∧h.take 3=[x.c0,x.c1,x.c2]
theorem d1e{t:k7}(h:¬Live t start):¬Two t:=fun⟨_,_,_,⟨q,a,h1,b,_,_⟩,_,_⟩=>h ⟨q,a,h1,b⟩
theorem HSI.root(b:s7 t):HSI t ([⟨0,[]⟩],[none]):=by
 refine⟨k8,fun h a=>?_,rfl,fun n L h h1 c=>?_⟩
 . rw[H5]at a;subst a;exact HfB.root b
 . grind
def stN:Nd:=⟨0,0,⟨0,[]⟩⟩
def a4u:FT:=[((0,0),[⟨0,[]⟩])]
theorem SrI.root:SrI t [⟨0,[]⟩] a4u fun n=>n=stN:=by
 have d:∀n,Rec a4u n→n=stN:=fun n c=>by
  obtain⟨a,b,l⟩:=n;unfold Rec a4u at c;rw[a4l]at c;split at c
  . rename_i e;have g:0=a:=congrArg Prod.fst e;have h:0=b:=congrArg Prod.snd e;have f:=H5.1 c;simp only at f;rw[←g,←h,f];rfl
  . cases c
 refine⟨fun n c=>?_,fun n c=>.inl (d n c),by simp[a4u],fun e he=>?_,fun e he=>?_,rfl,?_⟩
 . rw[d n c];exact⟨⟨[],[],[],⟨0,[]⟩,⟨0,[]⟩,rfl,rfl,⟨rfl,rfl⟩,⟨rfl,rfl⟩,rfl⟩,fun i=>i.1 rfl⟩
 . rw[a4u,H5]at he;subst he;simp
 . rw[a4u,H5]at he;subst he;simp
 . unfold Rec a4u;rw[a4l];simp
theorem HP.B7(a:s7 t):∀{w:By} {h:Hf} {p:By} {h':Hf},HP t h w p h'→p.length≤4*w.length
 | [],h,p,h',hp=>by obtain⟨rfl,rfl⟩:=hp;simp
 |c::w,h,p,h',hp=>by
  obtain⟨b,h1,d,a1,a2,rfl⟩:=hp;have:=a1.B7 a;have:=HP.B7 a a2
  grind
theorem NS.b9p(a:s7 t){Hs:List Hf}{w:By}{n:Nd}(h:NS t Hs w n):n.l.x.length≤8*w.length∧n.l.s≤3:=by obtain⟨u,v,d,hb,_,_,h1,b,c⟩:=h;have e:=h1.B7 a;have f:=b.B7 a;have g:=b7v u v;rw[c];exact⟨j4,b4v u v⟩
theorem a8L:∀g:N7,(Y0 g).length=g.length-1
 | []=>rfl
 | [_]=>rfl
 |(_,c)::g::gs=>by rw[Y0,Z9,a8L (g::gs)];simp
structure Kp(x y:RX):Prop where
 a:y.l.take 3=x.l.take 3
 d:y.c24.2=.dead
theorem Kp.of{x y z:RX}(h:Kp x y)(e:a0j z.l=a0j y.l):Kp x z:=by
 simp[a0j,RX.l]at e;refine⟨?_,?_⟩
 . have:=h.a;simp[RX.l]at this⊢;simp[e,this]
 . rw[show z.c24=y.c24 from by simp[e]];exact h.d
theorem Kp.of2{x y z:RX}(h:Kp x y)(e:{z with K3:=y.K3}.l.take 15=y.l.take 15)(hd:z.c24.2=.dead):Kp x z:=by simp[RX.l]at e;refine⟨?_,hd⟩;have:=h.a;simp[RX.l]at this⊢;simp[e,this]
@[simp ↓] theorem d4M(lk:D8)(g:N7):fzC lk (GP g)=GP g:=by cases g<;>rfl
@[simp ↓] theorem d2o(g:N7):A7 (GP g)=true:=by cases g<;>rfl
@[simp ↓] theorem d2F(g:N7):l6 (GP g)=[GP g]:=by cases g<;>rfl
@[simp ↓] theorem d3Z(g:N7):one (GP g)=true:=by cases g<;>rfl
@[simp ↓] theorem c3V(g:N7):B6 (GP g)=GP g:=by cases g<;>rfl
@[simp ↓] theorem c7q(g:N7):D9 (GP g)=true:=by cases g<;>rfl
theorem c7A(L:List N7):∀x,x∈L.map GP→D9 x=true:=fun x a=>by obtain⟨g,_,rfl⟩:=G7.1 a;exact c7q g
@[simp ↓] theorem d3G(L:List N7):(L.map GP).all D9=true:=B5.2 (c7A L)
@[simp] theorem d4q(L:List N7):List.map (B6∘GP) L=L.map GP:=O1 fun g _=>c3V g
theorem b0M{y z:RX}(e:a0j z.l=a0j y.l):z.K3=y.K3∧z.J9=y.J9∧z.c14=y.c14∧z.c15=y.c15∧z.c17=y.c17∧z.Q9=y.Q9:=by simp[a0j,RX.l]at e;simp[e]
structure WV where
 (w6 w7 w8 w9 w10 w11 w13 w14 w15 w16 w17 w18 w19 w20 w21 w22 w23 w24 w25 w26 w27 w28 w29 w30:PV)
abbrev VSL(g8:Nat)(v4:PV)(w:WV):List PV:=[.ptr 5 1 0,.nils,.bool false,.ptr 8 g8 0,v4,.mapv 11 1,w.w6,w.w7,w.w8,w.w9,w.w10,w.w11,.bool false,w.w13,w.w14,w.w15,w.w16,w.w17,w.w18,w.w19,w.w20,w.w21,w.w22,w.w23,w.w24,w.w25,w.w26,w.w27,w.w28,w.w29,w.w30]
def LVr(v4:PV)(x:RX)(layer:List N7):Prop:=v4=.slc (layer.map GP)∨∃g10 g9,v4=.own 10 g10 1 1 0 1∧x.c10=(g10,.arr 1 0 false [.ptr 9 g9 0])∧x.c9=(g9,.var [.slc [NQ stN],.lit (.pointer none),.int .u8 0])∧layer=[[([stN],0)]]
structure RLs where
 (s:J2)
 (F:FT)
 (v7:Nat)
 (layer:List N7)
 (d:Nat)
 (x:RX)
 (v4:PV)
 (w:WV)
structure a5U(t:k7)(s:J2)(F:FT)(layer:List N7)(d:Nat):Prop where
 hs:HSI t s
 sr:SrI t s.1 F fun n=>∃g∈layer,n∈gn g
 ok:∀g∈layer,GOk t s.1 F d g∧(gn g).length≤K9 F
 len:layer.length≤K9 F
 dep:layer≠ []→d+1≤K9 F
theorem a5U.root(c:s7 t):a5U t ([⟨0,[]⟩],[none]) a4u [[([stN],0)]] 0:=by refine⟨HSI.root c,SrI.root.mono fun n _ e=>.inl ⟨_,H5.2 rfl,by rw[e];exact H5.2 rfl⟩,fun g b=>?_,p7 _,fun _=>p7 _⟩;rw[H5]at b;subst b;refine⟨⟨rfl,fun n a=>?_⟩,p7 _⟩;have a:n∈[stN]:=a;rw[H5]at a;subst a;exact⟨⟨[],[],⟨0,[]⟩,⟨0,[]⟩,rfl,rfl,⟨rfl,rfl⟩,⟨rfl,rfl⟩,rfl⟩,(SrI.root (t:=t)).rt⟩
structure RGp where
 (k:Nat)
 (s:J2)
 (F:FT)
 (v7:Nat)
 (next:List N7)
 (x:RX)
 (w:WV)
structure GrI(t:k7)(layer:List N7)(d c0 k:Nat)(s:J2)(F:FT)(next:List N7):Prop where
 hs:HSI t s
 ci:CI t s.1 (fun n=>∃g∈layer.drop k,n∈gn g) [] d c0 F next 0
 ok:∀g∈layer.drop k,GOk t s.1 F d g∧(gn g).length≤K9 F
theorem a5U.enter{s:J2}{F:FT}{layer:List N7}{d:Nat}(h:a5U t s F layer d):GrI t layer d (K9 F) 0 s F []:=
 ⟨h.hs,⟨h.sr.mono fun n _ hp=>.inl (.inl (by grind)),fun c b=>absurd b (a7Z _),fun g a=>(by cases a),p7 _⟩,fun g a=>h.ok g (by grind)⟩
theorem CI.start{Hs Hs':List Hf}{Q:Nd→Prop}{B B':BM}{d c0:Nat}{F:FT}{next:List N7}(hp:Hs<+:Hs')(h:CI t Hs Q B d c0 F next 0):CI t Hs' Q B' d c0 F next 0:=
 ⟨h.sr.pre hp,fun c b=>absurd b (a7Z _),fun g a=>⟨(h.nx g a).1.mono hp fun _ _ x=>x,(h.nx g a).2⟩,h.ct⟩
def BSQ(B:BM):List PV:=B.map fun e=>.slc (e.2.map NQ)
@[simp] theorem d3O(B:BM):(BVQ B).map K5=BSQ B:=by unfold BVQ BSQ;rw[a2D];exact O1 fun _ _=>rfl
@[simp ↓] theorem d3N(B:BM):(BVQ B).all mvS=true:=B5.2 fun x a=>by obtain⟨e,_,rfl⟩:=G7.1 a;rfl
@[simp] theorem d2r(B:BM):(BSQ B).length=B.length:=by simp[BSQ]
theorem c0T{B:BM}{c:UInt8}{i:Nat}(a:(B.map (·.1)).idxOf? c=some i):∃hi:i<B.length,(BSQ B)[i]'(by simpa using hi)=.slc ((D4 B c).map NQ):=by obtain⟨hi,h1,_⟩:=a9u (l:=stN) a;refine⟨hi,?_⟩;simp[BSQ,h1]
structure RFo where
 (j:Nat)
 (s:J2)
 (v7:Nat)
 (B:BM)
 (x:RX)
 (w8 w21:PV)
structure RCl where
 (c:Nat)
 (F:FT)
 (next:List N7)
 (x:RX)
 (w6 w9 w10 w11 w23 w24 w25 w26 w27 w28 w29 w30:PV)
structure RNo where
 (j:Nat)
 (F:FT)
 (nodes:List Nd)
 (x:RX)
 (tvn w11 w27 w28 w29:PV)
theorem d0v(t:k7)(I:s7 t)(Z:Sm t)(x:RX)(cc:x.c24.2=.dead)(cM:x.K3=dd):∃r ws,ShR t x r (p8 (SH t ([],[]) [] 0 x) ws)∧FI Tryz.prog (.fn (.func 51) [] []) [.ptr 5 1 0] (SH t ([],[]) [] 0 x) r ws:=by
 refine a7S (φ:=fun r h=>ShR t x r h) mixed (X:=X51) c51 (by rfl) (first:=[]) (cap:=[]) (args:=[.ptr 5 1 0]) (h0:=SH t ([],[]) [] 0 x) (by simp[X51]) k8 (by kernel_rfl) fun Q aN cN=>?_;by_cases C:Live t start
 . obtain⟨w1,bp,bq,br,_,aa⟩:=b3N t ([],[]) [] 0 x ⟨0,[]⟩ k8 rfl;have aO:R2 ([],[]) ⟨0,[]⟩=(0,([⟨0,[]⟩],[none])):=rfl;rw[aO]at bq br;obtain⟨w2,ay,bs,bt,_,bu⟩:=b3N t ([⟨0,[]⟩],[none]) [] 0 bp ⟨0,[]⟩ k8 rfl;have K:R2 ([⟨0,[]⟩],[none]) ⟨0,[]⟩=(0,([⟨0,[]⟩],[none])):=rfl;rw[K]at bs bt;obtain⟨w3,az,b9,ca,bv⟩:=b4F t ([⟨0,[]⟩],[none]) [] 0 {ay with c8:=(ay.c8.1+1,.var [IN 0,IN 0,IN 0,St []])} ⟨0,0,⟨0,[]⟩⟩ k8;simp[X51,SH,C];refine a2T (bq x rfl rfl rfl) br rfl ?_;simp;refine a2T (bs bp rfl rfl rfl) bt rfl ?_;simp[SH];refine a2T b9 ca rfl ?_;have cd:(Y2 [] ⟨0,0,⟨0,[]⟩⟩).2=a4u:=rfl;rw[cd];have bw:=bv;simp[a0j,RX.l]at bw;have bx:Kp x bp:=⟨by have:=congrArg (fun z:RX=>z.l.take 3) aa;exact this,by have:=congrArg (fun z:RX=>z.c24.2) aa;exact Eq.trans this cc⟩
   have bz:Kp x ay:=⟨by have:=congrArg (fun z:RX=>z.l.take 3) bu;exact Eq.trans this bx.a,by have:=congrArg (fun z:RX=>z.c24.2) bu;exact Eq.trans this bx.d⟩
   have Y:az.K3=dd:=(by grind);have bA:Kp x az:=Kp.of (y:={ay with c8:=(ay.c8.1+1,.var [IN 0,IN 0,IN 0,St []])}) ⟨bz.a,bz.d⟩ bv;simp[SH,bw.2.2.2.1,Y];refine F5 (fun(y:RLs) vs h=>a5U t y.s y.F y.layer y.d∧Kp x y.x∧LVr y.v4 y.x y.layer∧(∃ks vs,y.x.K3=(1,.mp false ks vs))∧vs=VSL (ay.c8.1+1) y.v4 y.w∧h=SH t y.s y.F y.v7 y.x) (fun y=>2*(260128513-K9 y.F)+(if y.layer=[]then 0 else 1))
    ⟨([⟨0,[]⟩],[none]),a4u,0,[[([stN],0)]],0,{az with c8:=(ay.c8.1+1,.var [IN 0,IN 0,IN 0,St []]),c9:=(az.c9.1+1,.var [.slc [NQ stN],.lit (.pointer none),.int .u8 0]),c10:=(az.c10.1+1,.arr 1 0 false [.ptr 9 (az.c9.1+1) 0]),K3:=(1,.mp false [] [])},.own 10 (az.c10.1+1) 1 1 0 1,⟨_,_,_,_,_,_,_,_,_,_,_,_,_,_,_,_,_,_,_,_,_,_,_,_⟩⟩
    ⟨a5U.root I,⟨bA.a,bA.d⟩,.inr ⟨_,_,rfl,rfl,rfl,rfl⟩,⟨[],[],rfl⟩,rfl,rfl⟩ ?_
   clear bv bw bx bz bA Y bq bs b9 br bt ca aa bu aO K;obtain⟨g8,ce⟩:=s8 (ay.c8.1+1);rw[←ce];rintro⟨s,F,v7,layer,d,cb,v4,⟨w6,w7,w8,w9,w10,w11,w13,w14,w15,w16,w17,w18,w19,w20,w21,w22,w23,w24,w25,w26,w27,w28,w29,w30⟩⟩ vs h ⟨ab,bi,aA,⟨ks,bj,bB⟩,rfl,rfl⟩ Q2 bk cf bl;dsimp only at ab bi aA bB;have cO:K9 F≤260128512:=a6K ab.sr.cnt (a4v I Z ab.hs.nd ab.hs.hb);by_cases bm:layer=[]
   . subst bm;have cg:v4=.slc []:=by
      rcases aA with aA|⟨_,_,_,_,_,aA⟩
      . exact aA
      . cases aA
     subst cg;have P:¬Two t:=(ab.sr.mono fun n _ ⟨g,L,_⟩=>by cases L).fin I;simp[SH];refine cf _ _ _ ?_;simp;refine aN _ _ _ ⟨.inl ⟨rfl,P⟩,?_⟩ rfl ?_
     . have:=bi.a;exact this
     simp[T8,X51,a2c]
   . have ch:0<layer.length:=a2E.2 bm;rcases aA with rfl|⟨g10,g9,rfl,bC,ci,cj⟩
     . simp[SH,ch];refine F5 (fun(y:RGp) vs h=>GrI t layer d (K9 F) y.k y.s y.F y.next∧y.k≤layer.length∧Kp x y.x∧(∃ks vs,y.x.K3=(1,.mp false ks vs))∧OV 19 1 .nils y.w.w6 y.x.Q9 (y.next.map GP)∧True∧
        vs=VSL g8 (.slc (layer.map GP)) {y.w with w13:=.bool true,w14:=.slc (layer.map GP),w15:=IN layer.length,w16:=IN y.k}∧h=SH t y.s y.F y.v7 y.x) (fun y=>layer.length-y.k)
        ⟨0,s,F,v7,[],cb,⟨_,_,_,_,_,_,.uu,.uu,.uu,.uu,_,_,_,_,_,_,_,_,_,_,_,_,_,_⟩⟩ ⟨ab.enter,E0 _,bi,⟨ks,bj,bB⟩,.inl ⟨rfl,rfl⟩,trivial,rfl,rfl⟩ ?_
       rintro⟨k,s1,F1,aj,next,T,⟨w6,w7,w8,w9,w10,w11,w13,w14,w15,w16,w17,w18,w19,w20,w21,w22,w23,w24,w25,w26,w27,w28,w29,w30⟩⟩ vs h ⟨q,z2,z3,⟨ks,bj,z4⟩,z5,bn,rfl,rfl⟩ Q3 bD bE aQ;dsimp only at q z2 z3 z4 z5 bn;have ck:K9 F1≤260128512:=a6K q.ci.sr.cnt (a4v I Z q.hs.nd q.hs.hb);have cl:=ab.len;have cm:=ab.dep bm;by_cases bo:k<layer.length
       . have bF:=wk1 k j4;have bG:layer.drop k=layer[k]::layer.drop (k+1):=b5u bo;obtain⟨E,aB⟩:=q.ok layer[k] (by grind);obtain⟨ns,G,H,aP⟩:∃ns G H,layer[k]=(ns,G)::H:=by
          cases cn:layer[k]with
          |nil=>rw[cn]at E;cases E.1
          |cons a H=>exact⟨a.1,a.2,H,rfl⟩
         rw[aP]at E aB;obtain⟨g,L⟩:∃g,g=(ns,G)::H:=⟨_,rfl⟩
         rw[←L]at E aB;have bH:gn g=ns:=(by rw[L];rfl);rw[bH]at aB;have aR:∀n∈ns,NS t s1.1 (Y0 g) n:=fun n ak=>(E.2 n (by grind)).1;have co:(Y0 g).length=d:=(by rw[a8L,E.1];rfl);have aC:GP g=.fptr [.slc (ns.map NQ),GP H,.int .u8 G.toNat]:=(by rw[L];rfl);have cp:g≠ []:=(by rw[L];simp);have aS:l6 (GP g)=[GP g]:=(by rw[aC];rfl);have aT:one (GP g)=true:=(by rw[aC];rfl);simp[SH,bo,aP,z4];refine F5 (fun(y:RFo) vs h=>y.j≤ns.length∧FoI t s1 y.s (Y0 g) y.B ns y.j∧Kp x y.x∧y.x.K3=BR y.B∧OV 19 1 .nils w6 y.x.Q9 (next.map GP)∧
          vs=VSL g8 (.slc (layer.map GP)) ⟨w6,GP g,y.w8,w9,w10,w11,.bool true,.slc (layer.map GP),IN layer.length,IN k,.bool true,.slc (ns.map NQ),IN ns.length,IN y.j,y.w21,w22,w23,w24,w25,w26,w27,w28,w29,w30⟩∧h=SH t y.s F1 y.v7 y.x) (fun y=>ns.length-y.j)
          ⟨0,s1,aj,[],{T with K3:=(1,.mp false [] [])},w8,w21⟩ ⟨E0 _,FoI.start q.hs _ _,⟨z3.a,z3.d⟩,rfl,z5,by rw[←aC];rfl,rfl⟩ ?_
         rintro⟨j,s2,v72,B,ac,w8,w21⟩ vs h ⟨a1,a2,a3,a4,a5,rfl,rfl⟩ Q4 bI bJ cq;dsimp only at a1 a2 a3 a4 a5;by_cases hj:j<ns.length
         . have ad:=wk1 j j4;have ak:=(aR _ (C4 hj)).mono a2.pre;have bK:=ak.b9p I;obtain⟨n,aU⟩:=s8 (ns[j]);have aV:=a2.next I Z aR hj;rw[←aU]at ak bK aV;obtain⟨cr,p,bL,bM,bN,bO,aW,bP⟩:=b8L t I Z s2 a2.hs F1 v72 {ac with c12:=(ac.c12.1+1,.var [IN n.a,IN n.b,IN n.l.s,St n.l.x])} n (Y0 g) ak B (a2.bd.up j4) a4 a3.d j4;have aX:=aW;simp[RX.l]at aX;simp[SH,hj,←aU];refine a2T bM bN rfl ?_;simp[ad];exact bI ⟨j+1,_,bL,_,p,_,_⟩ _ _ (by grind) ⟨u7,aV,Kp.of2 (y:={ac with c12:=(ac.c12.1+1,.var [IN n.a,IN n.b,IN n.l.s,St n.l.x])}) ⟨a3.a,a3.d⟩ aW bP,bO,by dsimp only;rw[aX.2.2.2.2.2.2.2.2.2.2.2.2.2];exact a5,rfl,rfl⟩
         . obtain rfl:j=ns.length:=j4;have aY:=a2.fol;rw[K8]at aY;simp[SH];refine bJ _ _ _ ?_;simp[SH,a4];refine F5 (fun(y:RCl) vs h=>y.c≤63∧CI t s2.1 (fun n=>∃g∈layer.drop k,n∈gn g) B d (K9 F) y.F y.next y.c∧Kp x y.x∧y.x.K3=(1,.mp false (BKQ B) (BSQ B))∧OV 19 1 .nils y.w6 y.x.Q9 (y.next.map GP)∧FLe F1 y.F∧K9 F1≤K9 y.F∧
            vs=VSL g8 (.slc (layer.map GP)) ⟨y.w6,GP g,w8,y.w9,y.w10,y.w11,.bool true,.slc (layer.map GP),IN layer.length,IN k,.bool true,.slc (ns.map NQ),IN ns.length,IN ns.length,.bool false,.int .u8 y.c,y.w23,y.w24,y.w25,y.w26,y.w27,y.w28,y.w29,y.w30⟩∧h=SH t s2 y.F v72 y.x) (fun y=>63-y.c)
            ⟨0,F1,next,{ac with K3:=(1,.mp false (BKQ B) (BSQ B))},_,_,_,_,_,_,_,_,_,_,_,_⟩ ⟨E0 _,q.ci.start a2.pre,⟨a3.a,a3.d⟩,rfl,a5,fun _ _ h=>h,p7 _,rfl,rfl⟩ ?_
           rintro⟨c,F2,M,p,w6,w9,w10,w11,w23,w24,w25,w26,w27,w28,w29,w30⟩ vs h ⟨bQ,U,V,N,al,am,an,rfl,rfl⟩ Q5 ao bR aZ;dsimp only at bQ U V N al am an;have cs:K9 F2≤260128512:=a6K U.sr.cnt (a4v I Z a2.hs.nd a2.hs.hb);have ct:=U.ct;by_cases a0:c<63
           . obtain⟨f,rfl⟩:∃f:UInt8,c=f.toNat:=⟨UInt8.ofNat c,(ofNat_toNat j4).symm⟩
             have ae:IntKind.u8.wrap ((f.toNat:Int)+1)=((f.toNat+1:Nat):Int):=a4p j4 j4;cases af:(B.map (·.1)).idxOf? f with
             |none=>
              have bS:D4 B f=[]:=(b1h (l:=stN) af).2;have C:=NI.leave E (by rw[bS];exact U.enter (Y0 g) []);simp[SH,a0,af,ae,N,aS,aT];refine F5 (fun(_:Unit) vs h=>vs=VSL g8 (.slc (layer.map GP)) ⟨w6,GP g,w8,.int .u8 f.toNat,.ptr 13 (p.J9.1+1) 0,w11,.bool true,.slc (layer.map GP),IN layer.length,IN k,.bool true,.slc (ns.map NQ),IN ns.length,IN ns.length,.bool false,.int .u8 f.toNat,.bool true,.nils,IN 0,IN 0,w27,w28,w29,w30⟩∧h=SH t s2 F2 v72 {p with J9:=(p.J9.1+1,.var [.nils,GP g,.int .u8 f.toNat])}) (fun _=>0) () ?_ ?_
              . exact⟨rfl,by simp[SH,N]⟩
              rintro _ vs h1 ⟨rfl,rfl⟩ Q6 ap aD aE;simp[SH];refine aD _ _ _ ?_;simp[ae];rw[if_pos rfl]at C;exact ao ⟨f.toNat+1,F2,M,{p with J9:=(p.J9.1+1,.var [.nils,GP g,.int .u8 f.toNat])},w6,_,_,_,_,_,_,_,_,_,_,_⟩ _ _ (by grind) ⟨u7,C,⟨V.a,V.d⟩,N,al,am,an,rfl,rfl⟩
             |some i=>
              obtain⟨hi,bT⟩:=c0T af;have cu:(D4 B f).length≤4096*ns.length:=by obtain⟨bU,h1,_⟩:=a9u (l:=stN) af;have P:=(a2.bd _ (C4 bU)).2;rw[h1]at P;exact P
              simp[SH,a0,af,hi,bT,N,aS,aT];refine F5 (fun(y:RNo) vs h=>y.j≤(D4 B f).length∧NI t s2.1 (fun n=>∃g∈layer.drop k,n∈gn g) B d (K9 F) M (Y0 g) f (D4 B f) y.F y.nodes y.j∧FLe F1 y.F∧K9 F1≤K9 y.F∧Kp x y.x∧y.x.K3=(1,.mp false (BKQ B) (BSQ B))∧OV 19 1 .nils w6 y.x.Q9 (M.map GP)∧
               y.x.J9=(p.J9.1+1,.var [y.tvn,GP g,.int .u8 f.toNat])∧OV 17 4 .nils y.tvn y.x.c17 (y.nodes.map NQ)∧vs=VSL g8 (.slc (layer.map GP)) ⟨w6,GP g,w8,.int .u8 f.toNat,.ptr 13 (p.J9.1+1) 0,y.w11,.bool true,.slc (layer.map GP),IN layer.length,IN k,.bool true,.slc (ns.map NQ),IN ns.length,IN ns.length,.bool false,.int .u8 f.toNat,.bool true,.slc ((D4 B f).map NQ),IN (D4 B f).length,IN y.j,y.w27,y.w28,y.w29,w30⟩∧h=SH t s2 y.F v72 y.x) (fun y=>(D4 B f).length-y.j)
               ⟨0,F2,[],{p with J9:=(p.J9.1+1,.var [.nils,GP g,.int .u8 f.toNat])},.nils,w11,w27,w28,w29⟩ ?_ ?_
              . exact⟨E0 _,U.enter _ _,am,an,⟨V.a,V.d⟩,N,al,rfl,.inl ⟨rfl,rfl⟩,rfl,by simp[SH,N]⟩
              rintro⟨j,F3,nodes,w,tvn,w11,w27,w28,w29⟩ vs h ⟨aO,K,R,S,J,ag,A,ah,o,rfl,rfl⟩ Q6 ap aD aE;dsimp only at aO K R S J ag A ah o;have cv:K9 F3≤260128512:=a6K K.sr.cnt (a4v I Z a2.hs.nd a2.hs.hb);have cw:=K.ct;by_cases hj:j<(D4 B f).length
              . have ad:=wk1 j j4;obtain⟨m,hm⟩:=s8 ((D4 B f)[j]);obtain⟨aF,bV⟩:=a2.snd f _ (C4 hj);rw[←hm]at aF bV;obtain⟨cx,aG,bW,bX,a6⟩:=b4F t s2 F3 v72 {w with c14:=(w.c14.1+1,.var [IN m.a,IN m.b,IN m.l.s,St m.l.x])} m (fun e he=>(K.sr.tw e he).1);have a7:Kp x aG:=Kp.of (y:={w with c14:=(w.c14.1+1,.var [IN m.a,IN m.b,IN m.l.s,St m.l.x])}) ⟨J.a,J.d⟩ a6;obtain⟨Y,aq,ar,bY,a8,a9⟩:=b0M a6;dsimp only at Y aq ar bY a8 a9;rw[ag]at Y;rw[ah]at aq;rw[←a8]at o;rw[←a9]at A;simp[SH,hj,←hm];refine a2T bW bX rfl ?_;cases cy:(Y2 F3 m).1 with
                |false=>
                 obtain⟨ba,bZ⟩:=K.skip hj (by grind);rw[←hm]at ba;rw[ba];simp[ad,SH];exact ap ⟨j+1,F3,nodes,aG,tvn,_,_,_,_⟩ _ _ (by grind) ⟨u7,bZ,R,S,a7,Y,A,aq,o,rfl,rfl⟩
                |true=>
                 obtain⟨u,v,bb,hb,bc,bd,_⟩:=id aF;obtain⟨c,cz,O,b0,b1,b2,be⟩:=b9a t s2 (Y2 F3 m).2 v72 aG m bb hb bc bd (a2.hs.hb bb (D0 bc)).1 (a2.hs.hb hb (D0 bd)).1;have W:Kp x O:=Kp.of a7 be;obtain⟨aH,r13,ai,cA,b3,b4⟩:=b0M be;rw[Y]at aH;rw[aq]at r13;rw[←b3]at o;rw[←b4]at A;rw[ar]at ai;simp[SH,ar];refine a2T b1 b2 (by simp[SH,ar]) ?_;cases c with
                 |true=>
                  have aI:=c1o ((nodes,f)::g) k8 (by simp only[S9,E.1];omega);obtain⟨bf,ty,aa,aJ,bg⟩:=b9h I aF (b0.1 rfl);rw[←E.word nodes f]at aa aJ;have cB:(Y0 ((nodes,f)::g)).length=d+1:=(by rw[a8L,S9,E.1];rfl);rcases o with⟨rfl,o⟩|⟨g17,rfl,o,aK⟩
                  . obtain rfl:=a5q.1 o;rw[c1w,List.map_nil]at aI;simp[SH,r13,ai];refine l8 aI ?_;simp;refine aE _ _ ?_;simp;refine aZ _ _ ?_;simp;refine aQ _ _ ?_;simp;refine bl _ _ ?_;simp;refine aN _ _ _ ⟨.inr ⟨_,_,rfl,rfl,j4,bf,ty,aa,aJ,bg⟩,W.a⟩ rfl ?_;simp[T8,X51,a2c]
                  . simp[SH,r13,ai,o];refine l8 aI ?_;simp;refine aE _ _ ?_;simp;refine aZ _ _ ?_;simp;refine aQ _ _ ?_;simp;refine bl _ _ ?_;simp;refine aN _ _ _ ⟨.inr ⟨_,_,rfl,rfl,j4,bf,ty,aa,aJ,bg⟩,W.a⟩ rfl ?_;simp[T8,X51,a2c]
                 |false=>
                  have au:=K.add hj (by grind) (by grind) (by grind);rw[←hm]at au;rcases o with⟨rfl,o⟩|⟨g17,rfl,o,aK⟩
                  . obtain rfl:=a5q.1 o;simp[SH,r13,ai,ad];exact ap ⟨j+1,(Y2 F3 m).2,[m],{O with J9:=(p.J9.1+1,.var [.own 17 (O.c17.1+1) 1 4 0 1,GP g,.int .u8 f.toNat]),c14:=(w.c14.1+1,.var [IN m.a,IN m.b,IN m.l.s,St m.l.x]),c16:=(O.c16.1+1,.dead),c17:=(O.c17.1+1,.arr 4 0 false [NQ m])},.own 17 (O.c17.1+1) 1 4 0 1,_,_,_,_⟩ _ _ (by grind) ⟨u7,au,fun a b h=>FLe.rec _ _ a b (R a b h),U3 S (b0K _ _),⟨W.a,W.d⟩,aH,A,rfl,.inr ⟨_,rfl,rfl,k8⟩,rfl,rfl⟩
                  . obtain⟨D,aL⟩:=s8 (nodes++[m]);have f1:nodes.map NQ++[NQ m]=D.map NQ:=(by grind);have f2:nodes.length+1=D.length:=(by rw[aL];simp);have f3:D.length*40≤140737488355328:=j4;have f4:D≠ []:=(by rw[aL];simp);rw[←aL]at au;simp[SH,r13,ai,o,ad,f1,f2,f3];exact ap ⟨j+1,(Y2 F3 m).2,D,{O with J9:=(p.J9.1+1,.var [.own 17 g17 D.length 4 0 D.length,GP g,.int .u8 f.toNat]),c14:=(w.c14.1+1,.var [IN m.a,IN m.b,IN m.l.s,St m.l.x]),c16:=(O.c16.1+1,.dead),c17:=(g17,.arr 4 0 false (D.map NQ))},.own 17 g17 D.length 4 0 D.length,_,_,_,_⟩ _ _ (by grind) ⟨u7,au,fun a b h=>FLe.rec _ _ a b (R a b h),U3 S (b0K _ _),⟨W.a,W.d⟩,aH,A,rfl,.inr ⟨g17,by rw[O0],rfl,by simp[f4]⟩,rfl,rfl⟩
              . obtain rfl:j=(D4 B f).length:=j4;have C:=NI.leave E K;simp[SH];refine aD _ _ _ ?_;rcases o with⟨rfl,o⟩|⟨g17,rfl,o,aK⟩
                . obtain rfl:=a5q.1 o;rw[if_pos rfl]at C;simp[ah,ae];exact ao ⟨f.toNat+1,F3,M,{w with J9:=(p.J9.1+1,.var [.nils,GP g,.int .u8 f.toNat])},w6,_,_,_,_,_,_,_,_,_,_,_⟩ _ _ (by grind) ⟨u7,C,⟨J.a,J.d⟩,ag,A,R,S,rfl,rfl⟩
                . have av:nodes≠ []:=fun h=>aK (by rw[h];rfl);have aM:0<nodes.length:=a2E.2 av;rw[if_neg av]at C;subst L;rcases A with⟨rfl,A⟩|⟨g19,rfl,A,cC⟩
                  . obtain rfl:=a5q.1 A;simp[ah,o,ae,aM];exact ao ⟨f.toNat+1,F3,[(nodes,f)::(ns,G)::H],{w with J9:=(p.J9.1+1,.dead),c17:=(g17,.arr 4 1 true (nodes.map NQ)),c18:=(w.c18.1+1,.dead),Q9:=(w.Q9.1+1,.arr 1 0 false [GP ((nodes,f)::(ns,G)::H)])},.own 19 (w.Q9.1+1) 1 1 0 1,_,_,_,_,_,_,_,_,_,_,_⟩ _ _ (by grind) ⟨u7,C,⟨J.a,J.d⟩,ag,.inr ⟨_,rfl,rfl,k8⟩,R,S,rfl,rfl⟩
                  . obtain⟨nx,aw⟩:∃nx,nx=M++[(nodes,f)::(ns,G)::H]:=⟨_,rfl⟩
                    have f1:M.map GP++[.fptr [.slc (nodes.map NQ),.fptr [.slc (ns.map NQ),GP H,.int .u8 G.toNat],.int .u8 f.toNat]]=nx.map GP:=(by rw[aw,S0];rfl);have f2:M.length+1=nx.length:=(by rw[aw];simp);have f3:nx.length*8≤140737488355328:=j4;have f4:nx≠ []:=(by rw[aw];simp);rw[←aw]at C;simp[ah,o,A,ae,aM,f1,f2,f3];exact ao ⟨f.toNat+1,F3,nx,{w with J9:=(p.J9.1+1,.dead),c17:=(g17,.arr 4 1 true (nodes.map NQ)),c18:=(w.c18.1+1,.dead),Q9:=(g19,.arr 1 0 false (nx.map GP))},.own 19 g19 nx.length 1 0 nx.length,_,_,_,_,_,_,_,_,_,_,_⟩ _ _ (by grind) ⟨u7,C,⟨J.a,J.d⟩,ag,.inr ⟨g19,by rw[O0],rfl,by simp[f4]⟩,R,S,rfl,rfl⟩
           . obtain rfl:c=63:=j4;have b5:=U.done I a2.hs (ns:=ns) aY (Q':=fun n=>∃g∈layer.drop (k+1),n∈gn g) fun n ⟨ax,h1,P⟩=>by
              rw[bG]at h1;rcases Y8.1 h1 with h1|h1
              . rw[h1,aP]at P;exact .inr P
              . exact .inl ⟨ax,h1,P⟩
             simp[SH];refine bR _ _ _ ?_;simp[bF];exact bD ⟨k+1,s2,F2,v72,M,p,⟨w6,_,_,_,_,_,.uu,.uu,.uu,.uu,_,_,_,_,_,_,_,_,_,_,_,_,_,_⟩⟩ _ _ (by grind) ⟨⟨a2.hs,b5.start (a5p _),fun ax cD=>⟨(q.ok ax (by grind)).1.mono a2.pre am,U3 (q.ok ax (by grind)).2 an⟩⟩,u7,V,⟨_,_,N⟩,al,trivial,rfl,rfl⟩
       . obtain rfl:k=layer.length:=j4;have cE:=q.ci.ct;simp[SH];refine bE _ _ _ ?_;have bh:a5U t s1 F1 next (d+1):=⟨q.hs,q.ci.sr.mono fun n _ hp=>.inl (hp.elim (fun⟨g,L,_⟩=>by simp at L) id),q.ci.nx,j4,fun b6=>by have:=a2E.2 b6;omega⟩
         rcases z5 with⟨rfl,z5⟩|⟨g19,rfl,z5,b7⟩
         . obtain rfl:=a5q.1 z5;simp[-a0w];exact bk ⟨s1,F1,aj,[],d+1,{T with Q9:=(T.Q9.1,a0w (SH t s1 F1 aj T) true T.Q9.2)},.slc [],⟨_,_,_,_,_,_,_,_,_,_,_,_,_,_,_,_,_,_,_,_,_,_,_,_⟩⟩ _ _ (by grind) ⟨bh,⟨z3.a,z3.d⟩,.inl rfl,⟨_,_,z4⟩,rfl,rfl⟩
         . have av:next≠ []:=fun h=>b7 (by rw[h];rfl)
           have aM:0<next.length:=a2E.2 av
           simp[z5];exact bk ⟨s1,F1,aj,next,d+1,{T with Q9:=(g19,.arr 1 1 true (next.map GP))},.slc (next.map GP),⟨_,_,_,_,_,_,_,_,_,_,_,_,_,_,_,_,_,_,_,_,_,_,_,_⟩⟩ _ _ (by grind) ⟨bh,⟨z3.a,z3.d⟩,.inl rfl,⟨_,_,z4⟩,rfl,rfl⟩
     . simp[SH,bC];have cF:layer.length=1:=(by rw[cj];rfl);refine F5 (fun(y:RGp) vs h=>GrI t layer d (K9 F) y.k y.s y.F y.next∧y.k≤layer.length∧Kp x y.x∧(∃ks vs,y.x.K3=(1,.mp false ks vs))∧OV 19 1 .nils y.w.w6 y.x.Q9 (y.next.map GP)∧(y.k=0→y.x.c10=(g10,.arr 1 0 false [.ptr 9 g9 0])∧y.x.c9=(g9,.var [.slc [NQ stN],.lit (.pointer none),.int .u8 0]))∧
        vs=VSL g8 (.own 10 g10 1 1 0 1) {y.w with w13:=.bool true,w14:=.own 10 g10 1 1 0 1,w15:=IN 1,w16:=IN y.k}∧h=SH t y.s y.F y.v7 y.x) (fun y=>layer.length-y.k)
        ⟨0,s,F,v7,[],cb,⟨_,_,_,_,_,_,.uu,.uu,.uu,.uu,_,_,_,_,_,_,_,_,_,_,_,_,_,_⟩⟩ ⟨ab.enter,E0 _,bi,⟨ks,bj,bB⟩,.inl ⟨rfl,rfl⟩,fun _=>⟨bC,ci⟩,rfl,by dsimp only[SH];rw[bC]⟩ ?_
       rintro⟨k,s1,F1,aj,next,T,⟨w6,w7,w8,w9,w10,w11,w13,w14,w15,w16,w17,w18,w19,w20,w21,w22,w23,w24,w25,w26,w27,w28,w29,w30⟩⟩ vs h ⟨q,z2,z3,⟨ks,bj,z4⟩,z5,bn,rfl,rfl⟩ Q3 bD bE aQ;dsimp only at q z2 z3 z4 z5 bn;have ck:K9 F1≤260128512:=a6K q.ci.sr.cnt (a4v I Z q.hs.nd q.hs.hb);have cl:=ab.len;have cm:=ab.dep bm;by_cases bo:k<layer.length
       . have bF:=wk1 k j4;have bG:layer.drop k=layer[k]::layer.drop (k+1):=b5u bo;obtain⟨E,aB⟩:=q.ok layer[k] (by grind);obtain⟨ns,G,H,aP⟩:∃ns G H,layer[k]=(ns,G)::H:=(by grind);rw[aP]at E aB;obtain⟨g,L⟩:∃g,g=(ns,G)::H:=⟨_,rfl⟩
         rw[←L]at E aB;have bH:gn g=ns:=(by rw[L];rfl);rw[bH]at aB;have aR:∀n∈ns,NS t s1.1 (Y0 g) n:=fun n ak=>(E.2 n (by grind)).1;have co:(Y0 g).length=d:=(by rw[a8L,E.1];rfl);have aC:GP g=.fptr [.slc (ns.map NQ),GP H,.int .u8 G.toNat]:=(by rw[L];rfl);have cp:g≠ []:=(by rw[L];simp);have aS:l6 (GP g)=[GP g]:=(by rw[aC];rfl);have aT:one (GP g)=true:=(by rw[aC];rfl);have b8:k=0:=j4;obtain⟨cG,z9⟩:=bn b8;obtain⟨cH,cI,cJ⟩:ns=[stN]∧G=0∧H=[]:=(by grind);have cK:GP g=.fptr [.slc (ns.map NQ),.lit (.pointer none),.int .u8 G.toNat]:=(by rw[aC,cJ];rfl);have cL:T.c9=(g9,.var [.slc (ns.map NQ),.lit (.pointer none),.int .u8 G.toNat]):=(by rw[z9,cH,cI];rfl);simp[SH,b8,cG,cL,z4];refine F5 (fun(y:RFo) vs h=>y.j≤ns.length∧FoI t s1 y.s (Y0 g) y.B ns y.j∧Kp x y.x∧y.x.K3=BR y.B∧OV 19 1 .nils w6 y.x.Q9 (next.map GP)∧
          vs=VSL g8 (.own 10 g10 1 1 0 1) ⟨w6,GP g,y.w8,w9,w10,w11,.bool true,.own 10 g10 1 1 0 1,IN 1,IN k,.bool true,.slc (ns.map NQ),IN ns.length,IN y.j,y.w21,w22,w23,w24,w25,w26,w27,w28,w29,w30⟩∧h=SH t y.s F1 y.v7 y.x) (fun y=>ns.length-y.j)
          ⟨0,s1,aj,[],{T with c9:=(g9,.dead),c10:=(g10,.arr 1 0 false [.ptr 9 g9 0]),K3:=(1,.mp false [] [])},w8,w21⟩ ⟨E0 _,FoI.start q.hs _ _,⟨z3.a,z3.d⟩,rfl,z5,by rw[←cK,b8];rfl,rfl⟩ ?_
         rintro⟨j,s2,v72,B,ac,w8,w21⟩ vs h ⟨a1,a2,a3,a4,a5,rfl,rfl⟩ Q4 bI bJ cq;dsimp only at a1 a2 a3 a4 a5;by_cases hj:j<ns.length
         . have ad:=wk1 j j4;have ak:=(aR _ (C4 hj)).mono a2.pre;have bK:=ak.b9p I;obtain⟨n,aU⟩:=s8 (ns[j]);have aV:=a2.next I Z aR hj;rw[←aU]at ak bK aV;obtain⟨cr,p,bL,bM,bN,bO,aW,bP⟩:=b8L t I Z s2 a2.hs F1 v72 {ac with c12:=(ac.c12.1+1,.var [IN n.a,IN n.b,IN n.l.s,St n.l.x])} n (Y0 g) ak B (a2.bd.up j4) a4 a3.d j4;have aX:=aW;simp[RX.l]at aX;simp[SH,hj,←aU];refine a2T bM bN rfl ?_;simp[ad];exact bI ⟨j+1,_,bL,_,p,_,_⟩ _ _ (by grind) ⟨u7,aV,Kp.of2 (y:={ac with c12:=(ac.c12.1+1,.var [IN n.a,IN n.b,IN n.l.s,St n.l.x])}) ⟨a3.a,a3.d⟩ aW bP,bO,by dsimp only;rw[aX.2.2.2.2.2.2.2.2.2.2.2.2.2];exact a5,rfl,rfl⟩
         . obtain rfl:j=ns.length:=j4;have aY:=a2.fol;rw[K8]at aY;simp[SH];refine bJ _ _ _ ?_;simp[SH,a4];refine F5 (fun(y:RCl) vs h=>y.c≤63∧CI t s2.1 (fun n=>∃g∈layer.drop k,n∈gn g) B d (K9 F) y.F y.next y.c∧Kp x y.x∧y.x.K3=(1,.mp false (BKQ B) (BSQ B))∧OV 19 1 .nils y.w6 y.x.Q9 (y.next.map GP)∧FLe F1 y.F∧K9 F1≤K9 y.F∧
            vs=VSL g8 (.own 10 g10 1 1 0 1) ⟨y.w6,GP g,w8,y.w9,y.w10,y.w11,.bool true,.own 10 g10 1 1 0 1,IN 1,IN k,.bool true,.slc (ns.map NQ),IN ns.length,IN ns.length,.bool false,.int .u8 y.c,y.w23,y.w24,y.w25,y.w26,y.w27,y.w28,y.w29,y.w30⟩∧h=SH t s2 y.F v72 y.x) (fun y=>63-y.c)
            ⟨0,F1,next,{ac with K3:=(1,.mp false (BKQ B) (BSQ B))},_,_,_,_,_,_,_,_,_,_,_,_⟩ ⟨E0 _,q.ci.start a2.pre,⟨a3.a,a3.d⟩,rfl,a5,fun _ _ h=>h,p7 _,rfl,rfl⟩ ?_
           rintro⟨c,F2,M,p,w6,w9,w10,w11,w23,w24,w25,w26,w27,w28,w29,w30⟩ vs h ⟨bQ,U,V,N,al,am,an,rfl,rfl⟩ Q5 ao bR aZ;dsimp only at bQ U V N al am an;have cs:K9 F2≤260128512:=a6K U.sr.cnt (a4v I Z a2.hs.nd a2.hs.hb);have ct:=U.ct;by_cases a0:c<63
           . obtain⟨f,rfl⟩:∃f:UInt8,c=f.toNat:=⟨UInt8.ofNat c,(ofNat_toNat j4).symm⟩
             have ae:IntKind.u8.wrap ((f.toNat:Int)+1)=((f.toNat+1:Nat):Int):=a4p j4 j4;cases af:(B.map (·.1)).idxOf? f with
             |none=>
              have bS:D4 B f=[]:=(b1h (l:=stN) af).2;have C:=NI.leave E (by rw[bS];exact U.enter (Y0 g) []);simp[SH,a0,af,ae,N,aS,aT];refine F5 (fun(_:Unit) vs h=>vs=VSL g8 (.own 10 g10 1 1 0 1) ⟨w6,GP g,w8,.int .u8 f.toNat,.ptr 13 (p.J9.1+1) 0,w11,.bool true,.own 10 g10 1 1 0 1,IN 1,IN k,.bool true,.slc (ns.map NQ),IN ns.length,IN ns.length,.bool false,.int .u8 f.toNat,.bool true,.nils,IN 0,IN 0,w27,w28,w29,w30⟩∧h=SH t s2 F2 v72 {p with J9:=(p.J9.1+1,.var [.nils,GP g,.int .u8 f.toNat])}) (fun _=>0) () ?_ ?_
              . exact⟨rfl,by simp[SH,N]⟩
              rintro _ vs h1 ⟨rfl,rfl⟩ Q6 ap aD aE;simp[SH];refine aD _ _ _ ?_;simp[ae];rw[if_pos rfl]at C;exact ao ⟨f.toNat+1,F2,M,{p with J9:=(p.J9.1+1,.var [.nils,GP g,.int .u8 f.toNat])},w6,_,_,_,_,_,_,_,_,_,_,_⟩ _ _ (by grind) ⟨u7,C,⟨V.a,V.d⟩,N,al,am,an,rfl,rfl⟩
             |some i=>
              obtain⟨hi,bT⟩:=c0T af;have cu:(D4 B f).length≤4096*ns.length:=by obtain⟨bU,h1,_⟩:=a9u (l:=stN) af;have P:=(a2.bd _ (C4 bU)).2;rw[h1]at P;exact P
              simp[SH,a0,af,hi,bT,N,aS,aT];refine F5 (fun(y:RNo) vs h=>y.j≤(D4 B f).length∧NI t s2.1 (fun n=>∃g∈layer.drop k,n∈gn g) B d (K9 F) M (Y0 g) f (D4 B f) y.F y.nodes y.j∧FLe F1 y.F∧K9 F1≤K9 y.F∧Kp x y.x∧y.x.K3=(1,.mp false (BKQ B) (BSQ B))∧OV 19 1 .nils w6 y.x.Q9 (M.map GP)∧
               y.x.J9=(p.J9.1+1,.var [y.tvn,GP g,.int .u8 f.toNat])∧OV 17 4 .nils y.tvn y.x.c17 (y.nodes.map NQ)∧vs=VSL g8 (.own 10 g10 1 1 0 1) ⟨w6,GP g,w8,.int .u8 f.toNat,.ptr 13 (p.J9.1+1) 0,y.w11,.bool true,.own 10 g10 1 1 0 1,IN 1,IN k,.bool true,.slc (ns.map NQ),IN ns.length,IN ns.length,.bool false,.int .u8 f.toNat,.bool true,.slc ((D4 B f).map NQ),IN (D4 B f).length,IN y.j,y.w27,y.w28,y.w29,w30⟩∧h=SH t s2 y.F v72 y.x) (fun y=>(D4 B f).length-y.j)
               ⟨0,F2,[],{p with J9:=(p.J9.1+1,.var [.nils,GP g,.int .u8 f.toNat])},.nils,w11,w27,w28,w29⟩ ?_ ?_
              . exact⟨E0 _,U.enter _ _,am,an,⟨V.a,V.d⟩,N,al,rfl,.inl ⟨rfl,rfl⟩,rfl,by simp[SH,N]⟩
              rintro⟨j,F3,nodes,w,tvn,w11,w27,w28,w29⟩ vs h ⟨aO,K,R,S,J,ag,A,ah,o,rfl,rfl⟩ Q6 ap aD aE;dsimp only at aO K R S J ag A ah o;have cv:K9 F3≤260128512:=a6K K.sr.cnt (a4v I Z a2.hs.nd a2.hs.hb);have cw:=K.ct;by_cases hj:j<(D4 B f).length
              . have ad:=wk1 j j4;obtain⟨m,hm⟩:=s8 ((D4 B f)[j]);obtain⟨aF,bV⟩:=a2.snd f _ (C4 hj);rw[←hm]at aF bV;obtain⟨cx,aG,bW,bX,a6⟩:=b4F t s2 F3 v72 {w with c14:=(w.c14.1+1,.var [IN m.a,IN m.b,IN m.l.s,St m.l.x])} m (fun e he=>(K.sr.tw e he).1);have a7:Kp x aG:=Kp.of (y:={w with c14:=(w.c14.1+1,.var [IN m.a,IN m.b,IN m.l.s,St m.l.x])}) ⟨J.a,J.d⟩ a6;obtain⟨Y,aq,ar,bY,a8,a9⟩:=b0M a6;dsimp only at Y aq ar bY a8 a9;rw[ag]at Y;rw[ah]at aq;rw[←a8]at o;rw[←a9]at A;simp[SH,hj,←hm];refine a2T bW bX rfl ?_;cases cy:(Y2 F3 m).1 with
                |false=>
                 obtain⟨ba,bZ⟩:=K.skip hj (by grind);rw[←hm]at ba;rw[ba];simp[ad,SH];exact ap ⟨j+1,F3,nodes,aG,tvn,_,_,_,_⟩ _ _ (by grind) ⟨u7,bZ,R,S,a7,Y,A,aq,o,rfl,rfl⟩
                |true=>
                 obtain⟨u,v,bb,hb,bc,bd,_⟩:=id aF;obtain⟨c,cz,O,b0,b1,b2,be⟩:=b9a t s2 (Y2 F3 m).2 v72 aG m bb hb bc bd (a2.hs.hb bb (D0 bc)).1 (a2.hs.hb hb (D0 bd)).1;have W:Kp x O:=Kp.of a7 be;obtain⟨aH,r13,ai,cA,b3,b4⟩:=b0M be;rw[Y]at aH;rw[aq]at r13;rw[←b3]at o;rw[←b4]at A;rw[ar]at ai;simp[SH,ar];refine a2T b1 b2 (by simp[SH,ar]) ?_;cases c with
                 |true=>
                  have aI:=c1o ((nodes,f)::g) k8 (by grind);obtain⟨bf,ty,aa,aJ,bg⟩:=b9h I aF (b0.1 rfl);rw[←E.word nodes f]at aa aJ;have cB:(Y0 ((nodes,f)::g)).length=d+1:=(by rw[a8L,S9,E.1];rfl);rcases o with⟨rfl,o⟩|⟨g17,rfl,o,aK⟩
                  . obtain rfl:=a5q.1 o;rw[c1w,List.map_nil]at aI;simp[SH,r13,ai];refine l8 aI ?_;simp;refine aE _ _ ?_;simp;refine aZ _ _ ?_;simp;refine aQ _ _ ?_;simp;refine bl _ _ ?_;simp;refine aN _ _ _ ⟨.inr ⟨_,_,rfl,rfl,j4,bf,ty,aa,aJ,bg⟩,W.a⟩ rfl ?_;simp[T8,X51,a2c]
                  . simp[SH,r13,ai,o];refine l8 aI ?_;simp;refine aE _ _ ?_;simp;refine aZ _ _ ?_;simp;refine aQ _ _ ?_;simp;refine bl _ _ ?_;simp;refine aN _ _ _ ⟨.inr ⟨_,_,rfl,rfl,j4,bf,ty,aa,aJ,bg⟩,W.a⟩ rfl ?_;simp[T8,X51,a2c]
                 |false=>
                  have au:=K.add hj (by grind) (by grind) (by grind);rw[←hm]at au;rcases o with⟨rfl,o⟩|⟨g17,rfl,o,aK⟩
                  . obtain rfl:=a5q.1 o;simp[SH,r13,ai,ad];exact ap ⟨j+1,(Y2 F3 m).2,[m],{O with J9:=(p.J9.1+1,.var [.own 17 (O.c17.1+1) 1 4 0 1,GP g,.int .u8 f.toNat]),c14:=(w.c14.1+1,.var [IN m.a,IN m.b,IN m.l.s,St m.l.x]),c16:=(O.c16.1+1,.dead),c17:=(O.c17.1+1,.arr 4 0 false [NQ m])},.own 17 (O.c17.1+1) 1 4 0 1,_,_,_,_⟩ _ _ (by grind) ⟨u7,au,fun a b h=>FLe.rec _ _ a b (R a b h),U3 S (b0K _ _),⟨W.a,W.d⟩,aH,A,rfl,.inr ⟨_,rfl,rfl,k8⟩,rfl,rfl⟩
                  . obtain⟨D,aL⟩:=s8 (nodes++[m]);have f1:nodes.map NQ++[NQ m]=D.map NQ:=(by grind);have f2:nodes.length+1=D.length:=(by rw[aL];simp);have f3:D.length*40≤140737488355328:=j4;have f4:D≠ []:=(by rw[aL];simp);rw[←aL]at au;simp[SH,r13,ai,o,ad,f1,f2,f3];exact ap ⟨j+1,(Y2 F3 m).2,D,{O with J9:=(p.J9.1+1,.var [.own 17 g17 D.length 4 0 D.length,GP g,.int .u8 f.toNat]),c14:=(w.c14.1+1,.var [IN m.a,IN m.b,IN m.l.s,St m.l.x]),c16:=(O.c16.1+1,.dead),c17:=(g17,.arr 4 0 false (D.map NQ))},.own 17 g17 D.length 4 0 D.length,_,_,_,_⟩ _ _ (by grind) ⟨u7,au,fun a b h=>FLe.rec _ _ a b (R a b h),U3 S (b0K _ _),⟨W.a,W.d⟩,aH,A,rfl,.inr ⟨g17,by rw[O0],rfl,by simp[f4]⟩,rfl,rfl⟩
              . obtain rfl:j=(D4 B f).length:=j4;have C:=NI.leave E K;simp[SH];refine aD _ _ _ ?_;rcases o with⟨rfl,o⟩|⟨g17,rfl,o,aK⟩
                . obtain rfl:=a5q.1 o;rw[if_pos rfl]at C;simp[ah,ae];exact ao ⟨f.toNat+1,F3,M,{w with J9:=(p.J9.1+1,.var [.nils,GP g,.int .u8 f.toNat])},w6,_,_,_,_,_,_,_,_,_,_,_⟩ _ _ (by grind) ⟨u7,C,⟨J.a,J.d⟩,ag,A,R,S,rfl,rfl⟩
                . have av:nodes≠ []:=fun h=>aK (by rw[h];rfl);have aM:0<nodes.length:=a2E.2 av;rw[if_neg av]at C;subst L;rcases A with⟨rfl,A⟩|⟨g19,rfl,A,cC⟩
                  . obtain rfl:=a5q.1 A;simp[ah,o,ae,aM];exact ao ⟨f.toNat+1,F3,[(nodes,f)::(ns,G)::H],{w with J9:=(p.J9.1+1,.dead),c17:=(g17,.arr 4 1 true (nodes.map NQ)),c18:=(w.c18.1+1,.dead),Q9:=(w.Q9.1+1,.arr 1 0 false [GP ((nodes,f)::(ns,G)::H)])},.own 19 (w.Q9.1+1) 1 1 0 1,_,_,_,_,_,_,_,_,_,_,_⟩ _ _ (by grind) ⟨u7,C,⟨J.a,J.d⟩,ag,.inr ⟨_,rfl,rfl,k8⟩,R,S,rfl,rfl⟩
                  . obtain⟨nx,aw⟩:∃nx,nx=M++[(nodes,f)::(ns,G)::H]:=⟨_,rfl⟩
                    have f1:M.map GP++[.fptr [.slc (nodes.map NQ),.fptr [.slc (ns.map NQ),GP H,.int .u8 G.toNat],.int .u8 f.toNat]]=nx.map GP:=(by rw[aw,S0];rfl);have f2:M.length+1=nx.length:=(by rw[aw];simp);have f3:nx.length*8≤140737488355328:=j4;have f4:nx≠ []:=(by rw[aw];simp);rw[←aw]at C;simp[ah,o,A,ae,aM,f1,f2,f3];exact ao ⟨f.toNat+1,F3,nx,{w with J9:=(p.J9.1+1,.dead),c17:=(g17,.arr 4 1 true (nodes.map NQ)),c18:=(w.c18.1+1,.dead),Q9:=(g19,.arr 1 0 false (nx.map GP))},.own 19 g19 nx.length 1 0 nx.length,_,_,_,_,_,_,_,_,_,_,_⟩ _ _ (by grind) ⟨u7,C,⟨J.a,J.d⟩,ag,.inr ⟨g19,by rw[O0],rfl,by simp[f4]⟩,R,S,rfl,rfl⟩
           . obtain rfl:c=63:=j4;have b5:=U.done I a2.hs (ns:=ns) aY (Q':=fun n=>∃g∈layer.drop (k+1),n∈gn g) fun n ⟨ax,h1,P⟩=>by
              rw[bG]at h1;rcases Y8.1 h1 with h1|h1
              . rw[h1,aP]at P;exact .inr P
              . exact .inl ⟨ax,h1,P⟩
             simp[SH];refine bR _ _ _ ?_;simp[bF];exact bD ⟨k+1,s2,F2,v72,M,p,⟨w6,_,_,_,_,_,.uu,.uu,.uu,.uu,_,_,_,_,_,_,_,_,_,_,_,_,_,_⟩⟩ _ _ (by grind) ⟨⟨a2.hs,b5.start (a5p _),fun ax cD=>⟨(q.ok ax (by grind)).1.mono a2.pre am,U3 (q.ok ax (by grind)).2 an⟩⟩,u7,V,⟨_,_,N⟩,al,fun h=>absurd h (Nat.succ_ne_zero _),rfl,rfl⟩
       . obtain rfl:k=layer.length:=j4;have cE:=q.ci.ct;simp[SH,cF];refine bE _ _ _ ?_;have bh:a5U t s1 F1 next (d+1):=⟨q.hs,q.ci.sr.mono fun n _ hp=>.inl (hp.elim (fun⟨g,L,_⟩=>by simp at L) id),q.ci.nx,j4,fun b6=>by have:=a2E.2 b6;omega⟩
         rcases z5 with⟨rfl,z5⟩|⟨g19,rfl,z5,b7⟩
         . obtain rfl:=a5q.1 z5;simp[-a0w];exact bk ⟨s1,F1,aj,[],d+1,{T with Q9:=(T.Q9.1,a0w (SH t s1 F1 aj T) true T.Q9.2)},.slc [],⟨_,_,_,_,_,_,_,_,_,_,_,_,_,_,_,_,_,_,_,_,_,_,_,_⟩⟩ _ _ (by grind) ⟨bh,⟨z3.a,z3.d⟩,.inl rfl,⟨_,_,z4⟩,rfl,rfl⟩
         . have av:next≠ []:=fun h=>b7 (by rw[h];rfl)
           have aM:0<next.length:=a2E.2 av
           simp[z5];exact bk ⟨s1,F1,aj,next,d+1,{T with Q9:=(g19,.arr 1 1 true (next.map GP))},.slc (next.map GP),⟨_,_,_,_,_,_,_,_,_,_,_,_,_,_,_,_,_,_,_,_,_,_,_,_⟩⟩ _ _ (by grind) ⟨bh,⟨z3.a,z3.d⟩,.inl rfl,⟨_,_,z4⟩,rfl,rfl⟩
 . simp[X51,SH,C];refine aN _ _ _ ⟨.inl ⟨rfl,d1e C⟩,rfl⟩ rfl ?_;simp[T8,X51,a2c]
end
noncomputable abbrev SH0(x:RX):Heap:=
 [x.c0,x.c1,x.c2,dd,dd,dd,dd,dd,
  x.c8,x.c9,x.c10,x.K3,x.c12,x.J9,x.c14,x.c15,x.c16,x.c17,x.c18,x.Q9,x.N9,x.O3,x.c22,x.c23,x.c24,x.c25,x.c26,x.c27,x.c28,x.c29,x.c30,x.c31,x.c32,x.c33,x.c34,x.c35,x.c36,x.c37,x.c38,x.c39,x.c40]
theorem c8B(t:k7)(x:RX):∃ws,FI Tryz.prog (.fn (.func 50) [] []) [AGR t] (SH0 x) (.ptr 5 1 0) ws∧p8 (SH0 x) ws=SH t ([],[]) [] 0 x:=by refine⟨[(3,(1,.mp false [] [])),(4,(1,.mp false [] [])),(5,(1,.var (SVQ t 0))),(6,(1,.arr 2 0 false [])),(7,(1,.arr 1 0 false []))],?_,rfl⟩;refine a3q mixed (X:=X50) c50 (by rfl) (by simp[X50]) k8 fun Q a b=>?_;simp[X50];refine a _ _ ?_;simp[L3,X50]
section
variable{t:k7}{u:By}{x n:Nat}{ac:Bool}
theorem b5o:∀x y:By,bL x y=false→x≠y→bL y x=true
 | [],[],_,h=>absurd rfl h
 | [],_::_,h,_=>by cases h
 |_::_,[],_,_=>rfl
 |a::x,b::y,h,c=>by
  have h:(decide (a<b)||(a==b&&Op.bytesLess x y))=false:=h;rw[Bool.or_eq_false_iff,decide_eq_false_iff_not]at h;show(decide (b<a)||(b==a&&Op.bytesLess y x))=true;by_cases d:a=b
  . subst d;have f:=b5o x y (by simpa using h.2) fun e=>c (by rw[e])
    grind
  . grind
theorem b4B:∀x:By,bL x x=false
 | []=>rfl
 |a::x=>by have:=b4B x;have:Op.bytesLess x x=false:=this;show(decide (a<a)||(a==a&&Op.bytesLess x x))=false;simp[this]
def Y9(t:k7)(l:List Nat)(i x:Nat)(u:By):Prop:=∃q a,E5 t ((j8 t).getD x D5) q=some a∧B8 t a=true∧C5 t q=l.drop i∧J8 t q=u
theorem Y9.stop{l:List Nat}(h:B8 t ((j8 t).getD x D5)=true):Y9 t l l.length x []:=⟨[],_,rfl,h,by simp[C5],rfl⟩
theorem Y9.step{t:k7}(d:s7 t){l:List Nat}{i x:Nat}{u:By}(b:x<(j8 t).length){a:Nat×Nat}(e:a∈G8 t x)(f:fits t l i a.1)(h:Y9 t l (i+A0 t a.1) a.2 u):Y9 t l i x (prt t a.1++u):=by
 obtain⟨s',h1,_,g,_⟩:=a6s b e;obtain⟨q,j,c,k,m,n⟩:=h;rw[g,a2z (a0g d (a2k b) h1)]at c;refine⟨a.1::q,j,?_,k,?_,?_⟩
 . show(T.step t _ a.1).bind _=_;rw[h1];exact c
 . rw[b0b f,←m];rfl
 . rw[a3L,n];rfl
theorem Y9.cases(n:s7 t){l:List Nat}{i:Nat}(g:x<(j8 t).length)(hi:i≤l.length)(h:Y9 t l i x u):(i=l.length∧B8 t ((j8 t).getD x D5)=true∧u=[])∨∃a∈G8 t x,fits t l i a.1∧∃v,Y9 t l (i+A0 t a.1) a.2 v∧u=prt t a.1++v:=by
 obtain⟨q,e,b,f,c,d⟩:=h
 match q,b,c,d with
 | [],b,c,d=>
  obtain rfl:=U4 b;have:(l.drop i).length=0:=by rw[←c];rfl
  rw[a4O]at this;exact .inl ⟨j4,f,d.symm⟩
 |k::q,b,c,d=>
  obtain⟨s1,j,m⟩:=X1.1 (show(T.step t _ k).bind (fun s'=>E5 t s' q)=some e from b);have hd:l.drop i=cls t k++C5 t q:=by rw[←c];rfl
  obtain⟨f1,f2⟩:=b4W hd;have o:=a0g n (a2k g) j;exact .inr ⟨_,b0J g j ⟨q,e,m,f⟩,f1,J8 t q,⟨q,e,by rw[a2z o];exact m,f,f2.symm,rfl⟩,by rw[←d,a3L];rfl⟩
theorem Y9.lng(a:s7 t){l:List Nat}:Y9 t l 0 0 u↔S8 t l u:=by
 have e:(j8 t).getD 0 D5=start:=by rw[B0,a2t a];rfl
 unfold Y9 S8;rw[e,List.drop_zero]
theorem Y9.len(a:s7 t){l:List Nat}{i:Nat}(h:Y9 t l i x u):u.length≤4*l.length:=by
 obtain⟨q,c,b,_,d,rfl⟩:=h;have h1:=b2i a q _ _ b
 grind
structure TwI(S:By→Prop)(l:List By):Prop where
 le:l.length≤2
 so:l.Pairwise fun a b=>bL a b=true
 sd:∀x∈l,S x
 cm:∀x,S x→x∈l∨l.length=2
theorem TwI.iff{S S':By→Prop}{l:List By}(h:TwI S l)(e:∀x,S' x↔S x):TwI S' l:=
 ⟨h.le,h.so,fun x a=>(e x).2 (h.sd x a),fun x a=>h.cm x ((e x).1 a)⟩
theorem TwI.ins{S:By→Prop}{l:List By}(h:TwI S l)(x:By):TwI (fun y=>S y∨y=x) (a2g l x):=by
 have two:∀{a b:By},(∀y∈[a,b],S y∨y=x)→bL a b=true→TwI (fun y=>S y∨y=x) [a,b]:=fun hs hb=>⟨p7 _,by simpa using hb,hs,fun _ _=>.inr rfl⟩
 match l,h with
 | [],h=>
  refine⟨by simp[a2g],by simp[a2g],fun y d=>.inr (H5.1 d),fun y d=>?_⟩;rcases d with d|rfl
  . rcases h.cm y d with h1|h1<;>cases h1
  . exact .inl (H5.2 rfl)
 | [a],h=>
  have e:=h.sd a (H5.2 rfl);unfold a2g;simp only;split
  . rename_i h1;exact two (by simp[e]) h1
  . rename_i h1;have h1:bL x a=false:=(by simpa using h1);split
    . rename_i f;subst f;refine⟨h.le,h.so,fun y d=>.inl (h.sd y d),fun y d=>?_⟩;rcases d with d|rfl
      . exact h.cm y d
      grind
    . rename_i f;exact two (by simp[e]) (b5o x a h1 f)
 | [a,b],h=>
  have e:=h.sd a k8;have hb:=h.sd b k8;have g:bL a b=true:=by simpa using h.so
  unfold a2g;simp only;split
  . rename_i h1;exact two (by simp[e]) h1
  . rename_i h1;have h1:bL x a=false:=(by simpa using h1);split
    . exact two (by simp[e,hb]) g
    . rename_i f;split
      . exact two (by simp[e]) (b5o x a h1 f)
      grind
 |a::b::c::r,h=>have:=h.le;simp at this
theorem TwI.close{S T:By→Prop}{p:By}{two R:List By}(h:TwI (fun u=>S u∨∃v∈R,u=p++v) two)(f:TwI T R):TwI (fun u=>S u∨∃v,T v∧u=p++v) two:=by
 refine⟨h.le,h.so,fun x d=>(h.sd x d).imp id fun⟨v,g,e⟩=>⟨v,f.sd v g,e⟩,fun x d=>?_⟩;rcases d with d|⟨v,g,rfl⟩
 . exact h.cm x (.inl d)
 . rcases f.cm v g with h1|h1
   . exact h.cm _ (.inr ⟨v,h1,rfl⟩)
   . right
     obtain⟨a,b,rfl⟩:∃a b,R=[a,b]:=by
      match R,h1 with
      | [a,b],_=>exact⟨a,b,rfl⟩
     have i:bL a b=true:=(by simpa using f.so);rcases h.cm (p++a) (.inr ⟨a,k8,rfl⟩)with g1|g1
     . rcases h.cm (p++b) (.inr ⟨b,k8,rfl⟩)with g2|g2
       . have hle:=h.le
         match two,hle,g1,g2 with
         | [c],_,g1,g2=>
          rw[H5]at g1 g2;have:=List.append_cancel_left (g1.trans g2.symm);subst this;rw[b4B]at i;cases i
         | [_,_],_,_,_=>rfl
         |_::_::_::_,hle,_,_=>simp at hle
       . exact g2
     . exact g1
theorem TwI.diff{S:By→Prop}{l:List By}(h:TwI S l){x y:By}(g:S x)(i:S y)(j:x≠y):∃a b,l=[a,b]∧bL a b=true∧a≠b:=by
 have key:l.length=2:=by
  rcases h.cm x g with h1|h1
  . rcases h.cm y i with d|d
    . have hle:=h.le
      match l,hle,h1,d with
      | [c],_,h1,d=>
       rw[H5]at h1 d;exact absurd (h1.trans d.symm) j
      | [_,_],_,_,_=>rfl
      |_::_::_::_,hle,_,_=>simp at hle
    . exact d
  . exact h1
 match l,key with
 | [a,b],_=>
  have f:bL a b=true:=by simpa using h.so
  refine⟨a,b,rfl,f,fun e=>?_⟩;subst e;rw[b4B]at f;cases f
def SX(t:k7)(l:List Nat)(n:Nat)(ac:Bool)(A:List (Nat×Nat))(j:Nat)(u:By):Prop:=(n=l.length∧ac=true∧u=[])∨∃a∈A.take j,fits t l n a.1∧∃v,Y9 t l (n+A0 t a.1) a.2 v∧u=prt t a.1++v
theorem c9X{l:List Nat}{j:Nat}{A:List (Nat×Nat)}(hj:j<A.length)(c:¬fits t l n A[j].1)(u:By):SX t l n ac A (j+1) u↔SX t l n ac A j u:=by
 refine or_congr Iff.rfl ⟨fun⟨a,b,h1,d⟩=>?_,fun⟨a,b,h⟩=>⟨a,by rw[J5];exact a4M _ b,h⟩⟩;rw[J5,l9 hj]at b
 grind
theorem c3K{l:List Nat}{j:Nat}{A:List (Nat×Nat)}(hj:j<A.length)(c:fits t l n A[j].1)(u:By):SX t l n ac A (j+1) u↔SX t l n ac A j u∨∃v,Y9 t l (n+A0 t A[j].1) A[j].2 v∧u=prt t A[j].1++v:=by
 unfold SX;rw[or_assoc];refine or_congr Iff.rfl ⟨fun⟨a,b,h1,d⟩=>?_,fun h=>?_⟩
 . rw[J5,l9 hj]at b
   grind
 . rcases h with⟨a,b,h⟩|h
   . grind
   . exact⟨A[j],by rw[J5,l9 hj];exact a7V _ (H5.2 rfl),c,h⟩
theorem c4s(d:s7 t){l:List Nat}{k:Nat}(e:k<(j8 t).length)(f:n≤l.length)(g:ac=B8 t ((j8 t).getD k D5))(u:By):Y9 t l n k u↔SX t l n ac (G8 t k) (G8 t k).length u:=by
 unfold SX;rw[K8];constructor
 . intro h;rcases h.cases d e f with⟨h1,b,c⟩|⟨a,h1,b,c⟩
   all_goals grind
 . rintro(⟨rfl,b,rfl⟩|⟨a,h1,b,v,c,rfl⟩)
   . exact Y9.stop (by grind)
   . exact c.step d e h1 b
theorem c2G{S:Prop}{p:By}{R:List By}{r:Nat}(hr:r<R.length):(S∨∃v∈R.take (r+1),u=p++v)↔(S∨∃v∈R.take r,u=p++v)∨u=p++R[r]:=by
 rw[or_assoc];refine or_congr Iff.rfl ⟨fun⟨v,a,e⟩=>?_,fun h=>?_⟩
 . rw[J5,l9 hr]at a
   grind
 . rcases h with⟨v,a,e⟩|e
   . grind
   . exact⟨_,by rw[J5,l9 hr];exact a7V _ (H5.2 rfl),e⟩
end
def ES(U:PV)(k:Nat):List PV:=List.replicate k U++List.replicate (5-k) (.slc [])
theorem c7I(U:PV):∀k,k<5→∃h:k<(ES U k).length,(ES U k)[k]=.slc []
 |0,_=>⟨by show 0<5;decide,rfl⟩
 |1,_=>⟨by show 1<5;decide,rfl⟩
 |2,_=>⟨by show 2<5;decide,rfl⟩
 |3,_=>⟨by show 3<5;decide,rfl⟩
 |4,_=>⟨by show 4<5;decide,rfl⟩
 |k+5,h=>absurd h j4
theorem c2T(U:PV):∀k,k<5→(ES U k).set k U=ES U (k+1)
 |0,_=>rfl
 |1,_=>rfl
 |2,_=>rfl
 |3,_=>rfl
 |4,_=>rfl
 |k+5,h=>absurd h j4
abbrev KQ(a:List (List By)):PV:=.uslc (a.map fun two=>.slc (two.map St))
structure LC1 where
 (k:Nat)
 (ver g1:Nat)
 (w4 w12:PV)
structure LC2 where
 (n:Nat)
 (cs:List (List (List By)))
 (ver g1:Nat)
 (r2 r3 r4:Row)
 (w4 w6 w7 w8 w9 w10 w13 w14 w15 w16 w17 w18 w19 w20 w21 w22 w23 w24 w25 w26:PV)
structure LC3 where
 (k:Nat)
 (C:List (List By))
 (ver:Nat)
 (r2 r3 r4:Row)
 (w7 w8 w9 w10 w16 w17 w18 w19 w20 w21 w22 w23 w24 w25 w26:PV)
structure LC4 where
 (j:Nat)
 (two:List By)
 (r2 r3 r4:Row)
 (w9 w10 w17 w21 w22 w23 w24 w25 w26:PV)
structure LC5 where
 (r:Nat)
 (two:List By)
 (r4:Row)
 (w10 w26:PV)
theorem d0S{P:Nat→List By→Prop}{C:List (List By)}{k:Nat}{two:List By}(h:∀a,a<k→P a (C.getD a []))(b:k<C.length)(c:P k two){a:Nat}(d:a<k+1):P a ((C.set k two).getD a []):=by
 by_cases e:a=k
 . subst e;rw[B0,E8 b];exact c
 . rw[B0,F4 (fun h=>e h.symm),←B0];exact h a j4
theorem c9W(t:k7)(d:s7 t)(l:List Nat)(bq:l.length≤1100000000):∃r,(∃L:List By,r=.slc (L.map St)∧TwI (S8 t l) L)∧F0 52 [1] [AGR t,CL l] r:=by
 have br:=a1F d;have bs:=a2J d;refine a3u mixed (X:=X52) c52 5 (by simp[X52]) (by kernel_rfl) fun Q az bt=>?_;have al:(gL (E3 t) t).length=(j8 t).length:=by simp[gL]
 obtain⟨N,am⟩:=s8 ((j8 t).length);have aA:(N:Int)*24≤140737488355328:=j4;have aB:N≤9223372036854775807:=j4;simp[X52];have aC:PV.uslc (List.replicate N (PV.slc []))=KQ (List.replicate N []):=by simp[KQ]
 refine F5 (fun(y:LC1) vs h=>y.k≤5∧
  vs=[AGR t,CL l,.nils,.eptr 0 1 5 1 0 0,y.w4,.uu,.uu,.uu,.uu,.uu,.uu,IN y.k,y.w12,.uu,.uu,.uu,.uu,.uu,.uu,.uu,.uu,.uu,.uu,.uu,.uu,.uu,.uu]∧h=[(1,.arr 1 y.ver false (ES (KQ (List.replicate N [])) y.k)),(y.g1,.dead),dd,dd,dd]) (fun y=>5-y.k)
  ⟨0,0,0,.uu,.uu⟩ ⟨E0 _,rfl,rfl⟩ ?_
 rintro⟨k,ver,g1,w4,w12⟩ vs h ⟨aa,rfl,rfl⟩ Q2 aD aE bu;dsimp only at aa;have aF:(ES (KQ (List.replicate N [])) k).length=5:=by simp[ES];omega
 by_cases f:k<5
 . have ab:=wk1 k j4;obtain⟨aG,ad⟩:=c7I (KQ (List.replicate N [])) k f;have aH:=c2T (KQ (List.replicate N [])) k f;simp[f,aG,ad,ab,al,←am,aA,aB,aF];rw[aC,aH];exact aD ⟨k+1,ver+1,g1+1,_,_⟩ _ _ u7 ⟨u7,rfl,rfl⟩
 . obtain rfl:k=5:=j4;simp;refine aE _ _ _ ?_;simp;have aI:ES (KQ (List.replicate N [])) 5=(List.replicate 5 (List.replicate N ([]:List By))).map KQ:=rfl;rw[aI];refine F5 (fun(y:LC2) vs h=>y.n≤l.length+1∧y.cs.length=5∧(∀c∈y.cs,c.length=N)∧(∀p,y.n≤p→p≤l.length→p<y.n+5→∀k,k<N→TwI (Y9 t l p k) ((y.cs.getD (p%5) []).getD k []))∧
    vs=[AGR t,CL l,.nils,.eptr 0 1 5 1 0 0,y.w4,I ((y.n:Int)-1),y.w6,y.w7,y.w8,y.w9,y.w10,IN 5,.bool false,y.w13,y.w14,y.w15,y.w16,y.w17,y.w18,y.w19,y.w20,y.w21,y.w22,y.w23,y.w24,y.w25,y.w26]∧h=[(1,.arr 1 y.ver false (y.cs.map KQ)),(y.g1,.dead),y.r2,y.r3,y.r4]) (fun y=>y.n)
    ⟨l.length+1,List.replicate 5 (List.replicate N ([]:List By)),ver,g1,dd,dd,dd,w4,.uu,.uu,.uu,.uu,.uu,.uu,.uu,.uu,.uu,.uu,.uu,.uu,.uu,.uu,.uu,.uu,.uu,.uu,.uu⟩ ?_ ?_
   . refine⟨p7 _,rfl,fun c D=>?_,fun p h1 ae=>by dsimp only at h1;omega,?_,rfl⟩
     . rw[a9H D,b2f]
     . simp
   rintro⟨n,cs,ver,G,r2,r3,r4,w4,w6,w7,w8,w9,w10,w13,w14,w15,w16,w17,w18,w19,w20,w21,w22,w23,w24,w25,w26⟩ vs h ⟨aa,g,E,H,rfl,rfl⟩ Q3 aJ aK bv;dsimp only at aa g E H;cases n with
   |zero=>
    simp;refine aK _ _ _ ?_;obtain⟨C,J,o⟩:∃C J,cs=C::J:=by
     cases cs with
     |nil=>cases g
     |cons C J=>exact⟨C,J,rfl⟩
    have i:=E C (by rw[o];exact a3x);obtain⟨L,Cr,K⟩:∃L Cr,C=L::Cr:=by
     cases C with
     |nil=>simp at i;omega
     |cons L Cr=>exact⟨L,Cr,rfl⟩
    have s:=H 0 (E0 _) (E0 _) j4 0 j4;rw[o,K]at s;have s:TwI (Y9 t l 0 0) L:=s;have s:=s.iff fun x=>(Y9.lng d).symm;rw[o,K]at g;rw[o,K];rw[K]at i;simp at g i;have aL:0<N:=j4;simp[g,i,aL];refine az _ _ _ ⟨L,rfl,s⟩ ?_;simp[X52]
   |succ n=>
    have aM:((n+1:Nat):Int)-1=(n:Int):=j4;have aN:(0:Int)≤(n:Int):=j4;have an:n≤l.length:=j4;have hm:(n:Int).tmod 5=((n%5:Nat):Int):=rfl;obtain⟨q,aO⟩:=s8 (n%5);rw[←aO]at hm;have aP:q<5:=j4;have M:q<cs.length:=j4;obtain⟨C,af⟩:=s8 (cs[q]);have i:C.length=N:=E C (by rw[af];exact C4 M);simp[aM,aN,hm,aP,g,M,←af,i];refine F5 (fun(y:LC3) vs h=>y.k≤N∧y.C.length=N∧(∀k,k<y.k→TwI (Y9 t l n k) (y.C.getD k []))∧
     vs=[AGR t,CL l,.nils,.eptr 0 1 5 1 0 0,w4,IN n,.nown 0 1 y.ver q 0 0 N,y.w7,y.w8,y.w9,y.w10,IN 5,.bool false,.bool true,IN N,IN y.k,y.w16,y.w17,y.w18,y.w19,y.w20,y.w21,y.w22,y.w23,y.w24,y.w25,y.w26]∧h=[(1,.arr 1 y.ver false ((cs.set q y.C).map KQ)),(G,.dead),y.r2,y.r3,y.r4]) (fun y=>N-y.k)
     ⟨0,C,ver,r2,r3,r4,w7,w8,w9,w10,w16,w17,w18,w19,w20,w21,w22,w23,w24,w25,w26⟩ ?_ ?_
    . refine⟨E0 _,i,fun k f=>absurd f (a7Z _),rfl,?_⟩;rw[af,b5s]
    rintro⟨k,C2,w,r2,r3,r4,w7,w8,w9,w10,w16,w17,w18,w19,w20,w21,w22,w23,w24,w25,w26⟩ vs h ⟨aQ,z2,z3,rfl,rfl⟩ Q4 aR aS bw;dsimp only at aQ z2 z3;by_cases f:k<N
    . have ab:=wk1 k j4;have ag:k<(j8 t).length:=j4;have aT:(S5 t).length=(j8 t).length:=(by simp[S5]);have bx:k<(S5 t).length:=j4;have ad:k<(gL (E3 t) t).length:=j4;obtain⟨ac,ao⟩:=s8 ((S5 t)[k]);have aU:ac=B8 t ((j8 t).getD k D5):=by
       rw[ao];simp only[S5,a0V];rw[B0,l9 ag];rfl
      obtain⟨A,O⟩:=s8 (G8 t k);have aV:(gL (E3 t) t)[k]=A:=(by rw[O];unfold G8;rw[B0,l9 ad];rfl);have bz:A.length≤64:=O▸a6p d k;have aW:∀a∈A,a.1<t.rules.length∧a.2<(j8 t).length∧1≤A0 t a.1∧A0 t a.1≤4:=fun a b=>a4B d ag (O▸b);obtain⟨z,o,aX⟩:∃z:List By,(((n=l.length)=True∧ac=true∧z=[[]])∨((n=l.length)=True∧ac=false∧z=[])∨((n=l.length)=False∧True∧z=[]))∧TwI (SX t l n ac A 0) z:=by
       have nil:∀{S:By→Prop},(∀u,¬S u)→TwI S []:=fun h=>⟨k8,k8,k8,fun x m=>absurd m (h x)⟩
       by_cases h1:n=l.length
       . cases ae:ac with
         |true=>exact⟨[[]],.inl ⟨eq_true h1,rfl,rfl⟩,k8,k8,fun x m=>.inl ⟨h1,rfl,by simpa only[H5]using m⟩,fun x m=>by
          rcases m with⟨_,_,m⟩|⟨a,b,_⟩
          . exact .inl (H5.2 m)
          . cases b⟩
         |false=>exact⟨[],.inr (.inl ⟨eq_true h1,rfl,rfl⟩),nil fun u hu=>by
          rcases hu with⟨_,hu,_⟩|⟨a,b,_⟩
          . cases hu
          . cases b⟩
       . exact⟨[],.inr (.inr ⟨eq_false h1,trivial,rfl⟩),nil fun u hu=>by
          rcases hu with⟨hu,_⟩|⟨a,b,_⟩
          . exact h1 hu
          . cases b⟩
      rcases o with⟨g1,g2,g3⟩|⟨g1,g2,g3⟩|⟨g1,g2,g3⟩<;>simp[f,g1,aT,al,←am,←ao,g2,aV]<;>(
       refine F5 (fun(y:LC4) vs h=>y.j≤A.length∧TwI (SX t l n ac A y.j) y.two∧
        vs=[AGR t,CL l,.nils,.eptr 0 1 5 1 0 0,w4,IN n,.nown 0 1 w q 0 0 N,IN k,.slc (y.two.map St),y.w9,y.w10,IN 5,.bool false,.bool true,IN N,IN k,.bool true,y.w17,.slc (A.map (AG t)),IN A.length,IN y.j,y.w21,y.w22,y.w23,y.w24,y.w25,y.w26]∧h=[(1,.arr 1 w false ((cs.set q C2).map KQ)),(G,.dead),y.r2,y.r3,y.r4]) (fun y=>A.length-y.j)
        ⟨0,z,_,r3,r4,w9,w10,_,w21,w22,w23,w24,w25,w26⟩ ⟨E0 _,aX,by rw[g3];rfl,by simp;rfl⟩ ?_
       rintro⟨j,two,r2,r3,r4,w9,w10,w17,w21,w22,w23,w24,w25,w26⟩ vs h ⟨a1,a2,rfl,rfl⟩ Q5 ap aY bA;dsimp only at a1 a2;by_cases hj:j<A.length
       . have aq:=wk1 j j4;obtain⟨a,b⟩:=s8 (A[j]);obtain⟨bB,bC,aZ,a0⟩:=aW a (by rw[b];exact C4 hj);obtain⟨cl,T⟩:=s8 (A0 t a.1);have a3:(cls t a.1).length=cl:=T.symm;rw[←T]at aZ a0;have U:=c4f (l.drop n) (cls t a.1) j4;obtain⟨V,ar⟩:∃V,V=decide (cls t a.1<+:l.drop n):=⟨_,rfl⟩
         have au:V=true↔fits t l n a.1:=(by rw[ar];exact decide_eq_true_iff);rw[←ar]at U;have av:List.take (l.length-n) (List.drop n (l.map UN))=(l.drop n).map UN:=by rw[a2X,a0t (by rw[a4O,O0];exact p7 _)]
         rw[a2X]at av;unfold CL at U;rw[a2X]at U;simp[hj,←b,an,av];refine l8 U ?_;cases V with
         |true=>
          have W:=au.1 rfl;have a4:=a5I W;rw[←T]at a4;have a5:IntKind.i64.wrap ((n:Int)+(cl:Int))=(n:Int)+(cl:Int):=T3;obtain⟨B,aw⟩:=s8 ((n+cl)%5);have a6:((n:Int)+(cl:Int)).tmod 5=(B:Int):=(by rw[aw];rfl);have a7:¬q=B:=j4;have a8:B<5:=j4;have ah:B<cs.length:=j4;obtain⟨C3,ai⟩:=s8 (cs[B]);have a9:C3.length=N:=E C3 (by rw[ai];exact C4 ah);have ax:a.2<N:=j4;have ba:a.2<C3.length:=j4;obtain⟨R,ay⟩:=s8 (C3[a.2]);have aj:TwI (Y9 t l (n+cl) a.2) R:=by have:=H (n+cl) j4 j4 j4 a.2 ax;have bb:cs.getD (B) []=C3:=(by rw[B0,l9 ah,ai];rfl);have bc:C3.getD a.2 []=R:=(by rw[B0,l9 ba,ay];rfl);rw[←aw,bb,bc]at this;exact this
          simp[a3,a5,a6,a8,g,a7,ah,←ai,a9,ax,←ay];refine F5 (fun(y:LC5) vs h=>y.r≤R.length∧TwI (fun u=>SX t l n ac A j u∨∃v∈R.take y.r,u=prt t a.1++v) y.two∧
           vs=[AGR t,CL l,.nils,.eptr 0 1 5 1 0 0,w4,IN n,.nown 0 1 w q 0 0 N,IN k,.slc (y.two.map St),.ptr 3 (r3.1+1) 0,y.w10,IN 5,.bool false,.bool true,IN N,IN k,.bool true,w17,.slc (A.map (AG t)),IN A.length,IN j,.bool true,.bool false,.slc (R.map St),IN R.length,IN y.r,y.w26]∧
           h=[(1,.arr 1 w false ((cs.set q C2).map KQ)),(G,.dead),r2,(r3.1+1,.var [St (prt t a.1),CL (cls t a.1),IN a.2]),y.r4]) (fun y=>R.length-y.r)
           ⟨0,two,r4,w10,w26⟩ ⟨E0 _,a2.iff fun u=>⟨fun h=>h.elim id fun⟨v,bd,_⟩=>(by cases bd),.inl⟩,rfl,k8⟩ ?_
          rintro⟨r,two,r4,w10,w26⟩ vs h ⟨be,Y,rfl,rfl⟩ Q6 bf bg bD;dsimp only at be Y;by_cases hr:r<R.length
          . have bE:=aj.le;have bh:=wk1 r j4;have bi:=c9a two (prt t a.1++R[r]);have bF:=Y9.len d (aj.sd _ (C4 hr));have bG:=b2K d a.1;have hlen:¬(9223372036854775807:Int)<((prt t a.1).length:Int)+(R[r].length:Int):=j4;simp[hr,hlen];refine l8 bi ?_;simp[bh];exact bf ⟨r+1,a2g two (prt t a.1++R[r]),_,_,_⟩ _ _ u7 ⟨u7,(Y.ins _).iff fun u=>c2G hr,rfl,by simp;rfl⟩
          . obtain rfl:r=R.length:=j4;rw[K8]at Y;have bj:=Y.close aj;simp;refine bg _ _ _ ?_;simp[aq];exact ap ⟨j+1,two,r2,_,r4,_,_,_,_,_,_,_,_,_⟩ _ _ u7 ⟨u7,bj.iff fun u=>(c3K hj (by rw[←b];exact W) u).trans (by rw[←b,←T]),rfl,by simp;rfl⟩
         |false=>
          have W:¬fits t l n a.1:=fun h=>(by have:=au.2 h;cases this);simp[aq];exact ap ⟨j+1,two,r2,_,r4,_,_,_,_,_,_,_,_,_⟩ _ _ u7 ⟨u7,a2.iff (c9X hj (by rw[←b];exact W)),rfl,by simp;rfl⟩
       . obtain rfl:j=A.length:=j4;have bk:TwI (Y9 t l n k) two:=a2.iff fun u=>(by rw[O];exact c4s d ag an aU u);simp;refine aY _ _ _ ?_;have ak:k<C2.length:=j4;have bl:((cs.map KQ).set q (KQ C2))[q]?=some (KQ C2):=E8 (by rw[O0];exact M);have bH:k<C2.length:=ak;have bm:PV.uslc ((C2.map fun two=>PV.slc (two.map St)).set k (.slc (two.map St)))=KQ (C2.set k two):=by
          unfold KQ;rw[L6]
         simp[z2,ab,f,ak,bl];rw[bm,←L6];exact aR ⟨k+1,C2.set k two,w,_,_,_,_,_,_,_,_,_,_,_,_,_,_,_,_,_,_⟩ _ _ u7 ⟨u7,by rw[a4J];exact z2,fun F Z=>d0S (P:=fun F L=>TwI (Y9 t l n F) L) z3 ak bk Z,rfl,rfl⟩
       )
    . obtain rfl:k=N:=j4;have bn:IntKind.i64.wrap ((n:Int)-1)=(n:Int)-1:=T3;simp;refine aS _ _ _ ?_;simp[bn];rw[←L6];refine aJ ⟨n,cs.set q C2,w,G,r2,r3,r4,w4,_,_,_,_,_,_,_,_,_,_,_,_,_,_,_,_,_,_,_⟩ _ _ u7 ⟨u7,by rw[a4J];exact g,fun c D=>?_,fun p h1 ae bo F Z=>?_,rfl,rfl⟩
      . rcases a5o D with D|rfl
        . exact E c D
        . exact z2
      . dsimp only at h1 bo⊢;by_cases hp:p%5=q
        . have bp:p=n:=j4;subst bp;have e:(cs.set q C2).getD q []=C2:=(by rw[B0,E8 M];rfl);rw[hp,e];exact z3 F Z
        . have e:(cs.set q C2).getD (p%5) []=cs.getD (p%5) []:=(by rw[B0,F4 (fun e=>hp e.symm),←B0]);rw[e];exact H p j4 ae j4 F Z
def CkR(t:k7)(r:PV):Prop:=(r=.tup [.agg [.nils,St [],St []],I 0]∧¬Two t)∨∃(l:By) (a b:By),r=.tup [.agg [.slc (l.map UB),St a,St b],I 50]∧l.length≤260128513∧S8 t (l.map UInt8.toNat) a∧S8 t (l.map UInt8.toNat) b∧bL a b=true∧a≠b
theorem c0B(t:k7)(e:s7 t)(o:Sm t):∃r,CkR t r∧F0 17 [1,0,0,0] [TP t] r:=by
 refine a3u mixed (X:=X17) c17 41 (by simp[X17]) (by kernel_rfl) fun Q m N=>?_;have n:=b4x t e.ok;have p:T5 t=true:=(a7a t).2 e;rw[p]at n;have q:=d1D t e;simp[X17];refine l8 n ?_;simp;refine l8 q ?_;simp;obtain⟨x,d⟩:∃x:RX,x=⟨(1,.var [IN t.modes,UN t.accept,.slc (t.rules.map RP)]),(1,.var [.nils,St [],St []]),dd,dd,dd,dd,dd,dd,dd,dd,dd,dd,dd,dd,dd,dd,dd,dd,dd,dd,dd,dd,dd,dd,dd,dd,dd,dd,dd,dd,dd,dd,dd,dd,dd,dd⟩:=⟨_,rfl⟩
 obtain⟨O,s,u⟩:=c8B t x;refine a2T s u (by rw[d]) ?_;simp;obtain⟨P,v,f,y⟩:=d0v t e o x (by rw[d]) (by rw[d]);obtain⟨H,i⟩:=Q8 (p8 (SH t ([],[]) [] 0 x) v);rw[i]at f;have R:H.length=41:=by rw[←i,a5v];rfl
 refine a2T y i rfl ?_;obtain⟨f,z⟩:=f;obtain⟨T,rfl⟩:∃T,H=x.c0::x.c1::x.c2::T:=⟨H.drop 3,by rw[←a9G 3 H,z];rfl⟩
 subst d;have j:T.length=38:=by grind
 rcases f with⟨rfl,A⟩|⟨w,g,rfl,k,B,a0,S,C,D,E⟩
 . simp[j];refine m _ _ _ (.inl ⟨rfl,A⟩) ?_;simp[X17]
 . obtain⟨U,F⟩:∃h:12<T.length,T[12]=(g,.arr 1 0 false (w.map UB)):=by
    have k:T[12]?=some (g,.arr 1 0 false (w.map UB)):=k;exact C0.1 k
   obtain⟨r2,⟨L,rfl,l⟩,hle⟩:=c9W t e (w.map UInt8.toNat) (by grind);obtain⟨a,b,rfl,G,I⟩:=l.diff C D E;have J:CL (w.map UInt8.toNat)=.slc (w.map UB):=(by unfold CL;rw[a2D];rfl);rw[J]at hle;have K:(∀x,x∈w.map UB→D9 x=true)=True:=eq_true fun x d=>by obtain⟨c,_,rfl⟩:=G7.1 d;rfl
   have M:List.map B6 (w.map UB)=w.map UB:=(by rw[a2D];exact O1 fun _ _=>rfl);simp[j,F,K,M];refine l8 hle ?_;simp[j];refine m _ _ _ (.inr ⟨w,a,b,rfl,B,l.sd a k8,l.sd b k8,G,I⟩) ?_;simp[X17]
theorem c2D(t:k7)(f:s7 t)(g:Sm t):∃c:Bool,(c=true↔¬Two t)∧F0 20 [0] [TP t] (B c):=by
 obtain⟨r,hr,e⟩:=c0B t f g;rcases hr with⟨rfl,i⟩|⟨w,a,b,rfl,m,j,hb,n,k⟩
 . refine⟨true,⟨fun _=>i,fun _=>rfl⟩,?_⟩;refine E1 N9 3 (by simp[X20]) fun Q d l=>?_;simp[X20];refine l8 e ?_;simp;refine d _ _ ?_;simp[X20]
 . refine⟨false,⟨fun h=>(by cases h),fun h=>absurd ⟨_,a,b,j,hb,k⟩ h⟩,?_⟩;refine E1 N9 3 (by simp[X20]) fun Q d l=>?_;simp[X20];refine l8 e ?_;simp;refine d _ _ ?_;simp[X20]
set_option maxHeartbeats 8000000
theorem c9T(b:UInt8):F0 163 [0] [U b.toNat] (B (a3l b)):=by
 refine E1 c163 0 (by simp[a8D]) fun Q a c=>?_;have h:=a8f b;simp[a8D,h];by_cases h1:32≤O7 b
 . simp[h1];refine a _ _ ?_;simp[a8D,a3l,h1,h]
 . simp[h1];refine a _ _ ?_;simp[a8D,a3l,h1]
theorem c2L(b:UInt8):F0 126 [0] [U b.toNat] (B (decide (O7 b=32))):=by refine E1 c126 0 (by simp[b1e]) fun Q a c=>?_;have h:=a8f b;simp[b1e,h];refine a _ _ ?_;simp[b1e]
theorem c3G(s:By)(hs:s.length≤1100000000):F0 149 [0,0] [St s] (b0O s):=by
 refine E1 c149 0 (by simp[a8w]) fun Q a l=>?_;simp[a8w];refine I6 (fun(k:Nat) vs h=>k≤s.length∧(∀j,(hj:j<s.length)→j<k→a3l s[j]=true)∧vs=[St s,.uu,.uu,IN k,.uu,.uu]∧h=[]) (fun k=>s.length-k) 0 ?_ ?_
 . simp
 . rintro k vs h ⟨g1,g2,rfl,rfl⟩ Q' e f g;by_cases c:k<s.length
   . have hw:=wk1 k j4;simp[c];refine l8 (c9T s[k]) ?_;cases d:a3l s[k]
     . simp;refine g _ _ ?_;simp;have:a0m s=some k:=by
        unfold a0m;rw[a1W];exact⟨c,by simp[d],fun j hj=>by simp[g2 j j4 hj]⟩
       refine a _ _ ?_;simp[a8w,this]
     . simp[hw];refine e (k+1) _ _ j4 ?_;simp;refine⟨j4,fun j hj m=>?_⟩;by_cases i:j<k
       . exact g2 j hj i
       . obtain rfl:j=k:=j4;exact d
   . obtain rfl:k=s.length:=j4;have:a0m s=none:=by
      unfold a0m;rw[b2c];intro b hb;obtain⟨j,hj,rfl⟩:=a1I hb;simp[g2 j hj hj]
     simp;refine f _ _ _ ?_;simp;refine a _ _ ?_;simp[a8w,this]
theorem c2v(s:By)(hs:s.length≤1100000000):F0 125 [0] [St s] (B (a0m s).isNone):=by refine E1 c125 0 (by simp[a9S]) fun Q a b=>?_;simp[a9S];refine l8 (c3G s hs) ?_;simp;refine a _ _ ?_;cases hb:a0m s<;>simp[a9S,hb]
theorem b4D(a b:List Nat)(q:a.length≤1100000000):F0 19 [0] [CL a,CL b] (B (decide (a=b))):=by
 refine E1 Q9 0 (by simp[X19]) fun Q g r=>?_;by_cases c:a.length=b.length
 . simp[X19,c];refine I6 (fun(k:Nat) vs h=>k≤b.length∧(∀j,(hj:j<b.length)→j<k→a[j]'j4=b[j])∧vs=[CL a,CL b,.uu,IN k,.uu,.uu,.uu]∧h=[]) (fun k=>b.length-k) 0 ?_ ?_
   . simp
   . rintro k vs h ⟨g1,g2,rfl,rfl⟩ Q' m n o;by_cases i:k<b.length
     . have hw:=wk1 k j4;have l:k<a.length:=j4;by_cases d:a[k]=b[k]
       . simp[i,l,d,hw];refine m (k+1) _ _ j4 ?_;simp;refine⟨j4,fun j hj s=>?_⟩;by_cases f:j<k
         . exact g2 j hj f
         . obtain rfl:j=k:=j4;exact d
       . have:¬a=b:=fun e=>d (by subst e;rfl);have p:¬((a[k]:Nat):Int)=b[k]:=j4;simp[i,l,d,p];refine o _ _ ?_;simp;refine g _ _ ?_;simp[X19,this]
     . obtain rfl:k=b.length:=j4;have:a=b:=a0z c fun j h1 f=>g2 j f f;simp[c];refine n _ _ _ ?_;simp;refine g _ _ ?_;simp[X19,this]
 . simp[X19,c];refine g _ _ ?_;have:¬a=b:=fun e=>c (by rw[e]);simp[X19,this]
theorem b5I(a b:I4)(j:a.cells.length≤1100000000):F0 37 [0] [RP a,RP b] (B (decide (a=b))):=by
 refine E1 c37 2 (by simp[X37]) fun Q e l=>?_;have he:=c1A a b;have d:=b4D a.cells b.cells j;by_cases c:a.print=b.print
 . by_cases h:a.cells=b.cells
   . rw[decide_eq_true h]at d;by_cases f:a.left=b.left
     . by_cases g:a.right=b.right
       . by_cases h1:a.src=b.src
         . by_cases i:a.dst=b.dst<;>
           . simp[X37,c];refine l8 d ?_;simp[f,g,h1,i];refine e _ _ ?_;simp[X37,he,h1,i,f,g,c,h]
         . simp[X37,c];refine l8 d ?_;simp[f,g,h1];refine e _ _ ?_;simp[X37,he,h1]
       . simp[X37,c];refine l8 d ?_;simp[f,g];refine e _ _ ?_;simp[X37,he,g]
     . simp[X37,c];refine l8 d ?_;simp[f];refine e _ _ ?_;simp[X37,he,f]
   . rw[decide_eq_false h]at d;simp[X37,c];refine l8 d ?_;simp;refine e _ _ ?_;simp[X37,he,h]
 . have k:(a.print==b.print)=false:=beq_eq_false_iff_ne.2 c;simp[X37,k];refine e _ _ ?_;simp[X37,he,c]
theorem c4p(b:UInt8):decide (a1u b=4)=decide (O7 b=32):=by
 unfold a1u;have:=c3N b;congr 1;apply propext;split
 . constructor<;>intro h<;>omega
 split
 . constructor<;>intro h<;>omega
 split
 . constructor<;>intro h<;>omega
 split
 . constructor<;>intro h<;>omega
 . constructor<;>intro h<;>omega
theorem d0w(r:I4)(m:Nat)(hr:OkR r)(hm:m≤1000000):F0 99 [0] [RP r,IN m] (B (a0B r m)):=by
 refine E1 c99 2 (by simp[U6]) fun Q a V=>?_;have he:a0B r m=(if 4<r.print.length∨r.cells.length<1∨4<r.cells.length then false
  else if(a0m r.print).isSome then false
  else if r.left<1∨63<r.left∨r.right<1∨63<r.right then false
  else if m≤r.src∨m≤r.dst then false
  else if a3o r.print then decide (r.print.length=1∧r.cells=[0])
  else r.cells.all fun c=>decide (c<64)&&decide (c≠63)&&decide (c≠0)):=rfl
 have W:=hr.print;have X:=hr.cells;have f:=c2v r.print j4;cases hb:a0m r.print with
 |some k=>
  have I:a0B r m=false:=by grind
  rw[hb]at f;simp[U6];refine l8 f ?_;simp;refine a _ _ ?_;simp[U6,I]
 |none=>
  rw[hb]at f;by_cases a1:4<r.print.length
  . simp[U6];refine l8 f ?_;simp[a1];refine a _ _ ?_;simp[U6,he,a1]
  by_cases a2:r.cells.length<1
  . simp[U6];refine l8 f ?_;simp[a1,a2];refine a _ _ ?_;simp[U6,he,a2]
  by_cases a3:4<r.cells.length
  . simp[U6];refine l8 f ?_;simp[a1,a2,a3];refine a _ _ ?_;simp[U6,he,a3]
  rw[if_neg j4,if_neg (by simp[hb])]at he;by_cases i:r.left<1
  . simp[U6];refine l8 f ?_;simp[a1,a2,a3,i];refine a _ _ ?_;simp[U6,he,i]
  by_cases o:63<r.left
  . simp[U6];refine l8 f ?_;simp[a1,a2,a3,i,o];refine a _ _ ?_;simp[U6,he,o]
  by_cases p:r.right<1
  . simp[U6];refine l8 f ?_;simp[a1,a2,a3,i,o,p];refine a _ _ ?_;simp[U6,he,p]
  by_cases q:63<r.right
  . simp[U6];refine l8 f ?_;simp[a1,a2,a3,i,o,p,q];refine a _ _ ?_;simp[U6,he,q]
  rw[if_neg j4]at he;by_cases t:m≤r.src
  . simp[U6];refine l8 f ?_;simp[a1,a2,a3,i,o,p,q,t];refine a _ _ ?_;simp[U6,he,t]
  by_cases v:m≤r.dst
  . simp[U6];refine l8 f ?_;simp[a1,a2,a3,i,o,p,q,t,v];refine a _ _ ?_;simp[U6,he,v]
  rw[if_neg j4]at he;simp[U6];refine l8 f ?_;simp[a1,a2,a3,i,o,p,q,t,v];obtain⟨l,u⟩:∃l:Nat→Bool,∀k,l k=(r.print.take k).any fun b=>decide (O7 b=32):=⟨_,fun _=>rfl⟩
  obtain⟨n,w⟩:∃n:Nat→Bool,∀k,n k=(r.cells.take k).any fun c=>decide (c=0):=⟨_,fun _=>rfl⟩
  have J:l 0=false:=by rw[u];rfl
  have K:n 0=false:=by rw[w];rfl
  have L:∀k,(d:k<r.print.length)→l (k+1)=(l k||decide (O7 r.print[k]=32)):=fun k d=>by rw[u,u,J5,List.any_append,l9 d];simp
  have M:∀k,(d:k<r.cells.length)→n (k+1)=(n k||decide (r.cells[k]=0)):=fun k d=>by rw[w,w,J5,List.any_append,l9 d];simp
  have N:l r.print.length=a3o r.print:=by rw[u,K8];unfold a3o;simp only[c4p]
  refine I6 (fun(k:Nat) vs h=>k≤r.print.length∧vs=[.uu,.uu,.ptr 1 1 0,.uu,B (l k),.bool false,IN k,.uu,.uu,.uu,.uu,.uu,.uu,.uu]∧
   h=[dd,(1,.var [St r.print,CL r.cells,UN r.left,UN r.right,IN r.src,IN r.dst])]) (fun k=>r.print.length-k) 0 ?_ ?_
  . simp[J]
  . rintro k vs h ⟨g1,rfl,rfl⟩ Q' A O Y;by_cases d:k<r.print.length
    . have hw:=wk1 k j4;have g:=L k d;cases C:l k
      . rw[C,Bool.false_or]at g;have s:=c2L r.print[k];rw[←g]at s;simp[d];refine l8 s ?_;simp[hw];refine A (k+1) _ _ j4 ?_;simp;omega
      . rw[C,Bool.true_or]at g;simp[d,hw];refine A (k+1) _ _ j4 ?_;simp[g];omega
    . obtain rfl:k=r.print.length:=j4;rw[N];simp;refine O _ _ _ ?_;simp;obtain⟨sp,s⟩:=s8 (a3o r.print);rw[←s];rw[←s]at he;refine I6 (fun(k:Nat) vs h=>k≤r.cells.length∧(∀j,(hj:j<r.cells.length)→j<k→r.cells[j]<63)∧vs=[.uu,.uu,.ptr 1 1 0,.uu,B sp,B (n k),.uu,IN k,.uu,.uu,.uu,.uu,.uu,.uu]∧
       h=[dd,(1,.var [St r.print,CL r.cells,UN r.left,UN r.right,IN r.src,IN r.dst])]) (fun k=>r.cells.length-k) 0 ?_ ?_
      . simp[K]
      . rintro k vs h ⟨Z,D,rfl,rfl⟩ Q2 E P R;by_cases d:k<r.cells.length
        . have hw:=wk1 k j4;have g:=M k d;by_cases x:63≤r.cells[k]
          . have y:a0B r m=false:=by
             rw[he];cases sp
             . rw[if_neg k8];exact List.all_eq_false.2 ⟨_,C4 d,F6⟩
             . grind
            simp[d,x];refine R _ _ ?_;simp;refine a _ _ ?_;simp[U6,y]
          . have z:∀j,(hj:j<r.cells.length)→j<k+1→r.cells[j]<63:=fun j hj aa=>by
             by_cases S:j<k
             . exact D j hj S
             . obtain rfl:j=k:=j4;omega
            cases F:n k
            . rw[F,Bool.false_or]at g;simp[d,x,hw,←g];refine E (k+1) _ _ j4 ?_;simp;exact⟨j4,z⟩
            . rw[F,Bool.true_or]at g;simp[d,x,hw];refine E (k+1) _ _ j4 ?_;simp[g];exact⟨j4,z⟩
        . obtain rfl:k=r.cells.length:=j4;obtain⟨bl,T⟩:=s8 (n r.cells.length);rw[←T];have G:bl=r.cells.any fun c=>decide (c=0):=(by grind);have z:∀c∈r.cells,c<63:=fun c U=>by
           obtain⟨j,hj,rfl⟩:=a1I U;exact D j hj hj
          simp;refine P _ _ _ ?_;cases sp with
          |false=>
           have y:a0B r m=!bl:=(by grind);simp;refine a _ _ ?_;simp[U6,y]
          |true=>
           rw[if_pos rfl]at he;by_cases f1:r.print.length=1
           . by_cases f2:r.cells.length=1
             . obtain⟨c0,H⟩:=a9K.1 f2;rw[H]at he G;simp[f1,H];refine a _ _ ?_;simp[U6,he,f1,G]
             . have:¬r.cells=[0]:=fun e=>f2 (by rw[e];rfl);simp[f1,f2];refine a _ _ ?_;simp[U6,he,f1,this]
           . simp[f1];refine a _ _ ?_;simp[U6,he,f1]
theorem c5u(t:k7)(u:OkT t):∃i e:Int,(e=0↔T5 t=true)∧F0 57 [0,0] [TP t] (.tup [I i,I e]):=by
 suffices x:∃r,(∃i e:Int,(e=0↔T5 t=true)∧r=.tup [I i,I e])∧F0 57 [0,0] [TP t] r by obtain⟨r,⟨i,e,h1,rfl⟩,c⟩:=x;exact⟨i,e,h1,c⟩
 refine a3u mixed (X:=X57) c57 2 (by simp[X57]) (by kernel_rfl) fun Q a L=>?_;have f:T5 t=(if t.modes<1∨8<t.modes then false
  else if t.accept=0∨2^t.modes≤t.accept then false
  else if t.rules.length<1∨64<t.rules.length then false
  else(t.rules.all fun r=>a0B r t.modes)&&decide t.rules.Nodup):=rfl
 have b:∀i e:Int,e≠0→T5 t=false→∃y v:Int,(v=0↔T5 t=true)∧PV.tup [I i,I e]=.tup [I y,I v]:=fun i e he h=>⟨i,e,by simp[he,h],rfl⟩
 by_cases a1:t.modes<1
 . simp[X57,a1];refine a _ _ _ (b (-1) 1 H9 (by grind)) ?_;simp[X57]
 by_cases a2:8<t.modes
 . simp[X57,a1,a2];refine a _ _ _ (b (-1) 1 H9 (by grind)) ?_;simp[X57]
 rw[if_neg j4]at f;by_cases a3:t.accept=0
 . simp[X57,a1,a2,a3];refine a _ _ _ (b (-1) 1 H9 (by grind)) ?_;simp[X57]
 have n:=c1z (m:=t.modes) j4;have M:=u.accept;have o:IntKind.i64.wrap (t.accept:Int)=t.accept:=T3;have p:((2:Int)^t.modes≤(t.accept:Int))=(2^t.modes≤t.accept):=by grind
 by_cases a4:2^t.modes≤t.accept
 . simp[X57,a1,a2,a3,IntKind.bits,n,o,p,a4];refine a _ _ _ (b (-1) 1 H9 (by grind)) ?_;simp[X57]
 rw[if_neg j4]at f;by_cases a5:t.rules.length<1
 . have z:t.rules=[]:=a0U.1 j4;simp[X57,a1,a2,a3,IntKind.bits,n,o,p,a4,z];refine a _ _ _ (b (-1) 1 H9 (by grind)) ?_;simp[X57]
 by_cases a6:64<t.rules.length
 . simp[X57,a1,a2,a3,IntKind.bits,n,o,p,a4,a5,a6];refine a _ _ _ (b (-1) 1 H9 (by grind)) ?_;simp[X57]
 rw[if_neg j4]at f;simp[X57,a1,a2,a3,IntKind.bits,n,o,p,a4,a5,a6];refine I6 (fun(k:Nat) vs h=>k≤t.rules.length∧b2z t k∧vs=[.uu,.ptr 1 1 0,.uu,.uu,IN k,.uu,.uu,.uu,.uu,.uu,.uu]∧
  h=[dd,(1,.var [IN t.modes,UN t.accept,.slc (t.rules.map RP)])]) (fun k=>t.rules.length-k) 0 ?_ ?_
 . simp;exact⟨fun j _ h=>absurd h j4,fun i j _ _ h=>absurd h j4⟩
 . rintro k vs h ⟨g1,g2,rfl,rfl⟩ Q' A B w;by_cases d:k<t.rules.length
   . have hw:=wk1 k j4;have C:=u.a1n _ (C4 d);have q:=d0w t.rules[k] t.modes C j4;cases hs:a0B t.rules[k] t.modes
     . have g:T5 t=false:=by
        rw[f,show(t.rules.all fun r=>a0B r t.modes)=false from List.all_eq_false.2 ⟨_,C4 d,by simp[hs]⟩];rfl
       rw[hs]at q;simp[d];refine l8 q ?_;simp;refine w _ _ ?_;simp;refine a _ _ _ (b k 20 H9 g) ?_;simp[X57]
     . rw[hs]at q;simp[d];refine l8 q ?_;simp;refine I6 (fun(j:Nat) vs h=>j≤k∧(∀i,(hi:i<j)→(l:j≤k)→t.rules[i]≠t.rules[k])∧vs=[.uu,.ptr 1 1 0,.uu,.uu,IN k,IN j,.uu,.uu,.uu,.uu,.uu]∧
        h=[dd,(1,.var [IN t.modes,UN t.accept,.slc (t.rules.map RP)])]) (fun j=>k-j) 0 ?_ ?_
       . simp
       . rintro j vs h ⟨D,E,rfl,rfl⟩ Q'' F G H;by_cases hj:j<k
         . have s:j<t.rules.length:=j4;have J:=wk1 j j4;have heq:=b5I t.rules[j] t.rules[k] (by have:=(u.a1n _ (C4 s)).cells;omega);by_cases l:t.rules[j]=t.rules[k]
           . have g:T5 t=false:=by
              rw[f,show decide t.rules.Nodup=false from decide_eq_false fun K=>a6c.1 K j k s d hj l,Bool.and_false]
             simp only[l,decide_true]at heq;simp[hj,s,d,l];refine l8 heq ?_;simp;refine H _ _ ?_;simp;refine w _ _ ?_;simp;refine a _ _ _ (b k 20 H9 g) ?_;simp[X57]
           . simp only[l,decide_false]at heq;simp[hj,s,d];refine l8 heq ?_;simp[J];refine F (j+1) _ _ j4 ?_;simp;refine⟨j4,fun i hi N=>?_⟩;by_cases c:i<j
             . exact E i c D
             . grind
         . obtain rfl:j=k:=j4;simp;refine G _ _ _ ?_;simp[hw];refine A (j+1) _ _ j4 ?_;simp;refine⟨j4,fun i hi O=>?_,fun i m hm hi P=>?_⟩
           . by_cases c:i<j
             . exact g2.1 i hi c
             . obtain rfl:i=j:=j4;exact hs
           . by_cases c:m<j
             . exact g2.2 i m hm hi c
             . grind
   . obtain rfl:k=t.rules.length:=j4;have g:T5 t=true:=(by rw[f];exact b5X g2);simp;refine B _ _ _ ?_;simp;refine a _ _ _ ⟨0,0,by simp[g],rfl⟩ ?_;simp[X57]
theorem c9g(t:k7)(a:OkT t):F0 24 [0] [TP t] (B (T5 t)):=by refine E1 c24 1 (by simp[X24]) fun Q b f=>?_;obtain⟨i,e,he,c⟩:=c5u t a;simp[X24];refine l8 c ?_;simp;refine b _ _ ?_;simp[X24];cases d:T5 t<;>simp[d]at he⊢ <;>exact he
set_option maxHeartbeats 16000000
def H8(p:By)(cs:List Nat)(a b:Nat):I4:=⟨p,cs,63,63,a,b⟩
def O8(c k a b:Nat):I4:=⟨[],[c],63,2^k,a,b⟩
theorem a0x(p:By)(cs:List Nat)(a b:Nat):F0 55 [0,1,0,0,0,0] [St p,CL cs,.agg [IN a,IN b]] (RP (H8 p cs a b)):=by refine E1 c55 2 (by simp[X55]) fun Q c d=>?_;simp[X55];refine c _ _ ?_;simp[X55,H8]
theorem b4N(c k a b:Nat)(e:k≤3):F0 54 [0,1,0,0,0,0] [UN c,IN k,.agg [IN a,IN b]] (RP (O8 c k a b)):=by
 refine E1 c54 4 (by simp[X54]) fun Q d f=>?_;have hs:=a0x [] [c] a b;simp[X54];refine l8 hs ?_;have hw:IntKind.u8.wrap (2^min k IntKind.u8.bits)=((2^k:Nat):Int):=by
  have:∀n:Fin 4,IntKind.u8.wrap (2^min n.val IntKind.u8.bits)=((2^n.val:Nat):Int):=by decide+kernel
  exact this ⟨k,j4⟩
 simp[H8,hw];refine d _ _ ?_;simp[X54,O8]
def a1i:List I4:=[H8 [97] [1] 0 0,H8 [98] [3] 0 0,H8 [99] [9] 0 0,H8 [32] [0] 0 0]
theorem c3F:F0 53 [6] [] (.uslc (a1i.map RP)):=by refine E1 c53 6 (by simp[X53]) fun Q a b=>?_;simp[X53];refine l8 (a0x [97] [1] 0 0) ?_;simp[H8];refine l8 (a0x [98] [3] 0 0) ?_;simp[H8];refine l8 (a0x [99] [9] 0 0) ?_;simp[H8];refine l8 (a0x [32] [0] 0 0) ?_;simp[H8];refine a _ _ ?_;simp[X53,a1i,H8]
def a5e(k:Nat):List I4:=match k with
 |1=>a1i++[O8 60 3 0 1,H8 [49] [1] 1 1,H8 [50] [3] 1 1,H8 [32] [0] 1 0]
 |2=>a1i++[O8 32 2 0 1,H8 [65] [1] 1 0,H8 [66] [3] 1 0]
 |3=>a1i++[H8 [97,98] [7] 0 0,H8 [97,98,99] [15] 0 0,H8 [99,97] [4,4] 0 0]
 |4=>a1i++[H8 [45] [1,3] 0 0]
 |5=>a1i++[{H8 [98] [44] 0 0 with left:=17},{H8 [99,97,98] [44] 0 0 with left:=2},H8 [45] [36] 0 0]
 |6=>a1i++[O8 40 1 0 1,H8 [225] [1] 1 0,H8 [226] [3] 1 0]
 |7=>a1i++[H8 [45] [1,5] 0 0,H8 [49] [5,5] 0 0,H8 [50] [5,9] 0 0]
 |_=>a1i
def H7(k:Nat):k7:=⟨if k=1∨k=2∨k=6 then 2 else 1,if k=1 then 3 else 1,a5e k⟩
theorem c2c(L:List I4):∀x,x∈L.map RP→D9 x=true:=fun x a=>by obtain⟨g,_,rfl⟩:=G7.1 a;rfl
@[simp ↓] theorem d3E(L:List I4):(∀x,x∈L.map RP→D9 x=true)=True:=eq_true (c2c L)
@[simp ↓] theorem d4Z(L:List I4):(L.map RP).all D9=true:=B5.2 (c2c L)
@[simp] theorem d2B(L:List I4):List.map (B6∘RP) L=L.map RP:=O1 fun g _=>rfl
theorem b2O(k:UInt8):F0 18 [0,0,6] [U k.toNat] (TP (H7 (k.toNat%8))):=by
 refine E1 c18 42 (by simp[X18]) fun Q b f=>?_;have hm:(k.toNat:Int).tmod 8=((k.toNat%8:Nat):Int):=rfl;obtain⟨q,c⟩:=s8 (k.toNat%8);rw[←c]at hm;rw[←c]at b;have d:q<8:=j4;have e:=c3F;have a:a1i.length=4:=rfl;simp[X18];refine l8 e ?_
 match q,d with
 |0,_=>
  simp[hm];refine b _ _ ?_;simp[X18,H7,a5e,a1i,H8,O8]
 |1,_=>
  simp[hm];refine l8 (b4N 60 3 0 1 j4) ?_;simp[H8,O8,a];refine l8 (a0x [49] [1] 1 1) ?_;simp[H8,O8,a];refine l8 (a0x [50] [3] 1 1) ?_;simp[H8,O8,a];refine l8 (a0x [32] [0] 1 0) ?_;simp[H8,O8,a];refine b _ _ ?_;simp[X18,H7,a5e,a1i,H8,O8]
 |2,_=>
  simp[hm];refine l8 (b4N 32 2 0 1 j4) ?_;simp[H8,O8,a];refine l8 (a0x [65] [1] 1 0) ?_;simp[H8,O8,a];refine l8 (a0x [66] [3] 1 0) ?_;simp[H8,O8,a];refine b _ _ ?_;simp[X18,H7,a5e,a1i,H8,O8]
 |3,_=>
  simp[hm];refine l8 (a0x [97,98] [7] 0 0) ?_;simp[H8,O8,a];refine l8 (a0x [97,98,99] [15] 0 0) ?_;simp[H8,O8,a];refine l8 (a0x [99,97] [4,4] 0 0) ?_;simp[H8,O8,a];refine b _ _ ?_;simp[X18,H7,a5e,a1i,H8,O8]
 |4,_=>
  simp[hm];refine l8 (a0x [45] [1,3] 0 0) ?_;simp[H8,O8,a];refine b _ _ ?_;simp[X18,H7,a5e,a1i,H8,O8]
 |5,_=>
  simp[hm];refine l8 (a0x [98] [44] 0 0) ?_;simp[H8,O8,a];refine l8 (a0x [99,97,98] [44] 0 0) ?_;simp[H8,O8,a];refine l8 (a0x [45] [36] 0 0) ?_;simp[H8,O8,a];refine b _ _ ?_;simp[X18,H7,a5e,a1i,H8,O8]
 |6,_=>
  simp[hm];refine l8 (b4N 40 1 0 1 j4) ?_;simp[H8,O8,a];refine l8 (a0x [225] [1] 1 0) ?_;simp[H8,O8,a];refine l8 (a0x [226] [3] 1 0) ?_;simp[H8,O8,a];refine b _ _ ?_;simp[X18,H7,a5e,a1i,H8,O8]
 |7,_=>
  simp[hm];refine l8 (a0x [45] [1,5] 0 0) ?_;simp[H8,O8,a];refine l8 (a0x [49] [5,5] 0 0) ?_;simp[H8,O8,a];refine l8 (a0x [50] [5,9] 0 0) ?_;simp[H8,O8,a];refine b _ _ ?_;simp[X18,H7,a5e,a1i,H8,O8]
 |q+8,h=>exact absurd h j4
theorem c4J:F0 16 [0,0,6] [] (TP (H7 0)):=by refine E1 c16 2 (by simp[X16]) fun Q a b=>?_;have hb:=b2O 0;simp[X16];refine l8 hb ?_;simp;refine a _ _ ?_;simp[X16]
structure RW where
 p:By
 c:By
 l:UInt8
 r:UInt8
 w0:UInt8
 w1:UInt8
abbrev RWP(x:RW):PV:=.agg [.slc (x.p.map UB),.slc (x.c.map UB),UB x.l,UB x.r,UB x.w0,UB x.w1]
def c0r:List Nat:=[63,63,2,8,17,62,4,1]
def b4O:By:=[97,98,99,65,66,49,50,45,46]
def ccs:List Nat:=[1,3,9,5,7,32,44,60]
def a3Z(i:Nat):Nat:=c0r.getD i 0
def a2x(i:Nat):Nat:=ccs.getD i 0
def a2Q(b:UInt8):UInt8:=b4O.getD (b.toNat%9) 0
def ccB(b:UInt8):Nat:=a2x (b.toNat%8)
def a5P(x:RW)(m:Nat):I4:=⟨(x.p.take 3).map a2Q,a2x (x.l.toNat/8%8)::(x.c.take 2).map ccB,a3Z (x.l.toNat%8),a3Z (x.r.toNat%8),x.w0.toNat%m,x.w1.toNat%m⟩
abbrev RU(r:I4):PV:=.agg [St r.print,.uslc (r.cells.map UN),UN r.left,UN r.right,IN r.src,IN r.dst]
theorem c2k:∀i,(h:i<8)→([.int .u8 63,.int .u8 63,.int .u8 2,.int .u8 8,.int .u8 17,.int .u8 62,.int .u8 4,.int .u8 1]:List PV)[i]=UN (a3Z i)
 |0,_=>rfl
 |1,_=>rfl
 |2,_=>rfl
 |3,_=>rfl
 |4,_=>rfl
 |5,_=>rfl
 |6,_=>rfl
 |7,_=>rfl
 |i+8,h=>absurd h j4
theorem c1c:∀i,(h:i<8)→([.int .u8 1,.int .u8 3,.int .u8 9,.int .u8 5,.int .u8 7,.int .u8 32,.int .u8 44,.int .u8 60]:List PV)[i]=UN (a2x i)
 |0,_=>rfl
 |1,_=>rfl
 |2,_=>rfl
 |3,_=>rfl
 |4,_=>rfl
 |5,_=>rfl
 |6,_=>rfl
 |7,_=>rfl
 |i+8,h=>absurd h j4
theorem c7W:∀j,j<9→(List.drop j [97,98,99,65,66,49,50,45,46]).take 1=[b4O.getD j 0]
 |0,_=>rfl
 |1,_=>rfl
 |2,_=>rfl
 |3,_=>rfl
 |4,_=>rfl
 |5,_=>rfl
 |6,_=>rfl
 |7,_=>rfl
 |8,_=>rfl
 |j+9,h=>absurd h j4
theorem c3c(x:RW)(m:Nat)(hm:1≤m)(au:m≤8)(hp:x.p.length≤9223372036854775807)(av:x.c.length≤9223372036854775807):F0 23 [0,1,0,0,0,0] [RWP x,IN m] (RU (a5P x m)):=by
 refine E1 c23 13 (by simp[X23]) fun Q r aw=>?_;have lt:=x.l.toNat_lt;have rt:=x.r.toNat_lt;have ax:=x.w0.toNat_lt;have ay:=x.w1.toNat_lt;obtain⟨d,s⟩:=s8 (x.l.toNat%8);obtain⟨e,t⟩:=s8 (x.r.toNat%8);have h1:(x.l.toNat:Int).tmod 8=(d:Int):=by rw[s];rfl
 have g:(x.r.toNat:Int).tmod 8=(e:Int):=by rw[t];rfl
 have u:d<8:=j4;have v:e<8:=j4;have P:=c2k d u;have R:=c2k e v;have S:IntKind.i64.wrap (x.w0.toNat:Int)=(x.w0.toNat:Int):=T3;have T:IntKind.i64.wrap (x.w1.toNat:Int)=(x.w1.toNat:Int):=T3;obtain⟨i,w⟩:=s8 (x.w0.toNat%m);obtain⟨l,y⟩:=s8 (x.w1.toNat%m);have U:(x.w0.toNat:Int).tmod (m:Int)=(i:Int):=by rw[w];rfl
 have V:(x.w1.toNat:Int).tmod (m:Int)=(l:Int):=by rw[y];rfl
 have W:¬((m:Int)=0):=j4;have X:¬(m=0):=j4;simp[X23,h1,g,u,v,P,R,S,T,U,V,W,X];refine I6 (fun(k:Nat) vs h=>k≤3∧k≤x.p.length∧vs=[.uu,.uu,.ptr 8 1 0,.ptr 9 1 0,.str ⟨#[97,98,99,65,66,49,50,45,46]⟩,.uu,.ptr 10 1 0,IN k,.uu,.uu,.uu,.uu,.uu]∧
  h=[dd,dd,dd,dd,dd,dd,dd,dd,(1,.var [.slc (x.p.map UB),.slc (x.c.map UB),UB x.l,UB x.r,UB x.w0,UB x.w1]),(1,.var [St [],.nils,UN 0,UN 0,IN 0,IN 0]),(1,.var [St ((x.p.take k).map a2Q),.nils,UN (a3Z d),UN (a3Z e),IN i,IN l]),dd,dd]) (fun k=>3-k) 0 ?_ ?_
 . simp
 . rintro k vs h ⟨g1,g2,rfl,rfl⟩ Q' Y Z az;have hlen:((x.p.take k).map a2Q).length=k:=(by grind);by_cases n:k<x.p.length∧k<3
   . obtain⟨f,aa⟩:=n;have hw:=wk1 k j4;obtain⟨b,hb⟩:=s8 (x.p[k]);obtain⟨j,hj⟩:=s8 (b.toNat%9);have o:(b.toNat:Int).tmod 9=(j:Int):=(by rw[hj];rfl);have z:j<9:=j4;have ab:IntKind.i64.wrap (j:Int)=(j:Int):=T3;have ac:IntKind.i64.wrap ((j:Int)+1)=(j:Int)+1:=T3;have ad:(j:Int)≤(j:Int)+1:=j4;have ae:(j:Int)+1≤9:=j4;have A:=c7W j z;have af:b4O.getD j 0=a2Q b:=(by unfold a2Q;rw[←hj]);rw[af]at A;have c:(x.p.take (k+1)).map a2Q=(x.p.take k).map a2Q++[a2Q b]:=by
      rw[J5,l9 f,S0,←hb];rfl
     obtain⟨B,C⟩:=s8 ((x.p.take k).map a2Q);rw[←C]at hlen c;rw[←C];have ag:¬(9223372036854775807:Int)<(B.length:Int)+1:=j4;obtain⟨pr2,D⟩:=s8 (B++[a2Q b]);rw[←D]at c;simp[f,aa,←hb,o,z,ab,ac,hw,ad,ae,A,ag,←D];refine Y (k+1) _ _ j4 ?_;rw[c];simp;omega
   . have ah:(x.p.take k).map a2Q=(x.p.take 3).map a2Q:=by
      rcases a4N k 3 with p|p
      . grind
      . rw[show k=3 by omega]
     rw[ah];obtain⟨PF,E⟩:=s8 ((x.p.take 3).map a2Q);rw[←E];have ai:(k<x.p.length∧¬k<3)∨(¬k<x.p.length∧True):=(by grind);obtain⟨a,F⟩:=s8 (x.l.toNat/8%8);have G:IntKind.u8.wrap ((x.l.toNat:Int)/8)=((x.l.toNat/8:Nat):Int):=a4p j4 j4;have H:((x.l.toNat/8:Nat):Int).tmod 8=(a:Int):=(by rw[F];rfl);have I:a<8:=j4;have aj:=c1c a I;generalize((x.l.toNat/8:Nat):Int)=ld at G H;rcases ai with⟨h1,g⟩|⟨h1,g⟩<;>simp[h1,g]<;>(
      refine Z _ _ _ ?_;simp[G,H,I,aj];refine I6 (fun(k:Nat) vs h=>k≤2∧k≤x.c.length∧vs=[.uu,.uu,.ptr 8 1 0,.ptr 9 1 0,.uu,.uu,.ptr 10 1 0,.uu,.uu,.own 11 1 8 1 0 8,IN k,.uu,.uu]∧
       h=[dd,dd,dd,dd,dd,dd,dd,dd,(1,.var [.slc (x.p.map UB),.slc (x.c.map UB),UB x.l,UB x.r,UB x.w0,UB x.w1]),(1,.var [St [],.nils,UN 0,UN 0,IN 0,IN 0]),(1,.var [St PF,.own 12 1 (k+1) 1 0 (k+1),UN (a3Z d),UN (a3Z e),IN i,IN l]),(1,.arr 1 0 false [.int .u8 1,.int .u8 3,.int .u8 9,.int .u8 5,.int .u8 7,.int .u8 32,.int .u8 44,.int .u8 60]),(1,.arr 1 0 false ((a2x a::(x.c.take k).map ccB).map UN))]) (fun k=>2-k) 0 ?_ ?_
      . simp
      . rintro k vs h ⟨aA,aB,rfl,rfl⟩ Q2 ak al aC;have hlen:(a2x a::(x.c.take k).map ccB).length=k+1:=(by grind);by_cases n:k<x.c.length∧k<2
        . obtain⟨f,am⟩:=n;have hw:=wk1 k j4;obtain⟨b,hb⟩:=s8 (x.c[k]);obtain⟨j,hj⟩:=s8 (b.toNat%8);have o:(b.toNat:Int).tmod 8=(j:Int):=(by rw[hj];rfl);have J:j<8:=j4;have K:=c1c j J;have an:a2x j=ccB b:=(by unfold ccB;rw[←hj]);rw[an]at K;have c:a2x a::(x.c.take (k+1)).map ccB=(a2x a::(x.c.take k).map ccB)++[ccB b]:=by
           rw[J5,l9 f,S0,←hb];rfl
          obtain⟨cs,L⟩:∃cs,cs=a2x a::(x.c.take k).map ccB:=⟨_,rfl⟩
          rw[←L]at hlen c;rw[←L];obtain⟨ao,ap⟩:=s8 (cs++[ccB b]);rw[←ap]at c;have f1:cs.map UN++[.int .u8 (ccB b)]=ao.map UN:=(by grind);have f3:k+1+1≤140737488355328:=j4;simp[f,am,←hb,o,J,K,hw,hlen,f1,f3];refine ak (k+1) _ _ j4 ?_;rw[c];simp;omega
        . have M:a2x a::(x.c.take k).map ccB=a2x a::(x.c.take 2).map ccB:=by
           rcases a4N k 2 with p|p
           . grind
           . rw[show k=2 by omega]
          rw[M]at hlen;rw[M];obtain⟨CF,q⟩:∃CF,CF=a2x a::(x.c.take 2).map ccB:=⟨_,rfl⟩
          rw[←q]at hlen;rw[←q];have aq:a5P x m=⟨PF,CF,a3Z d,a3Z e,i,l⟩:=(by rw[E,q,s,t,w,y,F];rfl);rw[aq]at r;have ar:(k<x.c.length∧¬k<2)∨(¬k<x.c.length∧True):=(by grind);rcases ar with⟨N,O⟩|⟨N,O⟩<;>simp[N,O]<;>(
           refine al _ _ _ ?_;simp;refine r _ _ ?_;simp[X23,hlen]
          )
     )
structure RwT where
 base:UInt8
 drop:UInt8
 more:List RW
abbrev RwP(x:RwT):PV:=.agg [UB x.base,UB x.drop,.slc (x.more.map RWP)]
def kept(d:UInt8)(L:List I4)(k:Nat):List I4:=(List.range k).filterMap fun i=>if bit d.toNat i then none else L[i]?
theorem c6D{m k:Nat}(hm:m<256)(a:k<8):(a3G .u8 ((m:Int).fdiv (2^(min ((k:Int)).toNat 8))) 1=0)=(bit m k=false):=by
 have:∀n:Fin 256,∀j:Fin 8,(decide (a3G .u8 (((n.val:Nat):Int).fdiv (2^(min ((j.val:Nat):Int).toNat 8))) 1=0))=decide (bit n.val j.val=false):=by decide+kernel
 have h:=this ⟨m,hm⟩ ⟨k,a⟩
 grind
theorem b9i(d:UInt8)(L:List I4){k:Nat}(a:k<L.length):kept d L (k+1)=if bit d.toNat k then kept d L k else kept d L k++[L[k]]:=by
 unfold kept;rw[a2F,b5t]
 grind
theorem d1f:∀k:Fin 8,(T5 (H7 k.val)&&decide ((H7 k.val).modes≤2)&&decide ((H7 k.val).rules.length≤8)&&(H7 k.val).rules.all fun r=>decide (r.cells.length≤3))=true:=by decide+kernel
theorem b4l(k:Nat)(a:k<8):s7 (H7 k)∧(H7 k).modes≤2∧(H7 k).rules.length≤8∧∀r∈(H7 k).rules,r.cells.length≤3:=by have h:=d1f ⟨k,a⟩;simp only[E7,decide_eq_true_eq,B5]at h;exact⟨(a7a _).1 h.1.1.1,h.1.1.2,h.1.2,h.2⟩
theorem s7.sub{t:k7}(h:s7 t){L:List I4}(hs:L.Sublist t.rules)(a:L≠ []):s7 ⟨t.modes,t.accept,L⟩:=
 ⟨h.m1,h.m8,h.a0,h.a8,a2E.2 a,U3 hs.length_le h.l64,fun r hr=>h.sound r (hs.subset hr),h.nodup.sublist hs⟩
theorem c2q(d:UInt8)(L:List I4):(kept d L L.length).Sublist L:=by
 have key:∀k,k≤L.length→(kept d L k).Sublist (L.take k):=by
  intro k
  induction k with
  |zero=>intro _;exact List.nil_sublist _
  |succ k a=>
   intro b;rw[b9i d L b,J5,l9 b];split
   . exact(a j4).trans (List.sublist_append_left _ _)
   . exact(a j4).append (List.Sublist.refl _)
 grind
structure Mk(b:k7)(rs:List I4)(i:Nat):Prop where
 len:rs.length≤8+i
 c3:∀r∈rs,r.cells.length≤3
 val:rs≠ []→s7 ⟨b.modes,b.accept,rs⟩
theorem d0z(w:RW){m:Nat}(h1:1≤m)(e:m≤8):OkR (a5P w m):=by
 have mk:∀i,a3Z i<256:=fun i=>by
  unfold a3Z;rcases a4N i 8 with h|h
  . have:∀n:Fin 8,c0r.getD n.val 0<256:=H9;exact this ⟨i,h⟩
  . rw[B0,a0i (by exact h)];decide
 have d:∀i,a2x i<256:=fun i=>by
  unfold a2x;rcases a4N i 8 with h|h
  . have:∀n:Fin 8,ccs.getD n.val 0<256:=H9;exact this ⟨i,h⟩
  . rw[B0,a0i (by exact h)];decide
 refine⟨?_,?_,fun c a=>?_,mk _,mk _,?_,?_⟩
 . unfold a5P;simp only[O0,a1V];omega
 . unfold a5P;simp only[S9,O0,a1V];omega
 . unfold a5P at a;rcases Y8.1 a with rfl|a
   . exact d _
   . obtain⟨b,_,rfl⟩:=G7.1 a;exact d _
 . have:w.w0.toNat%m<m:=Nat.mod_lt _ j4;show w.w0.toNat%m≤1000000;omega
 . have:w.w1.toNat%m<m:=Nat.mod_lt _ j4;show w.w1.toNat%m≤1000000;omega
theorem c9y{b:k7}(hb:s7 b){rs c:List I4}{i:Nat}(hm:Mk b rs i){r:I4}(d:c=rs++[r])(hr:OkR r)(hi:i≤2):OkT ⟨b.modes,b.accept,c⟩:=by
 refine⟨hb.ok.modes,hb.ok.accept,?_,fun q a=>?_⟩
 . have:=hm.len
   grind
 . have a:q∈c:=a;rw[d]at a;rcases I5.1 a with a|a
   . exact(hm.val (List.ne_nil_of_mem a)).ok.a1n q a
   grind
structure LMd where
 (i:Nat)
 (rs:List I4)
 (es:List PV)
theorem c8F(x:RwT)(ae:∀w∈x.more,w.p.length≤9223372036854775807∧w.c.length≤9223372036854775807)(aw:x.more.length≤9223372036854775807):∃r,(∃(t:k7) (c:PV),r=.agg [IN t.modes,UN t.accept,c]∧(c=.slc (t.rules.map RP)∨∃es,c=.uslc es∧es.map B6=t.rules.map RP∧∀e∈es,D9 e=true)∧s7 t∧Sm t∧t.rules.length≤10)∧F0 5 [0,0,6] [RwP x] r:=by
 refine a3u mixed (X:=X5) c5 14 (by simp[X5]) (by kernel_rfl) fun Q J ax=>?_;have hb:=b2O x.base;obtain⟨b,L⟩:=s8 (H7 (x.base.toNat%8));rw[←L]at hb;simp[X5];refine l8 hb ?_;simp;obtain⟨o,M,af,N⟩:s7 b∧b.modes≤2∧b.rules.length≤8∧∀r∈b.rules,r.cells.length≤3:=by rw[L];exact b4l _ j4
 have hd:=x.drop.toNat_lt;have ag:x.drop.toNat<256:=hd;refine I6 (fun(k:Nat) vs h=>k≤b.rules.length∧vs=[.uu,.ptr 10 1 0,.ptr 11 1 0,.ptr 12 1 0,.slc (b.rules.map RP),IN k,.uu,.uu,.uu,.uu,.uu,.uu]∧
  h=[dd,dd,dd,dd,dd,dd,dd,dd,dd,dd,(1,.var [UB x.base,UB x.drop,.slc (x.more.map RWP)]),(1,.var [IN 0,UN 0,.nils]),(1,.var [IN b.modes,UN b.accept,.own 13 1 (kept x.drop b.rules k).length 6 0 (kept x.drop b.rules k).length]),(1,.arr 6 0 false ((kept x.drop b.rules k).map RP))]) (fun k=>b.rules.length-k) 0 ?_ ?_
 . simp[kept]
 . rintro k vs h ⟨g1,rfl,rfl⟩ Q' O ah ay;by_cases F:k<b.rules.length
   . have hw:=wk1 k j4;have m:=c6D ag (show k<8 by omega);have g:=b9i x.drop b.rules F;obtain⟨K,p⟩:=s8 (kept x.drop b.rules k);rw[←p]at g;rw[←p];simp at m;cases P:bit x.drop.toNat k
     . rw[P]at m g;simp at m;obtain⟨K2,l⟩:=s8 (K++[b.rules[k]]);have g:kept x.drop b.rules (k+1)=K2:=(by rw[g,l];rfl);have f1:K.map RP++[RP b.rules[k]]=K2.map RP:=(by rw[l,S0];rfl);have f2:K.length+1=K2.length:=(by rw[l];simp);have ai:K.length≤k:=by
        rw[p];unfold kept
        grind
       have f3:K2.length*64≤140737488355328:=j4;simp[F,IntKind.bits,m,f1,f2,f3,hw];refine O (k+1) _ _ j4 ?_;rw[g];simp;omega
     . rw[P]at m g;simp at m;have g:kept x.drop b.rules (k+1)=K:=(by rw[g];rfl);simp[F,IntKind.bits,m,hw];refine O (k+1) _ _ j4 ?_;rw[g];simp;omega
   . obtain rfl:k=b.rules.length:=j4;simp;refine ah _ _ _ ?_;obtain⟨K,p⟩:=s8 (kept x.drop b.rules b.rules.length);rw[←p];have R:Mk b K 0:=by
      have s:K.Sublist b.rules:=(by rw[p];exact c2q _ _);exact⟨U3 s.length_le af,fun r hr=>N r (s.subset hr),fun aj=>o.sub s aj⟩
     have ak:1≤b.modes:=o.m1;have az:(b.rules.map RP).map B6=b.rules.map RP:=(by rw[a2D];exact O1 fun _ _=>rfl);have aA:∀e∈b.rules.map RP,D9 e=true:=fun e he=>by obtain⟨r,_,rfl⟩:=G7.1 he;rfl
     simp;refine I6 (fun(y:LMd) vs h=>y.i≤2∧y.i≤x.more.length∧Mk b y.rs y.i∧(y.es.take y.rs.length).map B6=y.rs.map RP∧y.rs.length≤y.es.length∧y.es.length≤10∧(∀e∈y.es,D9 e=true)∧
      vs=[.uu,.ptr 10 1 0,.ptr 11 1 0,.ptr 12 1 0,.slc (b.rules.map RP),.uu,IN y.i,.uu,.uu,.uu,.uu,.uu]∧
      h=[dd,dd,dd,dd,dd,dd,dd,dd,dd,dd,(1,.var [UB x.base,UB x.drop,.slc (x.more.map RWP)]),(1,.var [IN 0,UN 0,.nils]),(1,.var [IN b.modes,UN b.accept,.own 13 1 y.es.length 6 0 y.rs.length]),(1,.arr 6 0 false y.es)]) (fun y=>2-y.i) ⟨0,K,K.map RP⟩ ?_ ?_
     . have ai:K.length≤8:=R.len;have aB:List.map (B6∘RP) K=K.map RP:=O1 fun _ _=>rfl;have aC:∀e∈K.map RP,D9 e=true:=fun e he=>by
        obtain⟨r,_,rfl⟩:=G7.1 he;rfl
       simp[R];omega
     . rintro⟨i,rs,es⟩ vs h ⟨S,al,f,z,G,T,A,rfl,rfl⟩ Q2 l U aD;dsimp only at S al f z G T A;by_cases V:i<x.more.length∧i<2
       . obtain⟨hi,am⟩:=V;have hw:=wk1 i j4;obtain⟨w,W⟩:=s8 (x.more[i]);obtain⟨an,ao⟩:=ae w (by rw[W];exact C4 hi);have Y:=c3c w b.modes ak j4 an ao;obtain⟨r,hr⟩:=s8 (a5P w b.modes);rw[←hr]at Y;obtain⟨a,u⟩:=s8 (rs++[r]);have D:rs.length+1=a.length:=(by rw[u];simp);have ap:r.cells.length≤3:=(by rw[hr];unfold a5P;simp;omega);have aq:OkT ⟨b.modes,b.accept,a⟩:=c9y o f u (by rw[hr];exact d0z w o.m1 o.m8) S;have Z:=c9g ⟨b.modes,b.accept,a⟩ aq;have aa:T5 ⟨b.modes,b.accept,a⟩=true→Mk b a (i+1):=fun h=>⟨by have:=f.len;omega,fun q v=>by
          rw[u]at v;rcases I5.1 v with v|v
          . exact f.c3 q v
          . rw[H5.1 v];exact ap,fun _=>(a7a _).1 h⟩
         have ab:Mk b rs (i+1):=⟨by have:=f.len;omega,f.c3,f.val⟩
         have aE:(rs.length+1)*64≤140737488355328:=(by have:=f.len;omega);have ar:rs.length≤9:=(by have:=f.len;omega);have ac:∀d:List PV,(d.take a.length).map B6=a.map RP→(d.map B6).take rs.length=rs.map RP:=fun d h=>by have E:((d.take a.length).map B6).take rs.length=rs.map RP:=(by rw[h,u,S0,List.take_left' k8]);rw[←a4h,List.take_take,show min rs.length a.length=rs.length by omega,a4h]at E;exact E
         have s:IntKind.i64.wrap ((a.length:Int)-1)=(rs.length:Int):=(by rw[←D];exact(wrap_ok j4 j4).trans j4);simp[hi,am,←W];refine l8 Y ?_;by_cases hle:rs.length=es.length
         . obtain⟨d,j⟩:=s8 (es++[RU r]);have f1:es++[RU r]=d:=j.symm;have f2:d.length=a.length:=(by rw[j,←D,hle];simp);have f3:List.map B6 d=a.map RP:=by
            rw[hle,K8]at z;rw[j,u,S0,S0,z];rfl
           have f4:∀e∈d,D9 e=true:=fun e he=>by
            rw[j]at he;rcases I5.1 he with he|he
            . exact A e he
            . rw[H5.1 he];rfl
           have n:(∀e∈d,D9 e=true)=True:=eq_true f4;have f5:es.length+1=a.length:=j4;simp[hle,f1,f2,f5,f3,n,show es.length*64+64≤140737488355328 by omega,show a.length*64≤140737488355328 by omega];refine l8 Z ?_;cases H:T5 ⟨b.modes,b.accept,a⟩with
           |true=>
            simp[hw];refine l ⟨i+1,a,d⟩ _ _ u7 ?_;simp[f2,f3,n];exact⟨j4,j4,aa H,j4⟩
           |false=>
            simp[hw,s,show rs.length≤a.length by omega];refine l ⟨i+1,rs,d⟩ _ _ u7 ?_;have f6:=ac d (by rw[←f2,K8];exact f3);simp[f2,n,f6];exact⟨j4,j4,ab,j4,j4⟩
         . obtain⟨d,j⟩:∃d,d=es.take rs.length++RU r::es.drop a.length:=⟨_,rfl⟩
           have f1:es.take rs.length++RU r::es.drop a.length=d:=j.symm;have f2:d.length=es.length:=(by rw[j,Z9,a1V,S9,a4O];omega);have au:d.take a.length=es.take rs.length++[RU r]:=by rw[j,←D,List.take_append,a1V,List.take_take];rw[show min rs.length es.length=rs.length by omega,show min (rs.length+1) rs.length=rs.length by omega,show rs.length+1-rs.length=1 by omega];rfl
           have f3:List.map B6 (d.take a.length)=a.map RP:=by rw[au,u,S0,S0,z];rfl
           have f4:∀e∈d,D9 e=true:=fun e he=>by
            rw[j]at he;rcases I5.1 he with he|he
            . exact A e (b2h he)
            . rcases Y8.1 he with he|he
              . rw[he];rfl
              grind
           have n:(∀e∈d,D9 e=true)=True:=eq_true f4;simp[hle,f1,f2,f3,n,D,G,show a.length≤es.length by omega,show rs.length*64+64≤140737488355328 by omega,show a.length*64≤140737488355328 by omega];refine l8 Z ?_;have f6:=ac d f3;have f7:List.take a.length (List.map B6 d)=a.map RP:=(by rw[←a4h];exact f3);cases H:T5 ⟨b.modes,b.accept,a⟩with
           |true=>
            simp[hw];refine l ⟨i+1,a,d⟩ _ _ u7 ?_;simp[f2,f7,n];exact⟨j4,j4,aa H,j4,T⟩
           |false=>
            simp[hw,s,show rs.length≤es.length by omega,show rs.length≤a.length by omega];refine l ⟨i+1,rs,d⟩ _ _ u7 ?_;simp[f2,n,f6];exact⟨j4,j4,ab,j4,j4⟩
       . have ad:(i<x.more.length∧¬i<2)∨(¬i<x.more.length∧True):=by
          by_cases h:i<x.more.length
          . exact .inl ⟨h,fun E=>V ⟨h,E⟩⟩
          . exact .inr ⟨h,trivial⟩
         by_cases I:rs=[]
         . subst I;rcases ad with⟨B,C⟩|⟨B,C⟩<;>simp[B,C]<;>(
            refine U _ _ _ ?_;simp;refine J _ _ _ ⟨b,_,rfl,.inl rfl,o,⟨M,j4,N⟩,j4⟩ ?_;simp[X5]
           )
         . have ar:0<rs.length:=a2E.2 I;have av:¬rs.length=0:=j4;have f8:(∀e∈es,D9 e=true)=True:=eq_true A;rcases ad with⟨B,C⟩|⟨B,C⟩<;>simp[B,C]<;>(
            refine U _ _ _ ?_;simp[av];refine J _ _ _ ⟨⟨b.modes,b.accept,rs⟩,_,rfl,.inr ⟨es.take rs.length,rfl,z,fun e he=>A e (b2h he)⟩,f.val I,⟨M,by have:=f.len;dsimp only;omega,f.c3⟩,by have:=f.len;dsimp only;omega⟩ ?_;simp[X5,G,f8]
            try (intro h;rw[h,K8])
           )
def X4:u9:=
 ⟨65,[0,1,2,4,5,7,8,9],8,[(0,none)],sq [kk 0,.reg [oq (.call 16 [] [(0,0),(0,0),(0,6)] false),oca 1 1 0 0,og 3 1 0],.reg [oo 3 1,oq (.call 10 [.l 0,.c (.str ⟨#[97,98,32,99]⟩)] [(2,1),(3,1),(0,0),(0,0)] false),om 1,oy 2 0,oy 2 1,oy 2 2,oej 2 4,og 2 6 3,om 4,oc 3 5],.reg [oo 3 1,oq (.lit 1 [.int .u8 0,.int .u8 0,.int .u8 0,.int .u8 0] [(0,.c (.int .u8 1)),(1,.c (.int .u8 3)),(2,.c (.int .u8 0)),(3,.c (.int .u8 9))]),oq (.call 14 [.l 0,.l 1] [(0,0),(0,0),(0,0)] false),om 2,oy 3 0,oy 3 1,oy 3 2,oc 4 4,om 5,oc 5 6],.reg [oq (.call 18 [.c (.int .u8 4)] [(0,0),(0,0),(5,6)] false),oq (.call 17 [.l 0] [(6,1),(0,0),(0,0),(0,0)] false),om 1,oy 2 0,oy 2 1,ow 6 (.alloc 7 [.nils,.str ⟨#[]⟩,.str ⟨#[]⟩]),og 3 5 3,oc 7 4],.reg [oa 3,obz 0 0,om 1,ou 0 2 2,oe 1 3 2,⟨.lit 1 [.int .u8 0,.int .u8 0,.int .u8 0,.int .u8 0] [(0,.c (.int .u8 1)),(1,.c (.int .u8 3)),(2,.c (.int .u8 0)),(3,.c (.int .u8 9))],none,some (.l 2,true),[]⟩,obb 19 4 5 0 0 2,ot 2 6,om 7,oj 5 8,obx 9 0 8,ot 8 10,om 11,oj 4 12,⟨.bin .eql false (.l 13) (.c (.str ⟨#[97,98,32,99]⟩)),none,some (.l 12,true),[]⟩,ot 12 14,om 15,oj 7 16,obx 17 50 16,ot 16 18,om 19,ou 1 6 20,oe 1 21 20,ou 2 6 20,oe 1 23 20,⟨.bin .neq false (.l 22) (.l 24),none,some (.l 20,true),[]⟩,ot 20 25,om 26,ocd 3 1 27,⟨.call 20 [.l 28] [(0,0)] false,none,some (.l 27,true),[]⟩,ot 27 29,om 30,ocd 3 1 31,⟨.call 22 [] [(0,0),(0,0),(0,0)] true,none,some (.l 31,true),[]⟩,obb 21 32 33 0 0 31,ot 31 34,oc 0 35],ko]⟩
theorem c4:D3 4 X4:=D7
def dec(n:Nat):By:=if n<10 then [UInt8.ofNat (48+n)]else [UInt8.ofNat (48+n/10),UInt8.ofNat (48+n%10)]
def a1s(c:Nat):By:=if c=0 then [48]else((List.range 6).filter fun k=>c.testBit k).map fun k=>UInt8.ofNat (49+k)
def a0W(n:Nat):UInt8:=UInt8.ofNat (if n<10 then 48+n else 87+n)
def W4(s:By):By:=s.flatMap fun b=>[a0W (b.toNat/16),a0W (b.toNat%16)]
def a0O(s:By):By:=if s=[]then [46]else W4 s
def a2j:List Nat→By
 | []=>[]
 |c::l=>45::(a1s c++a2j l)
def P7:List Nat→By
 | []=>[]
 |c::l=>a1s c++a2j l
def a3B(r:I4):By:=dec r.src++32::(dec r.dst++32::(dec r.left++32::(dec r.right++32::(P7 r.cells++32::a0O r.print))))
def a0P(l:List I4):By:=l.flatMap fun r=>a3B r++[10]
def a6j:By:=[109,111,100,101,115]
def a3N:By:=[97,99,99,101,112,116]
def a2f(t:k7):By:=a6j++32::(dec t.modes++32::(a3N++32::dec t.accept))
def a8I(t:k7):By:=a2f t++10::a0P t.rules
theorem a2G{n:Nat}(b:n<100):∀y∈dec n,48≤y.toNat∧y.toNat≤57:=by
 intro y a;unfold dec at a;split at a<;>simp at a
 . subst a;simp;omega
 . rcases a with rfl|rfl<;>simp<;>omega
theorem b4j{c:Nat}(a:c<64):∀y∈a1s c,48≤y.toNat∧y.toNat≤54:=by
 have:∀c<64,∀y∈a1s c,48≤y.toNat∧y.toNat≤54:=by decide+kernel
 exact this c a
theorem b6h:∀{l:List Nat},(∀c∈l,c<64)→∀y∈a2j l,45≤y.toNat∧y.toNat≤54
 | [],_,y,a=>by simp[a2j]at a
 |c::l,b,y,a=>by
  simp only[a2j,Y8,I5]at a;rcases a with rfl|a|a
  . decide
  . have:=b4j (b c k8) y a;omega
  . exact b6h (fun c d=>b c (by simp[d])) y a
theorem b8b{l:List Nat}(b:∀c∈l,c<64):∀y∈P7 l,45≤y.toNat∧y.toNat≤54:=by
 intro y a;cases l with
 |nil=>simp[P7]at a
 |cons c l=>
  simp only[P7,I5]at a;rcases a with a|a
  . have:=b4j (b c k8) y a;omega
  . exact b6h (fun c d=>b c (by simp[d])) y a
theorem c1K{n:Nat}(a:n<16):48≤(a0W n).toNat∧(a0W n).toNat≤102:=by
 have:∀n<16,48≤(a0W n).toNat∧(a0W n).toNat≤102:=by decide+kernel
 exact this n a
theorem d0D(s:By):∀y∈W4 s,48≤y.toNat∧y.toNat≤102:=by
 intro y a;simp only[W4,a3b]at a;obtain⟨b,_,a⟩:=a;have hb:=b.toNat_lt;simp only[Y8,H5,List.not_mem_nil,or_false]at a;rcases a with rfl|rfl
 . exact c1K j4
 . exact c1K j4
theorem b7W(s:By):∀y∈a0O s,46≤y.toNat∧y.toNat≤102:=by
 intro y a;unfold a0O at a;split at a
 . simp at a;subst a;decide
 . have:=d0D s y a;omega
theorem a8l(s:By):(W4 s).length=2*s.length:=by
 induction s with
 |nil=>rfl
 |cons b s a=>rw[show W4 (b::s)=a0W (b.toNat/16)::a0W (b.toNat%16)::W4 s from rfl];simp only[S9,a];omega
theorem a9X{c:Nat}(a:c<64):(a1s c).length≤6:=by
 have:∀c<64,(a1s c).length≤6:=by decide+kernel
 exact this c a
theorem a0Q(n:Nat):1≤(dec n).length∧(dec n).length≤2:=by unfold dec;split<;>simp
theorem c0A:∀{l:List Nat},(∀c∈l,c<64)→(a2j l).length≤7*l.length
 | [],_=>by simp[a2j]
 |c::l,a=>by have:=a9X (a c k8);have:=c0A fun c b=>a c (a4i _ b);simp only[a2j,S9,Z9];omega
theorem a4G{l:By}{a b c:Nat}(h:∀y∈l,a≤y.toNat∧y.toNat≤b)(d:c<a)(e:c<256):UInt8.ofNat c∉l:=fun hm=>by have:=h _ hm;simp at this;omega
theorem d0T{r:I4}(h1:r.src<100)(h:r.dst<100)(i:r.left<100)(j:r.right<100)(k:∀c∈r.cells,c<64):(10:UInt8)∉a3B r:=by have a:=a4G (a2G h1) (c:=10) j4 j4;have b:=a4G (a2G h) (c:=10) j4 j4;have d:=a4G (a2G i) (c:=10) j4 j4;have e:=a4G (a2G j) (c:=10) j4 j4;have f:=a4G (b8b k) (c:=10) j4 j4;have g:=a4G (b7W r.print) (c:=10) j4 j4;simp only[show UInt8.ofNat 10=(10:UInt8)from rfl]at a b d e f g;simp[a3B,a,b,d,e,f,g]
theorem c8k{t:k7}(h1:t.modes<100)(d:t.accept<100):(10:UInt8)∉a2f t:=by have a:=a4G (a2G h1) (c:=10) j4 j4;have b:=a4G (a2G d) (c:=10) j4 j4;simp only[show UInt8.ofNat 10=(10:UInt8)from rfl]at a b;simp[a2f,a6j,a3N,a,b]
end Go.Proofs.YtmhbdebagfhimaaGreatDoor.T
