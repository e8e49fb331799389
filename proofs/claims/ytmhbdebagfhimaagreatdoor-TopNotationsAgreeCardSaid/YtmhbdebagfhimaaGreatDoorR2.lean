/-
  The plain machine, that it is sound, and walks: part 2 (joined and shortened by a program of the prover's).
-/
import Derived.Test.YtmhbdebagfhimaaGreatDoorR1
import Derived.MapKept
import Derived.WideKeyRuns
import Derived.Scope
import Derived.LoopN
set_option linter.unusedSimpArgs false
set_option linter.unusedVariables false
set_option linter.unusedSectionVars false
namespace Go.Proofs.YtmhbdebagfhimaaGreatDoor.Am
open Go.RowKit
section
variable{Z':Nat→Prop}{k g gl s o l ver:Nat}{fr:Bool}{es:List PV}{v:Value}{lk:D8}
section
variable{P:Program}{B:Nat}{Z0:Nat→Prop}{G G':Gh}{h h':Heap}{w w':World}
theorem b1t(hr:s6 B Z0 G h w)(H:∀b,G.Z b→Z' b)(p:h[k]?=some (g,.arr s ver fr es))(q:es.length=gl)(ae:o+l≤gl)(hp:es.all D9=true)
 (r:∀y,G.R (k,y)→Z' (G.β (k,y))) (d:j9 G h w D v (.osl k g gl s o l)):PR Z' w v (.slc (((es.drop o).take l).map B6)):=by
 have t:=hr.ob k _ _ p;unfold F7 at t;obtain⟨af,ag,ah,I,J⟩:=t;unfold D at d;unfold j9 at d;obtain⟨a,c,rfl,K,x,L,gn,ob,z,ai,M⟩:=d;rw[p]at z;cases z;obtain⟨_,N⟩:=M rfl _ _ _ _ rfl;obtain⟨_,O,aj⟩:=N q;have hlen:(((es.drop o).take l).map B6).length=l:=F6;by_cases P:l=0
 . subst P;refine PR.U1.2 ⟨a,c,0,k8,k8,x,?_,fun i e he=>by simp at he⟩;rcases L with⟨_,h1⟩|⟨b,f,h1⟩
   . exact fun _=>h1
   . intro A;rw[h1]at A;cases A
 . have m:G.R (root k):=Classical.byContradiction fun Q=>by
    have:=J Q;subst this;simp at q;omega
   obtain⟨us,T,R,ak,S⟩:=I m;obtain⟨f,rfl,al⟩:=O m;have U:f=o*s:=j4;refine PR.U1.2 ⟨some ⟨G.β (root k),f,none⟩,c,s,by rw[hlen],by rw[hlen];exact K,x,fun e=>absurd e k8,fun i e he=>?_⟩;have V:i<l:=(by grind);rw[H6,a0H,if_pos V,a2U]at he;obtain⟨n,C,rfl⟩:=C9.1 he;obtain⟨W,X⟩:=S _ n C;rw[a5J];refine⟨by simpa using W,_,_,rfl,r none m,fun j am E=>?_⟩;rw[H6]at E;obtain⟨c0,F,rfl⟩:=C9.1 E;obtain⟨u,Y,Z⟩:=X j c0 F;have aa:(A7 c0||I7 c0)=true:=B5.1 (show(l6 n).all (fun c=>A7 c||I7 c)=true from B5.1 hp n (D0 C)) c0 (D0 F);obtain⟨ab,ac⟩:=a6q H (fun ad=>r _ ad) aa Z;refine⟨ab,u,?_,ac⟩;rw[a1c R,U,show o*s+(i*s+j)=(o+i)*s+j by rw[O5];omega];exact Y
theorem c1G(hr:s6 B Z0 G h w)(a:∀b,G.Z b→Z' b)(c:h[k]?=some (g,.arr s ver fr es))(d:es.length=gl)(e:o+l≤gl)(hp:es.all D9=true)
 (f:∀y,G.R (k,y)→Z' (G.β (k,y))) (i:j9 G h w D v (.own k g gl s o l)):PR Z' w v (.slc (((es.drop o).take l).map B6)):=b1t hr a c d e hp f (b3V i)
theorem d1y{e:PV}(h:A7 (fzO lk e)=true):(A7 e||I7 e)=true∨∃k g gl s o l,e=.osl k g gl s o l:=by cases e<;>simp[fzO,K5,A7,I7]at h⊢
theorem c8e(hr:s6 B Z0 G h w)(z:∀b,G.Z b→Z' b){hide:List Nat}(A:h[k]?=some (g,.arr s ver fr es))(C:es.length=gl)(ai:o+l≤gl)(hp:es.all (fun e=>A7 (fzO (l7 h hide) e))=true)
 (p:∀key,G.R key→Z' (G.β key)) (q:j9 G h w D v (.own k g gl s o l)):PR Z' w v (.slc (((es.drop o).take l).map (fzO (l7 h hide)))):=by
 have E:=hr.ob k _ _ A;unfold F7 at E;obtain⟨aj,ak,al,N,O⟩:=E;unfold D at q;unfold j9 at q;obtain⟨a,c,rfl,P,F,Q,gn,ob,H,am,R⟩:=q;rw[A]at H;cases H;obtain⟨_,S⟩:=R rfl _ _ _ _ rfl;obtain⟨_,U,an⟩:=S C;have hlen:(((es.drop o).take l).map (fzO (l7 h hide))).length=l:=F6;by_cases V:l=0
 . subst V;refine PR.U1.2 ⟨a,c,0,k8,k8,F,?_,fun i e he=>by simp at he⟩;rcases Q with⟨_,h1⟩|⟨b,f,h1⟩
   . exact fun _=>h1
   . intro I;rw[h1]at I;cases I
 . have r:G.R (root k):=Classical.byContradiction fun W=>by
    have:=O W;subst this;simp at C;omega
   obtain⟨us,T,X,ao,Y⟩:=N r;obtain⟨f,rfl,ap,_⟩:=U r;have Z:f=o*s:=j4;refine PR.U1.2 ⟨some ⟨G.β (root k),f,none⟩,c,s,by rw[hlen],by rw[hlen];exact P,F,fun e=>absurd e k8,fun i e he=>?_⟩;have aa:i<l:=(by grind);rw[H6,a0H,if_pos aa,a2U]at he;obtain⟨d,J,rfl⟩:=C9.1 he;obtain⟨K,L⟩:=Y _ d J;have m:A7 (fzO (l7 h hide) d)=true:=B5.1 hp d (D0 J);have ab:l6 d=[d]:=by cases d<;>first|rfl|(simp[fzO,K5,A7]at m)
   rw[ab]at K L;rw[a9F m];refine⟨by simpa using K,_,_,rfl,p _ r,fun j aq n=>?_⟩;cases j with
   |succ j=>simp at n
   |zero=>
    simp at n;subst n;obtain⟨u,ac,t⟩:=L 0 d rfl;refine⟨a3C m,u,?_,?_⟩
    . rw[a1c X,Z,show o*s+(i*s+0)=(o+i)*s+0 by rw[O5];omega];exact ac
    . rcases d1y m with n|⟨ar,g2,au,s2,av,aw,rfl⟩
      . have ad:fzO (l7 h hide) d=K5 d:=by cases d<;>first|rfl|(simp[A7,I7]at n)
        rw[ad];exact(a6q z (fun x=>p _ x) n t).2
      . unfold G9 at t;simp only[fzO]at m⊢;split at m
        . rename_i ax s' ver' ay es' M;split at m
          . rename_i ae;obtain⟨rfl,af,rfl,ag,ah⟩:=ae;simp only[M];rw[if_pos (by grind)];exact b1t hr z (P6 M k8) af ag ah (fun y x=>p _ x) t.2
          . simp[A7]at m
        . simp[A7]at m
theorem d0M{p:PV}{news:List PV}{ws:List (Nat×Row)}(h:a2R lk 2 p=some (news,ws)):ws=[]:=by
 cases p<;>simp only[a2R]at h<;>(try (cases h;done))<;>(try (simp only[s5,s9]at h;exact h.2.symm))
 case own k g gl s o l=>
  split at h
  . grind
  . cases h
 case nown k g ver i j o l=>
  (repeat' (split at h))<;>(try (cases h;done))
  simp only[s5,s9]at h;exact h.2.symm
theorem c6l{p:PV}{news:List PV}{ws:List (Nat×Row)}(h:a1P lk 2 p=some (news,ws)):ws=[]:=by exact d0M (lk:=lk) (p:=p) (news:=news) (by unfold a1P at h;rwa[if_neg H9]at h)
end
end
section
variable{x:PV}{n:Nat}{t:TypeId}{v:Value}
section
variable{P:Program}{G:Gh}{h:Heap}{w:World}
theorem b7d:∀{ts us:List Nat},(∀t∈ts,t<3)→(∀t∈us,t<3)→a3X ts=a3X us→ts=us
 | [],[],_,_,_=>rfl
 | [],u::us,_,_,e=>by simp only[a3X]at e;omega
 |t::ts,[],_,_,e=>by simp only[a3X]at e;omega
 |t::ts,u::us,h1,b,e=>by have a1:=h1 t k8;have a2:=b u k8;simp only[a3X]at e;have:t=u:=j4;subst this;have:=b7d (ts:=ts) (us:=us) (fun x a=>h1 x (by simp[a])) (fun x a=>b x (by simp[a])) j4;rw[this]
theorem c0U{g:TypeId→Option (List Nat)}(c:∀t ts,g t=some ts→∀x∈ts,x<3):∀(b:List Field) (i:Nat) (ts:List Nat),a5H P g i b=some ts→∀x∈ts,x<3
 | [],i,ts,h,x,a=>by cases h;simp at a
 |f::b,i,ts,h,x,a=>by
  simp only[a5H]at h;split at h
  . rename_i t1 h1;split at h
    . simp only[C9]at h;obtain⟨t2,d,rfl⟩:=h;rcases I5.1 a with a|a
      . exact c _ _ h1 x a
      . exact c0U c b _ _ d x a
    . cases h
  . cases h
theorem b4U:∀(n:Nat) (t:TypeId) (ts:List Nat),a0T P n t=some ts→∀x∈ts,x<3
 |0,t,ts,h=>by simp[a0T]at h
 |n+1,t,ts,h=>by
  simp only[a0T]at h;split at h
  . cases h;simp
  . cases h;simp
  . cases h;simp
  . split at h
    . exact c0U (b4U n) _ _ _ h
    . cases h
  . cases h
theorem b5m{y:PV}{r:Bool}(hs:a1d x y=some r):P1 x=P1 y∧P1 x<3∧∃u v,a0R x=some u∧a0R y=some v∧(r=true→v=u)∧(r=false→v≠u):=by
 cases x<;>cases y<;>simp[a1d]at hs
 case bool.bool a b=>
  subst hs;exact⟨rfl,by simp[P1],_,_,rfl,rfl,fun e=>by simp at e;rw[e],fun e=>by simp at e;simp;exact fun q=>e q.symm⟩
 case int.int k a c b=>
  obtain⟨rfl,rfl⟩:=hs;exact⟨rfl,by simp[P1],_,_,rfl,rfl,fun e=>by simp at e;rw[e],fun e=>by simp at e;simp;exact fun q=>e q.symm⟩
 case str.str a b=>
  subst hs;refine⟨rfl,by simp[P1],_,_,rfl,rfl,fun e=>by rw[(MapKept.bytes_beq _ _).1 e],fun e q=>?_⟩;simp at q;subst q;rw[(MapKept.bytes_beq _ _).2 rfl]at e;cases e
theorem b5k:∀{l m:List PV} {r:Bool},V7 l m=some r→l.length=m.length
 | [],[],_,_=>rfl
 | [],_::_,_,h=>by simp[V7]at h
 |_::_,[],_,h=>by simp[V7]at h
 |a::l,b::m,r,h=>by
  simp only[V7]at h;split at h
  . rename_i h1 c;simp[b5k c]
  . cases h
theorem b7q:∀{l m:List PV} {r:Bool},V7 l m=some r→∃u v,T9 l=some u∧T9 m=some v∧(r=true→v=u)∧(r=false→v≠u)
 | [],[],_,h=>by cases h;exact⟨[],[],rfl,rfl,fun _=>rfl,fun e=>by cases e⟩
 | [],_::_,_,h=>by simp[V7]at h
 |_::_,[],_,h=>by simp[V7]at h
 |a::l,b::m,r,h=>by
  simp only[V7]at h;split at h
  . rename_i x y h1 c;cases h;obtain⟨_,_,u,v,a1,a2,a3,a4⟩:=b5m h1;obtain⟨us,vs,d,f,g,i⟩:=b7q c;refine⟨u::us,v::vs,by simp[T9,a1,d],by simp[T9,a2,f],fun e=>?_,fun e=>?_⟩
    all_goals grind
  . cases h
theorem c1j:∀{a b:List PV} {m:List PV} {r:Bool},V7 (a++b) m=some r→∃c d r1 r2,m=c++d∧V7 a c=some r1∧V7 b d=some r2∧r=(r1&&r2)
 | [],b,m,r,h=>⟨[],m,true,r,rfl,rfl,h,k8⟩
 |x::a,b,[],r,h=>by simp[V7]at h
 |x::a,b,y::m,r,h=>by
  simp only[a6X,V7]at h;split at h
  . rename_i p q h1 e;cases h;obtain⟨c,d,r1,r2,rfl,f,g,rfl⟩:=c1j e;exact⟨y::c,d,p&&r1,r2,rfl,by simp[V7,h1,f],g,by simp[Bool.and_assoc]⟩
  . cases h
theorem a8t:∀{cs:List PV} {l:List Value},T9 cs=some l→l.length=cs.length
 | [],_,h=>by cases h;rfl
 |c::cs,l,h=>by
  simp only[T9]at h;split at h
  . rename_i h1 a;cases h;simp[a8t a]
  . cases h
theorem b4S:∀{a b:List PV} {l:List Value},T9 (a++b)=some l→∃l1 c,l=l1++c∧T9 a=some l1∧T9 b=some c
 | [],b,l,h=>⟨[],l,rfl,rfl,h⟩
 |x::a,b,l,h=>by
  simp only[a6X,T9]at h;split at h
  . rename_i h1 d;cases h;obtain⟨l1,c,rfl,e,f⟩:=b4S d;exact⟨_::l1,c,rfl,by simp[T9,h1,e],f⟩
  . cases h
def a1B(P:Program)(t:TypeId)(x:Value)(l:List Value):Prop:=match P.underlying t with
 |some (.struct _)=>x=.agg l.toArray
 |_=>l=[x]
theorem b2s{off:Nat}{ts:List Nat}{xs:Array Value}{l r:List Value}(a:a0T P n t=some ts)(hs:I9 P t=some ts.length)(hd:xs.toList.drop off=l++r)(b:l.length=ts.length):∃u,(part t xs off).run P w=.ok u w∧a1B P t u l:=by
 obtain⟨i,hi,h⟩:=a1Z hs;have one:∀d,P.underlying t=some d→ts.length=1→(∀f,d≠ .struct f)→(∀n e,d≠ .array n e)→∃u,(part t xs off).run P w=.ok u w∧a1B P t u l:=fun d hu h1 g j=>by
  match l,b with
  | [u],_=>
   have k:xs[off]?=some u:=by have:=congrArg List.head? hd;rw[List.head?_drop]at this;simpa using this
   have c:(isAgg t).run P w=.ok false w:=by unfold isAgg;simp only[N6,run_underlying hu,P5];cases d<;>first|rfl|exact absurd rfl (g _)|exact absurd rfl (j _ _)
   refine⟨u,by unfold part;simp[c,k],?_⟩;unfold a1B;rw[hu];cases d<;>first|rfl|exact absurd rfl (g _)
  | [],b=>rw[h1]at b;simp at b
  |_::_::_,b=>rw[h1]at b;simp at b
 cases n with
 |zero=>simp[a0T]at a
 |succ n=>
  simp only[a0T]at a;split at a
  . rename_i hu;cases a;exact one _ hu rfl (fun _ e=>by cases e) (fun _ _ e=>by cases e)
  . rename_i hu;cases a;exact one _ hu rfl (fun _ e=>by cases e) (fun _ _ e=>by cases e)
  . rename_i hu;cases a;exact one _ hu rfl (fun _ e=>by cases e) (fun _ _ e=>by cases e)
  . rename_i f hu;have c:(isAgg t).run P w=.ok true w:=by
     unfold isAgg;simp only[N6,run_underlying hu,P5];rfl
    refine⟨.agg (xs.extract off (off+ts.length)),by unfold part;simp[c,sizeOf,typeInfo,hi,h],?_⟩;unfold a1B;rw[hu];simp only[];congr 1;apply Array.ext';rw[Array.toList_extract,List.extract_eq_take_drop,hd,show off+ts.length-off=l.length by omega];simp
  . cases a
theorem c0R{n d:Nat}(o:∀(w:World) (t:TypeId) (ts:List Nat),a0T P n t=some ts→∀{cs b:List PV} {l m:List Value} {r:Bool} {u v:Value},T9 cs=some l→T9 b=some m→cs.map P1=ts→V7 cs b=some r→a1B P t u l→a1B P t v m→(Op.equalIn (d+n) t u v).run P w=.ok r w){xs p:Array Value}:
 ∀(j:List Field) (i:Nat) (ts:List Nat),a5H P (a0T P n) i j=some ts→∀{cs b:List PV} {l m:List Value} {r:Bool},T9 cs=some l→T9 b=some m→cs.map P1=ts→V7 cs b=some r→xs.toList.drop i=l→p.toList.drop i=m→(Op.eqFields (d+n) xs p j).run P w=.ok r w
 | [],i,ts,a,cs,b,l,m,r,h1,q,c,h,_,_=>by
  cases a;have:cs=[]:=by simpa using c
  subst this;cases b with
  |nil=>cases h;simp[Op.eqFields]
  |cons=>simp[V7]at h
 |f::j,i,ts,a,cs,b,l,m,r,h1,q,c,h,s,x=>by
  simp only[a5H]at a;split at a
  . rename_i t1 k;split at a
    . rename_i D;obtain⟨c1,c2,c3⟩:=D;simp only[C9]at a;obtain⟨t2,E,rfl⟩:=a;have y:(cs.take t1.length).length=t1.length:=by
       have:=congrArg List.length c;simp at this⊢;omega
      have F:cs=cs.take t1.length++cs.drop t1.length:=(a9G _ _).symm;have G:(cs.take t1.length).map P1=t1:=(by rw[a4h,c];simp);have H:(cs.drop t1.length).map P1=t2:=(by rw[a2X,c];simp);rw[F]at h1 h;obtain⟨e,g,r1,r2,rfl,s1,s2,rfl⟩:=c1j h;obtain⟨l1,R,rfl,z,I⟩:=b4S h1;obtain⟨m1,m2,rfl,A,J⟩:=b4S q;have B:l1.length=t1.length:=(by rw[a8t z];exact y);have C:m1.length=t1.length:=(by rw[a8t A,←b5k s1];exact y);obtain⟨u,K,L⟩:=b2s (w:=w) k c3 s B;obtain⟨v,M,N⟩:=b2s (w:=w) k c3 x C;have O:=o w _ _ k z A G s1 L N;have Q:=c0R o j (i+t1.length) t2 E I J H s2 (by rw[←a2V,s,←B];simp) (by rw[←a2V,x,←C];simp);simp only[Op.eqFields,if_pos c1,N6,c2,K,M,O,P5];cases r1
      . simp
      . simp[Q]
    . cases a
  . cases a
theorem c0j(d:Nat):∀(n:Nat) (w:World) (t:TypeId) (ts:List Nat),a0T P n t=some ts→∀{cs h:List PV} {l m:List Value} {r:Bool} {u v:Value},T9 cs=some l→T9 h=some m→cs.map P1=ts→V7 cs h=some r→a1B P t u l→a1B P t v m→(Op.equalIn (d+n) t u v).run P w=.ok r w
 |0,_,_,_,c=>by simp[a0T]at c
 |n+1,w,t,ts,c=>by
  rename_i cs h l m r u v;intro h1 j i f hu e;have one:∀k,ts=[k]→k<3→∃a b x y,cs=[a]∧h=[b]∧l=[x]∧m=[y]∧a0R a=some x∧a0R b=some y∧P1 a=k∧a1d a b=some r:=fun k s _=>by
   subst s
   match cs,i with
   | [a],i=>
    match h,f with
    | [b],f=>
     simp only[V7]at f;split at f
     . rename_i x y z A;cases f;cases A;obtain⟨_,_,p,q,a1,a2,_⟩:=b5m z;simp[T9,a1]at h1;simp[T9,a2]at j
       grind
     . cases f
    | [],f=>simp[V7]at f
    |_::_::_,f=>have:=b5k f;simp at this
  simp only[a0T]at c;split at c
  . rename_i g;cases c;obtain⟨a,b,x,y,rfl,rfl,rfl,rfl,a1,a2,a3,a4⟩:=one 0 rfl j4;unfold a1B at hu e;rw[g]at hu e;cases hu;cases e;cases a<;>simp[P1]at a3;cases b<;>simp[a1d]at a4;cases a1;cases a2;subst a4;exact run_equalIn_bool' w (d+n) t _ _ g
  . rename_i q g;cases c;obtain⟨a,b,x,y,rfl,rfl,rfl,rfl,a1,a2,a3,a4⟩:=one 1 rfl j4;unfold a1B at hu e;rw[g]at hu e;cases hu;cases e;cases a<;>simp[P1]at a3;cases b<;>simp[a1d]at a4;obtain⟨rfl,rfl⟩:=a4;cases a1;cases a2;exact run_equalIn_int w (d+n) t _ _ _ _ g
  . rename_i g;cases c;obtain⟨a,b,x,y,rfl,rfl,rfl,rfl,a1,a2,a3,a4⟩:=one 2 rfl j4;unfold a1B at hu e;rw[g]at hu e;cases hu;cases e;cases a<;>simp[P1]at a3;cases b<;>simp[a1d]at a4;cases a1;cases a2;subst a4;rw[beq_toListBytes];exact run_equalIn_string w (d+n) t _ _ g
  . rename_i o g;split at c
    . rename_i B;have C:P.fieldsOf t=o:=(by unfold Program.fieldsOf;rw[g]);unfold a1B at hu e;rw[g]at hu e;simp only at hu e;subst hu e;rw[show d+(n+1)=(d+n)+1 from rfl,run_equalIn_struct w (d+n) t _ _ (by grind) B,C];exact c0R (fun w t ts c=>c0j d n w t ts c) o.toList 0 ts c h1 j i f k8 k8
    . cases c
  . cases c
theorem b7I(em:Bool)(d:Nat):∀(n:Nat) (w:World) (t:TypeId) (ts:List Nat),a0T P n t=some ts→∀{l:List Value} {u:Value},l.length=ts.length→a1B P t u l→(Instr.checkKey em (d+n) t u).run P w=.ok () w
 |0,_,_,_,a=>by simp[a0T]at a
 |n+1,w,t,ts,a=>by
  rename_i l u;intro g hu;rw[show d+(n+1)=(d+n)+1 from rfl];simp only[a0T]at a;split at a
  . rename_i h0;unfold Instr.checkKey;simp only[N6,run_underlying h0,P5];simp
  . rename_i h0;unfold Instr.checkKey;simp only[N6,run_underlying h0,P5];simp
  . rename_i h0;unfold Instr.checkKey;simp only[N6,run_underlying h0,P5];simp
  . rename_i h h0;split at a
    . unfold a1B at hu;rw[h0]at hu;simp only at hu;subst hu;unfold Instr.checkKey;simp only[N6,run_underlying h0,P5];rw[←Array.forIn_toList];generalize h.toList=L at a;have key:∀(L:List Field) (i:Nat) (ts:List Nat) (b:List Value),a5H P (a0T P n) i L=some ts→l.drop i=b→b.length=ts.length→
       ((forIn L PUnit.unit fun f _=>
        if f.name≠ "_" then do
         let x ←part f.type l.toArray f.offset
         Instr.checkKey em (d+n) f.type x
         pure (ForInStep.yield PUnit.unit)
        else pure (ForInStep.yield PUnit.unit):Sem PUnit).run P w).andThen (fun _ w'=>(pure ():Sem Unit).run P w')=.ok () w:=by
       intro L
       induction L with
       |nil=>intro i ts b _ _ _;simp
       |cons f L j=>
        intro i ts b a hd g;simp only[a5H]at a;split at a
        . rename_i t1 c;split at a
          . rename_i k;obtain⟨c1,c2,c3⟩:=k;simp only[C9]at a;obtain⟨t2,m,rfl⟩:=a;have e:(b.take t1.length).length=t1.length:=(by grind);obtain⟨u,o,p⟩:=b2s (w:=w) (xs:=l.toArray) (off:=i) (l:=b.take t1.length) (r:=b.drop t1.length) c c3 (by simpa using hd) e;have q:=b7I em d n w _ _ c e p;have p4:=j (i+t1.length) t2 (b.drop t1.length) m (by rw[←a2V,hd]) (by grind);simp only[List.forIn_cons,N6,c1,ne_eq,not_false_eq_true,if_true,c2,P5,o,q,a1H];exact p4
          . cases a
        . cases a
      grind
    . cases a
  . cases a
theorem b0l(a:a7R P t=some n):n≠3∧((∃d,P.underlying t=some d∧(d=.bool∧n=0∨(∃q,d=.int q)∧n=1∨d=.string∧n=2))∨∃b ts,P.underlying t=some (.struct b)∧a0T P 3 t=some ts∧n=4+a3X ts):=by
 unfold a7R at a;split at a
 . grind
 . grind
 . grind
 . simp only[C9]at a
   grind
 . cases a
theorem b9G:∀{cs:List PV},(∀c∈cs,P1 c≠3)→∃l,T9 cs=some l
 | [],_=>⟨[],rfl⟩
 |c::cs,h=>by
  obtain⟨l,a⟩:=b9G (cs:=cs) fun x b=>h x (by simp[b]);have d:=h c k8;obtain⟨v,e⟩:∃v,a0R c=some v:=by cases c<;>simp[P1]at d<;>exact⟨_,rfl⟩
  exact⟨v::l,by simp only[T9,e,a]⟩
theorem b5f(a:a1T x≠3):∃v,a1l x=some v:=by
 by_cases b:∃cs,x=.agg cs
 . obtain⟨cs,rfl⟩:=b;simp only[a1T]at a;split at a
   . rename_i b;obtain⟨l,d⟩:=b9G (cs:=cs) fun c e=>(by simpa using B5.1 b c e);exact⟨.agg l.toArray,by simp[a1l,d]⟩
   . exact absurd rfl a
 . cases x<;>first|exact absurd ⟨_,rfl⟩ b|exact absurd rfl a|exact⟨_,rfl⟩
theorem c1Q{cs:List PV}{ts:List Nat}(b:∀t∈ts,t<3)(a:a1T (.agg cs)=4+a3X ts):cs.map P1=ts:=by
 simp only[a1T]at a;split at a
 . rename_i d;refine b7d (fun t hm=>?_) b j4;obtain⟨c,e,rfl⟩:=G7.1 hm;have:=B5.1 d c e;cases c<;>simp[P1]at this⊢
 . omega
theorem b9b{m:Nat}(a:a1T x=4+m):∃cs,x=.agg cs:=by cases x<;>simp only[a1T,P1]at a<;>first|omega|exact⟨_,rfl⟩
theorem c4P(a:a1T x<3):a1T x=P1 x∧a1l x=a0R x∧∀cs,x≠ .agg cs:=by cases x<;>first|exact⟨rfl,rfl,fun _ e=>by cases e⟩|(simp only[a1T]at a;split at a<;>omega)
theorem a7r(c:a7R P t=some n)(a:a1T x=n)(b:a1l x=some v)(e:Bool):(Instr.checkKey e 10000 t v).run P w=.ok () w:=by
 obtain⟨_,⟨d,h0,h1⟩|⟨g,ts,h0,h1,rfl⟩⟩:=b0l c
 . unfold Instr.checkKey;simp only[N6,run_underlying h0,Result.andThen];rcases h1 with⟨rfl,_⟩|⟨⟨q,rfl⟩,_⟩|⟨rfl,_⟩<;>simp
 . obtain⟨cs,rfl⟩:=b9b a;have hm:=c1Q (b4U 3 t ts h1) a;simp only[a1l,C9]at b;obtain⟨l,f,rfl⟩:=b;exact b7I e 9997 3 w t ts h1 (l:=l) (by rw[a8t f,←hm];simp) (by unfold a1B;rw[h0])
def a6w:TypeDesc→Nat
 | .bool=>0
 | .int _=>1
 | .string=>2
 |_=>3
theorem c1e{d:TypeDesc}{y:PV}{e f:Value}{b:Bool}(a:a0R x=some e)(c:a0R y=some f)(g:a6w d=P1 x)(hs:a1d x y=some b):Instr.sameNow d e f=some b∧(b=true→f=e):=by
 cases x<;>simp[a0R]at a<;>cases y<;>simp[a0R]at c<;>simp[a1d]at hs
 case bool.bool=>
  subst a c;cases d<;>simp[a6w,P1]at g;refine⟨by simp[Instr.sameNow,hs],fun hb=>?_⟩;rw[←hs]at hb;have h:=by simpa using hb
  rw[h]
 case int.int=>
  subst a c;obtain⟨rfl,hs⟩:=hs;cases d<;>simp[a6w,P1]at g;refine⟨by simp[Instr.sameNow,hs],fun hb=>?_⟩;rw[←hs]at hb;have h:=by simpa using hb
  rw[h]
 case str.str=>
  subst a c;cases d<;>simp[a6w,P1]at g;refine⟨by simp[Instr.sameNow,hs],fun hb=>?_⟩;rw[←hs]at hb;rw[(MapKept.bytes_beq _ _).1 hb]
theorem b9s{d:TypeDesc}{x:PV}{key:Value}(c:a0R x=some key)(hp:∀cs,x≠ .agg cs)(f:a6w d=P1 x):∀(ks:List PV) (l:List MapEntry) (i:Nat) (r:Option Nat),l.length=ks.length→(∀(j:Nat) y,ks[j]?=some y→∃e,l[j]?=some e∧a1l y=some e.key)→a0q x ks i=some r→
 (r=none→Instr.findNow d key l i=some none)∧∀j,r=some j→i≤j∧∃e,l[j-i]?=some e∧e.key=key∧Instr.findNow d key l i=some (some (j,e.val))
 | [],l,i,r,a,_,hm=>by
  obtain rfl:l=[]:=a0U.1 a;simp[a0q]at hm;subst hm;exact⟨fun _=>rfl,fun j e=>by cases e⟩
 |y::ks,[],i,r,a,_,_=>by simp at a
 |y::ks,e::l,i,r,a,g,hm=>by
  obtain⟨k,m,o⟩:=g 0 y rfl;simp at m;subst m;unfold a0q at hm;have p:a1g x y=a1d x y:=by cases x<;>first|rfl|exact absurd rfl (hp _)
  rw[p]at hm;have n:∀b,a1d x y=some b→a0R y=some e.key:=fun b hb=>by obtain⟨_,_,u,v,_,a2,_⟩:=b5m hb;cases y<;>first|exact o|(simp[a0R]at a2)
  split at hm
  . rename_i hs;obtain⟨s1,s2⟩:=c1e c (n _ hs) f hs;simp at hm;subst hm;refine⟨fun h=>(by cases h),fun j hj=>?_⟩;cases hj;exact⟨p7 _,e,k8,s2 rfl,by simp[Instr.findNow,s1]⟩
  . rename_i hs;obtain⟨s1,_⟩:=c1e c (n _ hs) f hs;obtain⟨q,s⟩:=b9s c hp f ks l (i+1) r (by simpa using a) (fun j z t=>g (j+1) z (by simpa using t)) hm;refine⟨fun hr=>by simp[Instr.findNow,s1,q hr],fun j hj=>?_⟩;obtain⟨C,k,w,A,B⟩:=s j hj;exact⟨j4,k,by rw[show j-i=j-(i+1)+1 by omega];simpa using w,A,by simp[Instr.findNow,s1,B]⟩
  . cases hm
theorem c2d{t:TypeId}{n:Array Field}{ts:List Nat}{cs:List PV}{ls:List Value}(h0:P.underlying t=some (.struct n))(h1:a0T P 3 t=some ts)(c:T9 cs=some ls)(d:cs.map P1=ts):∀(ks:List PV) (l:List MapEntry) (i:Nat) (r:Option Nat),l.length=ks.length→(∀(j:Nat) y,ks[j]?=some y→∃e,l[j]?=some e∧a1l y=some e.key)→a0q (.agg cs) ks i=some r→
 (r=none→(Instr.findAsking t (.agg ls.toArray) l i).run P w=.ok none w)∧∀j,r=some j→i≤j∧∃e,l[j-i]?=some e∧e.key=.agg ls.toArray∧(Instr.findAsking t (.agg ls.toArray) l i).run P w=.ok (some (j,e.val)) w
 | [],l,i,r,a,_,hm=>by
  obtain rfl:l=[]:=a0U.1 a;simp[a0q]at hm;subst hm;exact⟨fun _=>by simp[Instr.findAsking],fun j e=>by cases e⟩
 |y::ks,[],i,r,a,_,_=>by simp at a
 |y::ks,e::l,i,r,a,f,hm=>by
  obtain⟨g,k,m⟩:=f 0 y rfl;simp at k;subst k;unfold a0q at hm;have step:∀b,a1g (.agg cs) y=some b→(Op.equal t (.agg ls.toArray) e.key).run P w=.ok b w∧(b=true→e.key=.agg ls.toArray):=fun b hb=>by
   cases y with
   |agg B=>
    simp only[a1g]at hb;obtain⟨u,v,a1,a2,a3,_⟩:=b7q hb;rw[c]at a1;cases a1;simp only[a1l,a2,a2Y,s5]at m;rw[←m];exact⟨c0j 9997 3 w t ts h1 c a2 d hb (by unfold a1B;rw[h0]) (by unfold a1B;rw[h0]),fun e=>by rw[a3 e]⟩
   |_=>simp[a1g,a1d]at hb
  split at hm
  . rename_i hs;obtain⟨s1,s2⟩:=step _ hs;simp at hm;subst hm;refine⟨fun h=>(by cases h),fun j hj=>?_⟩;cases hj;exact⟨p7 _,e,k8,s2 rfl,by simp[Instr.findAsking,s1]⟩
  . rename_i hs;obtain⟨s1,_⟩:=step _ hs;obtain⟨o,p⟩:=c2d h0 h1 c d ks l (i+1) r (by simpa using a) (fun j z q=>f (j+1) z (by simpa using q)) hm;refine⟨fun hr=>by simp[Instr.findAsking,s1,o hr],fun j hj=>?_⟩;obtain⟨C,g,s,x,A⟩:=p j hj;exact⟨j4,g,by rw[show j-i=j-(i+1)+1 by omega];simpa using s,x,by simp[Instr.findAsking,s1,A]⟩
  . cases hm
theorem find_spec{key:Value}(k:a7R P t=some n)(f:a1T x=n)(a:a1l x=some key){ks:List PV}{l:List MapEntry}{r:Option Nat}(g:l.length=ks.length)(i:∀(j:Nat) y,ks[j]?=some y→∃e,l[j]?=some e∧a1l y=some e.key)(hm:a0q x ks 0=some r):
 (r=none→(Instr.findKey t key l).run P w=.ok none w)∧∀j,r=some j→∃e,l[j]?=some e∧e.key=key∧(Instr.findKey t key l).run P w=.ok (some (j,e.val)) w:=by
 obtain⟨_,⟨d,h0,h1⟩|⟨v,ts,h0,h1,rfl⟩⟩:=b0l k
 . have m:a1T x<3:=by rcases h1 with⟨_,h⟩|⟨_,h⟩|⟨_,h⟩<;>omega
   obtain⟨z,o,p⟩:=c4P m;have hd:a6w d=P1 x:=by rcases h1 with⟨rfl,h⟩|⟨⟨q,rfl⟩,h⟩|⟨rfl,h⟩<;>simp only[a6w]<;>omega
   obtain⟨b,c⟩:=b9s (d:=d) (by rw[←o];exact a) p hd ks l 0 r g i hm;refine⟨fun e=>MapKept.run_findKey h0 (b e),fun j hj=>?_⟩;obtain⟨_,e,a1,a2,a3⟩:=c j hj;exact⟨e,by simpa using a1,a2,MapKept.run_findKey h0 a3⟩
 . obtain⟨cs,rfl⟩:=b9b f;have s:=c1Q (b4U 3 t ts h1) f;simp only[a1l,C9]at a;obtain⟨ls,u,rfl⟩:=a;obtain⟨b,c⟩:=c2d (w:=w) h0 h1 u s ks l 0 r g i hm;have hw:(match P.underlying t with|some (.array _ _)|some (.struct _)=>true|_=>false)=true:=(by rw[h0]);refine⟨fun e=>by rw[run_findKey_eq w hw];exact b e,fun j hj=>?_⟩;obtain⟨_,e,a1,a2,a3⟩:=c j hj;exact⟨e,by simpa using a1,a2,by rw[run_findKey_eq w hw];exact a3⟩
theorem c2i(a:a0R x=some v)(n:Nat):Instr.sameBits n v v=true:=by cases x<;>simp[a0R]at a<;>subst a<;>cases n<;>simp[Instr.sameBits,(MapKept.bytes_beq _ _).2 rfl]
theorem b9t{n:Nat}:∀{cs:List PV} {l:List Value},T9 cs=some l→(l.zip l).all (fun p=>Instr.sameBits n p.1 p.2)=true
 | [],l,h=>by cases h;rfl
 |c::cs,l,h=>by
  simp only[T9]at h;split at h
  . rename_i h1 a;cases h;simp only[List.zip_cons_cons,List.all_cons,c2i h1,b9t a,Bool.and_self]
  . cases h
theorem d1S{key:Value}(a:a1l x=some key):(Instr.keyThatStays key key).run P w=.ok key w:=by
 have:Instr.sameBits 10000 key key=true:=by
  by_cases b:∃cs,x=.agg cs
  . obtain⟨cs,rfl⟩:=b;simp only[a1l,C9]at a;obtain⟨l,c,rfl⟩:=a;show Instr.sameBits (9999+1) _ _=true;have:=b9t (n:=9999) c;simpa[Instr.sameBits]using this
  . exact c2i (x:=x) (by cases x<;>first|exact a|exact absurd ⟨_,rfl⟩ b) 10000
 simp[Instr.keyThatStays,this]
theorem c0g{u:Value}(a:a0R x=some v)(hu:j9 G h w n u x):u=v:=by
 cases x<;>simp[a0R]at a<;>subst a
 . exact a0X hu
 . exact Z2 hu
 . exact a2O hu
theorem c9R{vs:Array Value}:∀{cs:List PV} {l:List Value},T9 cs=some l→(∀(i:Nat) c,cs[i]?=some c→∃u,vs[i]?=some u∧j9 G h w n u c)→vs.size=cs.length→vs.toList=l:=by
 intro cs l d f hs;apply a4g;intro i;by_cases hi:i<cs.length
 . obtain⟨u,h1,g⟩:=f i _ (l9 hi);have:∀{cs:List PV} {l:List Value} (i:Nat) (c:PV),T9 cs=some l→cs[i]?=some c→∃v,l[i]?=some v∧a0R c=some v:=by
    intro cs
    induction cs with
    |nil=>intro l i c _ e;simp at e
    |cons a cs m=>
     intro l i c b e;simp only[T9]at b;split at b
     . grind
     . cases b
   obtain⟨v,j,k⟩:=this i _ d (l9 hi);rw[j,←c0g k g];simpa using h1
 . have h1:l.length≤i:=by rw[a8t d];omega
   grind
theorem b3p{u:Value}(a:a1l x=some v)(hu:j9 G h w D u x):u=v:=by
 by_cases b:∃cs,x=.agg cs
 . obtain⟨cs,rfl⟩:=b;simp only[a1l,C9]at a;obtain⟨l,c,rfl⟩:=a;obtain⟨vs,rfl,h1,d⟩:=a5w hu;have:=c9R c d h1;congr 1
   grind
 . exact c0g (x:=x) (by cases x<;>first|exact a|exact absurd ⟨_,rfl⟩ b) hu
end
end
open Go.RowKit Go.MapKept
section
variable{k g n s q q' i b:Nat}{ks vs ks' vs':List PV}{es es':Array MapEntry}{c z p px pm:PV}{hide:List Nat}{v m x u:Value}{t:TypeId}{ws:List (Nat×Row)}
section
variable{P:Program}{B:Nat}{Z0:Nat→Prop}{G G':Gh}{h h':Heap}{w w':World}
theorem a1O.list(a:a1O es ks):es.toList.length=ks.length∧∀(j:Nat) y,ks[j]?=some y→∃e,es.toList[j]?=some e∧a1l y=some e.key:=
 ⟨by simpa using a.1,fun j y b=>by obtain⟨e,h1,c⟩:=a.2 j y b;exact⟨e,by simpa using h1,c⟩⟩
theorem a1O.modify{es:Array MapEntry}{ks:List PV}(a:a1O es ks)(i:Nat)(f:MapEntry→MapEntry)(h1:∀e,es[i]?=some e→(f e).key=e.key):a1O (es.modify i f) ks:=by
 refine⟨by simpa using a.1,fun j x b=>?_⟩;obtain⟨e,a1,a2⟩:=a.2 j x b
 grind
theorem a1O.push{es:Array MapEntry}{ks:List PV}(b:a1O es ks){x:PV}{c:MapEntry}(d:a1l x=some c.key):a1O (es.push c) (ks++[x]):=by
 refine⟨by simp[b.1],fun j y a=>?_⟩;by_cases hj:j<ks.length
 . rw[a1k hj]at a;obtain⟨e,a1,a2⟩:=b.2 j y a
   grind
 . have f:j=ks.length:=by
    have:=(C0.1 a).1;simp at this;omega
   subst f;rw[a4f (p7 _),a6a]at a;cases a;exact⟨c,by rw[←b.1];simp,d⟩
theorem Bl.c0h{r c:Nat}(d:B≤r)(hb:w.heap[r]?=some (.map es c))(o:Obj):Bl B w {w with heap:=w.heap.setIfInBounds r o}:=by
 refine⟨⟨rfl,rfl,rfl,k8,fun k a=>(heap_set hb).2 k j4⟩,fun k ob h1 b=>?_⟩;by_cases a:k=r
 . subst a;rw[hb]at h1;cases h1;cases b
 grind
theorem b6V(hr:s6 B Z0 G h w)(l:h[k]?=some (g,.mp false ks vs))(hb:w.heap[G.β (root k)]?=some (.map es q))(h1:a1O es' ks')(z:ks'.length=vs'.length)
 (A:∀(i:Nat) c,vs'[i]?=some c→∃e,es'[i]?=some e∧a0c G h w k i e.val c):
 s6 B Z0 G (h.set k (g,.mp false ks' vs')) {w with heap:=w.heap.setIfInBounds (G.β (root k)) (.map es' q')}∧Ext G h w G (h.set k (g,.mp false ks' vs')) {w with heap:=w.heap.setIfInBounds (G.β (root k)) (.map es' q')}∧
  Bl B w {w with heap:=w.heap.setIfInBounds (G.β (root k)) (.map es' q')}:=by
 have s:k<h.length:=(C0.1 l).1;have t:=hr.ob k g _ l;unfold F7 at t;obtain⟨m,_⟩:=t;have u:=(heap_set (o':=.map es' q') hb).1;have v:=(heap_set (o':=.map es' q') hb).2;have x:Ext G h w G (h.set k (g,.mp false ks' vs')) {w with heap:=w.heap.setIfInBounds (G.β (root k)) (.map es' q')}:=by
  refine⟨fun _ y=>y,fun b n=>v b fun e=>hr.nz k g _ l rfl none m (e▸n),fun a gn ob e=>?_⟩;by_cases f:a=k
  . subst f;rw[l]at e;cases e;exact⟨g,_,E8 s,p7 _,fun _=>⟨fun _ _ _ _ o=>(by cases o),fun _ o=>(by cases o),fun _ _ _ _=>⟨_,_,_,rfl,C8.refl _ _⟩⟩⟩
  . exact⟨gn,ob,by rw[F4 (Ne.symm f)];exact e,p7 _,fun _=>K7.refl a ob (C8.refl _ _) fun i j=>C8.refl _ _⟩
 have p:∀a y,(a,y)≠root k→G.R (a,y)→(w.heap.setIfInBounds (G.β (root k)) (.map es' q'))[G.β (a,y)]?=w.heap[G.β (a,y)]?:=fun a y C d=>v _ fun e=>C (hr.inj _ _ d m e);refine⟨hr.update k g _ s x (fun _ _ _=>.inl (C8.refl _ _)) (fun a y f d=>p a y (fun e=>f (congrArg Prod.fst e)) d) k8 (fun b n=>(hr.zb b n).eq (x.zw b n)) (fun b hb=>.inl hb) (fun _ _ _ _ D=>D) (fun y d=>?_) (fun e=>by cases e) ?_,x,Bl.c0h (hr.lv _ m).1 hb _⟩
 . obtain⟨E,F⟩:=hr.lv _ d;refine⟨E,?_,fun _=>hr.nz k g _ l rfl y d,fun H r e=>congrArg Prod.snd (hr.inj _ _ d r e),fun a H f r e=>f (congrArg Prod.fst (hr.inj _ _ d r e)).symm⟩;cases y with
   |none=>exact⟨_,u,rfl⟩
   |some ij=>exact F.eq (p k _ k8 d)
 . unfold F7;refine⟨m,z,es',q',u,h1,fun i c I=>?_⟩;obtain⟨e,a1,a2⟩:=A i c I;exact⟨e,a1,a2.ext x (C8.refl _ _) fun d=>p k _ k8 d⟩
theorem a8h(hr:s6 B Z0 G h w){fr:Bool}(a:h[k]?=some (g,.mp fr ks vs))(hm:j9 G h w D m (.mapv k g)):
 m=.map (some (G.β (root k)))∧ks.length=vs.length∧∃es q,w.heap[G.β (root k)]?=some (.map es q)∧a1O es ks∧∀(i:Nat) c,vs[i]?=some c→∃e,es[i]?=some e∧a0c G h w k i e.val c:=by
 have d:=hr.ob k g _ a;unfold F7 at d;obtain⟨_,j,l⟩:=d;unfold D at hm;unfold j9 at hm;obtain⟨b,rfl,gn,ob,f,_,n⟩:=hm;rw[a]at f;cases f;rw[n rfl _ _ _ rfl];exact⟨rfl,j,l⟩
theorem b4R(a:mvR c=true):∀ns,c≠ .uslc ns:=fun ns e=>by subst e;simp[mvR,A7,fn0]at a
theorem a4T(a:∀ns,c≠ .uslc ns):a0c G h w k i u c↔j9 G h w D u c:=by cases c<;>first|exact absurd rfl (a _)|(unfold a0c;exact Iff.rfl)
def Gh.drp(G:Gh)(k i:Nat):Gh:={G with R:=fun key=>key≠nest k i 0∧G.R key}
theorem a8u{G:Gh}{key:Key}(h:key≠nest k i 0):C8 G (G.drp k i) key:=⟨rfl,⟨fun x=>x.2,fun x=>⟨h,x⟩⟩,rfl,rfl⟩
def Gh.a0Z(G:Gh)(k b γ0:Nat):Gh:=
 {G with β:=fun key=>if key=root k then b else G.β key
         R:=fun key=>key=root k∨key.1≠k∧G.R key
         γ:=fun key=>if key=root k then γ0 else G.γ key}
theorem b0p{G:Gh}{γ0 a:Nat}{y:Option (Nat×Nat)}(h:a≠k):C8 G (G.a0Z k b γ0) (a,y):=by have c:((a,y):Key)≠root k:=fun e=>h (congrArg Prod.fst e);exact⟨by simp[Gh.a0Z,c],⟨fun x=>(x.resolve_left c).2,fun x=>.inr ⟨h,x⟩⟩,by simp[Gh.a0Z,c],rfl⟩
theorem b6K{G:Gh}{h:Heap}{w:World}(hr:s6 B Z0 G h w){γ0 sz:Nat}{ns:List PV}{us:Array Value}{T:TypeId}(q:h[k]?=some (g,.dead))(s:B≤b)(t:¬G.Z b)(u:∀key,G.R key→G.β key≠b)
 (hw:w.heap[b]?=some (.cells us T (0,0))) (h1:ns.length≤γ0) (z:γ0≤maxLen) (A:0<sz) (C:us.size=γ0*sz)
 (D:∀(i:Nat) e,ns[i]?=some e→(l6 e).length=sz∧∀(j:Nat) c,(l6 e)[j]?=some c→one c=true∧∃v,us[i*sz+j]?=some v∧PR G.Z w v c):
 s6 B Z0 (G.a0Z k b γ0) (h.set k (g+1,.arr sz 0 false ns)) w∧Ext G h w (G.a0Z k b γ0) (h.set k (g+1,.arr sz 0 false ns)) w:=by
 have r:k<h.length:=(C0.1 q).1;have hb:(G.a0Z k b γ0).β (root k)=b:=by simp[Gh.a0Z]
 have E:(G.a0Z k b γ0).γ (root k)=γ0:=by simp[Gh.a0Z]
 have x:Ext G h w (G.a0Z k b γ0) (h.set k (g+1,.arr sz 0 false ns)) w:=by
  refine⟨fun _ y=>y,fun _ _=>rfl,fun f gn ob e=>?_⟩;by_cases a:f=k
  . subst a;rw[q]at e;cases e;exact⟨g+1,_,E8 r,j4,fun e=>j4⟩
  . exact⟨gn,ob,by rw[F4 (Ne.symm a)];exact e,p7 _,fun _=>K7.refl f ob (b0p a) fun i j=>b0p a⟩
 have only:∀y,(G.a0Z k b γ0).R (k,y)→y=none:=fun y l=>by
  rcases l with e|⟨e,_⟩
  . exact congrArg Prod.snd e
  . exact absurd rfl e
 refine⟨hr.update k (g+1) _ r x (fun f y a=>.inl (b0p a)) (fun _ _ _ _=>rfl) (p7 _) (fun b hb=>hr.zb b hb) (fun b hb=>.inl hb) (fun _ _ _ _ m=>m) (fun y l=>?_) (fun e=>by cases e) ?_,x⟩
 . obtain rfl:=only y l;rw[show(G.a0Z k b γ0).β (k,none)=b from hb];refine⟨s,U8.of hw,fun _=>t,fun n o _=>(only n o).symm,fun f n a o e=>?_⟩;obtain⟨a1,a2,_⟩:=b0p (G:=G) (b:=b) (γ0:=γ0) (y:=n) a;rw[a1]at e;exact u _ (a2.1 o) e.symm
 . unfold F7;rw[hb,E];refine⟨A,h1,z,fun _=>⟨us,T,hw,C,fun i e he=>?_⟩,fun m=>absurd (.inl rfl) m⟩;obtain⟨F,H⟩:=D i e he;refine⟨F,fun j c I=>?_⟩;obtain⟨d,v,J,K⟩:=H j c I;refine⟨v,J,?_⟩;have p:=a1x (G:=G.a0Z k b γ0) (h:=h.set k (g+1,.arr sz 0 false ns)) d K;revert d p;cases c<;>intro d p<;>first|(simp[one,Y1]at d;done)|(unfold G9;exact⟨d,p⟩)
theorem b4d(a:mapA P t=some (n,z,s)):∃kt b,P.underlying t=some (.map kt b)∧a7R P kt=some n∧n≠3∧a0v P b=some z:=by
 unfold mapA at a;split at a
 . rename_i kt b hu;split at a
   . rename_i d e h1 c;cases a;exact⟨kt,b,hu,h1,(b0l h1).1,c⟩
   . cases a
 . cases a
theorem b6G{α:Type}{l:List α}{a:α}(h:l[k]?=some a):l.set k a=l:=by obtain⟨b,c⟩:=C0.1 h;rw[←c];exact b5s b
theorem c2e(hr:s6 B Z0 G h w)(a:k<h.length∧hide.contains k=false)(t:TypeId){r:Option Value}(c:(Instr.makeMap t r).run P w=.ok (.map (some w.heap.size)) (w.alloc (.map #[] 0))):
 Good P B Z0 G h w (do pure (.value (←Instr.makeMap t r))) (.mapv k ((l7 h hide k).1+1)) [(k,((l7 h hide k).1+1,.mp false [] []))]:=by
 obtain⟨⟨g,f⟩,b⟩:∃r,h[k]?=some r:=⟨_,l9 a.1⟩
 rw[a6A a.2 b];obtain⟨h1,d⟩:=b0A (w':=w.alloc (.map #[] 0)) (o':=.mp false [] []) hr b (ob:=.map #[] 0) rfl 0 rfl (fun e=>by cases e) (fun x=>by unfold F7;refine⟨by simp[Gh.put],rfl,#[],0,?_,⟨rfl,k8⟩,k8⟩;rw[show(G.put k w.heap.size 0).β (root k)=w.heap.size by simp[Gh.put]];exact heap_alloc_new w _)
 refine⟨.value (.map (some w.heap.size)),_,w.alloc (.map #[] 0),_,by simp[c,Result.andThen],.inl rfl,h1,d,?_,a6S hr _⟩;unfold D;unfold j9;refine⟨_,rfl,g+1,.mp false [] [],E8 a.1,p7 _,fun _ _ _ _ e=>?_⟩;simp[Gh.put]
theorem b6x(a:(l6 c).all one=true)(b:j9 G h w D v c):j9 G h w 5 v c:=by
 by_cases d:∃cs,c=.agg cs
 . obtain⟨cs,rfl⟩:=d;obtain⟨vs,rfl,h1,f⟩:=a5w b;unfold j9;refine⟨vs,rfl,h1,fun i x e=>?_⟩;obtain⟨u,g,j⟩:=f i x e;exact⟨u,g,one_cell (B5.1 a x (D0 e)) j⟩
 . have:l6 c=[c]:=by cases c<;>first|rfl|exact absurd ⟨_,rfl⟩ d
   rw[this]at a;exact one_cell (by simpa using a) b
theorem c6R(d:mvR c=true)(g:j9 G h w D v c):j9 G h w 5 v c:=by
 by_cases j:∃f a b,c=.fn f a b
 . obtain⟨f,a,b,rfl⟩:=j;have k:a=[]∧b=[]:=by
    simp only[mvR,A7,Bool.false_or]at d;unfold fn0 at d;split at d
    . rename_i e;cases e;exact⟨rfl,rfl⟩
    . cases d
   obtain⟨rfl,rfl⟩:=k;obtain⟨vs,us,rfl,h1,l⟩:=a8C g;unfold j9;exact⟨vs,us,rfl,⟨h1.1,fun i c d=>by simp at d⟩,⟨l.1,fun i c d=>by simp at d⟩⟩
 . refine b6x ?_ g;cases c<;>simp[mvR,A7,fn0,l6,one,Y1]at d⊢
   all_goals grind
theorem b6S{q:PV}(h1:j9 G h w 5 u p)(b:j9 G h w 5 v q):j9 G h w D (.tuple #[u,v]) (.tup [p,q]):=by
 unfold D;unfold j9;refine⟨_,rfl,rfl,fun i c a=>?_⟩
 match i,a with
 |0,a=>simp at a;subst a;exact⟨u,rfl,h1⟩
 |1,a=>simp at a;subst a;exact⟨v,rfl,b⟩
 |i+2,a=>simp at a
theorem b0t(hr:s6 B Z0 G h w){ok:Bool}(H:mapA P t=some (n,z,s))(hm:(m=.map none∧es= #[])∨∃r,m=.map (some r)∧w.heap[r]?=some (.map es q))(I:j9 G h w D x px)
 (J:a1O es ks) (K:∀(i:Nat) c,vs[i]?=some c→mvR c=true→∃e,es[i]?=some e∧j9 G h w D e.val c) (b:a3S n ok z px ks vs=some (p,ws)):
 Good P B Z0 G h w (do pure (.value (←Instr.lookup t m x ok))) p ws:=by
 obtain⟨kt,L,u,f,M,N⟩:=b4d H;unfold a3S at b;split at b
 case isFalse=>cases b
 rename_i v;obtain⟨c3,c4⟩:=v;obtain⟨key,g⟩:=b5f (x:=px) (by rw[c3];exact M);obtain rfl:=b3p g I;obtain⟨l1,C⟩:=J.list;have E:∀{a:Option (Nat×Value)} {r:Value},(Instr.findKey kt x es.toList).run P w=.ok a w→(∀y,a=some y→r=(if ok then .tuple #[y.2,.bool true]else y.2))→(a=none→∃zv,(zeroValue L).run P w=.ok zv w∧r=(if ok then .tuple #[zv,.bool false]else zv))→(Instr.lookup t m x ok).run P w=.ok r w:=by
  intro a r j hs l;have o:=j;rcases hm with⟨rfl,rfl⟩|⟨r0,rfl,hb⟩
  . cases a with
    |none=>
     obtain⟨zv,k,rfl⟩:=l rfl;simp[Instr.lookup,run_underlying u,a7r f c3 g,k,Result.andThen]at o⊢;simp[o,k,Result.andThen]
    |some y=>
     have:=hs y rfl;subst this;exfalso;obtain⟨_,⟨d,h0,_⟩|⟨_,_,h0,_⟩⟩:=b0l f<;>simp[Instr.findKey,run_underlying h0,Instr.findNow]at j
  . cases a with
    |none=>
     obtain⟨zv,k,rfl⟩:=l rfl;simp[Instr.lookup,run_underlying u,MapKept.run_getObj_map hb,a7r f c3 g,o,k,Result.andThen]
    |some y=>
     have:=hs y rfl;subst this;simp[Instr.lookup,run_underlying u,MapKept.run_getObj_map hb,a7r f c3 g,o,Result.andThen]
 split at b
 . rename_i i j;obtain⟨_,q⟩:=find_spec (w:=w) f c3 g l1 C j;obtain⟨e,O,S,Q⟩:=q i rfl;split at b
   . rename_i c v;split at b
     . rename_i F;simp only[s5,s9]at b;obtain⟨rfl,rfl⟩:=b;obtain⟨R,a1,a2⟩:=K i c v F;have:R=e:=by
        have:es[i]?=some e:=(by simpa using O);rw[this]at a1;exact(U4 a1).symm
       subst this;refine a3T hr (E Q (fun y A=>by cases A;rfl) (fun l=>by cases l)) ?_;cases ok
       . exact a2
       . exact b6S (c6R F a2) a1o
     . cases b
   . cases b
 . rename_i j;simp only[s5,s9]at b;obtain⟨rfl,rfl⟩:=b;obtain⟨q,_⟩:=find_spec (w:=w) f c3 g l1 C j;obtain⟨i,zv,k,z2,z3⟩:=a4Q N;obtain⟨z4,z5⟩:=a8N (G:=G) (h:=h) (w:=w) z3;refine a3T hr (E (q rfl) (fun y A=>by cases A) (fun _=>⟨zv,b1X k z2,rfl⟩)) ?_;cases ok
   . exact z4
   . exact b6S (b6x z5 z4) a1o
 . cases b
theorem c2R(d:mvR c=true)(hp:PR G.Z w v c):j9 G h w D v c:=by
 cases c<;>simp[mvR,A7,fn0]at d
 case agg cs=>
  obtain⟨n,hp⟩:=hp;cases n with
  |zero=>unfold J1 at hp;exact hp.elim
  |succ n=>
   unfold J1 at hp;obtain⟨vs,rfl,h1,k⟩:=hp;refine a6Q ⟨h1,fun i x g=>?_⟩;obtain⟨u,l,m⟩:=k i x g;have j:=a3C (d x (D0 g));exact⟨u,l,one_cell j (a1x j ⟨n,m⟩)⟩
 case fn f a b=>
  obtain⟨n,hp⟩:=hp;split at d
  . rename_i o e;cases e;have p:v=.func (.func o) #[] #[]:=(by cases n<;>(unfold J1 at hp;exact hp));subst p;unfold D;unfold j9;exact⟨_,_,rfl,⟨rfl,fun i c d=>by simp at d⟩,⟨rfl,fun i c d=>by simp at d⟩⟩
  . cases d
 all_goals exact a1x rfl hp
theorem c2W(hr:s6 B Z0 G h w){ok:Bool}(j:mapA P t=some (n,z,s))(hm:j9 G h w D m pm)(d:j9 G h w D x px)(a:a7i (l7 h hide) n ok z pm px=some (p,ws)):
 Good P B Z0 G h w (do pure (.value (←Instr.lookup t m x ok))) p ws:=by
 unfold a7i at a;split at a
 . rename_i k g;split at a
   . rename_i A fr ks vs u;split at a
     . rename_i v;subst v;have y:=P6 u k8;obtain⟨rfl,C,es,E,hb,l,o⟩:=a8h hr y hm;exact b0t hr j (.inr ⟨_,rfl,hb⟩) d l (fun i c f r=>by obtain⟨e,a1,a2⟩:=o i c f;exact⟨e,a1,(a4T (b4R r)).1 a2⟩) a
     . cases a
   . cases a
 . rename_i ks vs;obtain⟨b,es,q,rfl,_,hb,l,_,o⟩:=PR.M6 (a9p hm);exact b0t hr j (.inr ⟨_,rfl,hb⟩) d l (fun i c f r=>by obtain⟨e,a1,a2⟩:=o i c f;exact⟨e,a1,c2R r a2⟩) a
 . unfold D at hm;unfold j9 at hm;obtain⟨rfl,_⟩:=hm;exact b0t (q:=0) hr j (.inl ⟨rfl,rfl⟩) d ⟨rfl,fun i x d=>by simp at d⟩ (fun i c f=>by simp at f) a
 . cases a
theorem c9Z(hr:s6 B Z0 G h w){fr:Bool}(n:h[k]?=some (g,.mp fr ks vs))(A:∀ns,vs[i]?≠some (.uslc ns)):s6 B Z0 (G.drp k i) h w∧Ext G h w (G.drp k i) h w:=by
 have x:Ext G h w (G.drp k i) h w:=by
  refine⟨fun _ y=>y,fun _ _=>rfl,fun f gn ob e=>⟨gn,ob,e,p7 _,fun _=>?_⟩⟩;by_cases l:f=k
  . subst l;rw[n]at e;cases e;exact⟨fun _ _ _ _ m=>(by cases m),fun _ m=>(by cases m),fun _ _ _ m=>⟨_,_,_,rfl,a8u k8⟩⟩
  . exact K7.refl f ob (a8u k8) fun a b=>a8u fun e=>l (congrArg Prod.fst e)
 refine⟨⟨hr.base,hr.zo,hr.zb,fun key C=>hr.lv key C.2,fun k g o d p y r=>hr.nz k g o d p y r.2,fun k g o d p y r=>hr.fz k g o d p y r.2,fun a b h1 D e=>hr.inj a b h1.2 D.2 e,fun f E o d=>?_⟩,x⟩;by_cases l:f=k
 . subst l;rw[n]at d;cases d;have s:=hr.ob _ _ _ n;unfold F7 at s⊢;obtain⟨F,H,es,q,I,J,K⟩:=s;refine⟨⟨k8,F⟩,H,es,q,I,J,fun j c t=>?_⟩;obtain⟨e,L,u⟩:=K j c t;refine⟨e,L,?_⟩;by_cases v:j=i
   . subst v;have z:∀ns,c≠ .uslc ns:=fun ns e=>A ns (by rw[t,e]);exact(a4T z).2 (((a4T z).1 u).ext x)
   . exact u.ext x (a8u fun e=>v (by simpa using e)) fun _=>rfl
 . exact(hr.ob f E o d).ext x (fun y=>a8u fun e=>l (congrArg Prod.fst e)) fun _ _=>rfl
def c7F(G:Gh)(h:Heap)(w:World)(k i:Nat)(m:Option Nat)(u:Value)(c:PV):Prop:=
 match m with
 |some a=>∃ns,c=.uslc ns∧O2 G w (root a) u ns
 |none=>a0c G h w k i u c
theorem c2Y(hr:s6 B Z0 G h w){mk:Nat→Nat→Option Nat}(z:h[k]?=some (g,.mp false ks vs))(hb:w.heap[G.β (root k)]?=some (.map es q))
 (A:∀i j f,mk i j=some f→f≠k∧(∃g2,h[f]?=some (g2,.dead))∧(G.R (root f)→¬G.Z (G.β (root f)))) (V:∀i j r s f,mk i j=some f→mk r s=some f→i=r∧j=s)
 (h1:a1O es' ks') (C:ks'.length=vs'.length)
 (W:∀(i:Nat) c,vs'[i]?=some c→∃e,es'[i]?=some e∧c7F G h w k i (mk i 0) e.val c):
 s6 B Z0 (G.mv k (G.β (root k)) (G.γ (root k)) mk) (h.set k (g,.mp false ks' vs')) {w with heap:=w.heap.setIfInBounds (G.β (root k)) (.map es' q')}∧
  Ext G h w (G.mv k (G.β (root k)) (G.γ (root k)) mk) (h.set k (g,.mp false ks' vs')) {w with heap:=w.heap.setIfInBounds (G.β (root k)) (.map es' q')}∧
  Bl B w {w with heap:=w.heap.setIfInBounds (G.β (root k)) (.map es' q')}:=by
 have L:k<h.length:=(C0.1 z).1;have M:=hr.ob k g _ z;unfold F7 at M;obtain⟨D,_⟩:=M;have N:=(heap_set (o':=.map es' q') hb).1;have O:=(heap_set (o':=.map es' q') hb).2;have P:¬G.Z (G.β (root k)):=hr.nz k g _ z rfl none D;have Q:B≤G.β (root k):=(hr.lv _ D).1;have E:∀key,key≠root k→G.R key→G.β key≠G.β (root k):=fun key o a e=>o (hr.inj _ _ a D e);have F:∀key,key≠root k→G.R key→(w.heap.setIfInBounds (G.β (root k)) (.map es' q'))[G.β key]?=w.heap[G.β key]?:=fun key o a=>O _ (E key o a);have R:∀m y,m≠k→b4f G (G.mv k (G.β (root k)) (G.γ (root k)) mk) h m y:=fun m y n=>by
  by_cases S:y=none∧a9m mk m
  . obtain⟨rfl,i,j,hm⟩:=S;refine .inr ⟨fun a=>?_,fun ah o' e=>?_⟩
    . have o:((m,none):Key)≠root k:=fun e=>n (congrArg Prod.fst e);simp only[Gh.mv,if_neg o]at a;exact a.1 trivial ⟨i,j,hm⟩
    . obtain⟨g2,C⟩:=(A i j m hm).2.1;rw[C]at e;cases e;rfl
  . exact .inl (b1P n fun e hm=>S ⟨e,hm⟩)
 have I:C8 G (G.mv k (G.β (root k)) (G.γ (root k)) mk) (root k):=⟨by simp[Gh.mv],by simp[Gh.mv,D],by simp[Gh.mv],by simp[Gh.mv,a1t]⟩
 have x:Ext G h w (G.mv k (G.β (root k)) (G.γ (root k)) mk) (h.set k (g,.mp false ks' vs')) {w with heap:=w.heap.setIfInBounds (G.β (root k)) (.map es' q')}:=by
  refine⟨fun _ y=>y,fun x X=>O x fun e=>P (e▸X),fun m gn ob e=>?_⟩;by_cases n:m=k
  . subst n;rw[z]at e;cases e;exact⟨g,_,E8 L,p7 _,fun _=>⟨fun _ _ _ _ l=>(by cases l),fun _ l=>(by cases l),fun _ _ _ _=>⟨_,_,_,rfl,I⟩⟩⟩
  . refine⟨gn,ob,by rw[F4 (Ne.symm n)];exact e,p7 _,fun _=>?_⟩;by_cases hd:ob=.dead
    . subst hd;exact K7.dead _ _
    . exact K7.refl m ob ((R m none n).resolve_right fun y=>hd (y.2 gn ob e)) fun i j=>b1P n fun e=>by cases e
 refine⟨hr.update k g _ L x R (fun m y n a=>F _ (fun e=>n (congrArg Prod.fst e)) a) k8 (fun b' T=>(hr.zb b' T).eq (x.zw b' T)) (fun b hb=>.inl hb) (fun _ _ _ _ Y=>Y) ?_ (fun e=>by cases e) ?_,x,Bl.c0h Q hb _⟩
 . intro y a;cases y with
   |none=>
    have J:(G.mv k (G.β (root k)) (G.γ (root k)) mk).β (k,none)=G.β (root k):=(by simp[Gh.mv]);rw[J];refine⟨Q,⟨_,N,rfl⟩,fun _=>P,fun u p e=>?_,fun m u n p e=>?_⟩
    . cases u with
      |none=>rfl
      |some ij=>
       obtain⟨i,j⟩:=ij;exfalso;have o:(nest k i j:Key)≠root k:=fun e=>(by simp at e);simp only[Gh.mv,if_neg o]at p e;refine E _ (fun t=>?_) p.2 e.symm;cases d:mk i j with
       |none=>rw[a1Y d]at t;exact o t
       |some f=>rw[a2h d]at t;exact(A i j f d).1 (congrArg Prod.fst t)
    . have o:((m,u):Key)≠root k:=fun e=>n (congrArg Prod.fst e);simp only[Gh.mv,if_neg o,a5s n]at p e;exact E _ o p.2 e.symm
   |some ij=>
    obtain⟨i,j⟩:=ij;have o:(nest k i j:Key)≠root k:=fun e=>(by simp at e);have J:(G.mv k (G.β (root k)) (G.γ (root k)) mk).β (nest k i j)=G.β (a1t k mk (nest k i j)):=(by simp[Gh.mv]);simp only[Gh.mv,if_neg o]at a;obtain⟨_,a⟩:=a;have U:a1t k mk (nest k i j)≠root k:=fun t=>by
     cases d:mk i j with
     |none=>rw[a1Y d]at t;exact o t
     |some f=>rw[a2h d]at t;exact(A i j f d).1 (congrArg Prod.fst t)
    show B≤(G.mv k (G.β (root k)) (G.γ (root k)) mk).β (nest k i j)∧_;rw[J];obtain⟨l1,Z⟩:=hr.lv _ a;refine⟨l1,Z.eq (F _ U a),fun _=>?_,fun u p e=>?_,fun m u n p e=>?_⟩
    . show¬G.Z _;cases d:mk i j with
      |none=>rw[a1Y d]at a⊢;exact hr.nz k g _ z rfl _ a
      |some f=>rw[a2h d]at a⊢;exact(A i j f d).2.2 a
    . cases u with
      |none=>
       exfalso;have:(G.mv k (G.β (root k)) (G.γ (root k)) mk).β (k,none)=G.β (root k):=(by simp[Gh.mv]);rw[this]at e;exact E _ U a e
      |some aa=>
       obtain⟨r,s⟩:=aa;have K:(nest k r s:Key)≠root k:=fun e=>(by simp at e);have ab:(G.mv k (G.β (root k)) (G.γ (root k)) mk).β (nest k r s)=G.β (a1t k mk (nest k r s)):=(by simp[Gh.mv]);simp only[Gh.mv,if_neg K]at p;have l:=hr.inj _ _ a p.2 (e.trans ab);cases d:mk i j with
       |none=>
        rw[a1Y d]at l;cases v:mk r s with
        |none=>rw[a1Y v]at l;exact congrArg Prod.snd l
        |some f=>rw[a2h v]at l;simp at l
       |some f=>
        rw[a2h d]at l;cases v:mk r s with
        |none=>rw[a1Y v]at l;simp at l
        |some ac=>
         rw[a2h v]at l;have:f=ac:=congrArg Prod.fst l;subst this;obtain⟨rfl,rfl⟩:=V i j r s f d v;rfl
    . have K:((m,u):Key)≠root k:=fun e=>n (congrArg Prod.fst e);simp only[Gh.mv,if_neg K,a5s n]at p e;have l:=hr.inj _ _ a p.2 (by simpa using e);cases d:mk i j with
      |none=>rw[a1Y d]at l;exact n (congrArg Prod.fst l).symm
      |some f=>
       rw[a2h d]at l;have h1:f=m:=congrArg Prod.fst l;have C:none=u:=congrArg Prod.snd l;subst h1;exact p.1 C.symm ⟨i,j,d⟩
 . unfold F7;rw[I.1];refine⟨I.2.1.2 D,C,es',q',N,h1,fun i c ad=>?_⟩;obtain⟨e,ae,H⟩:=W i c ad;refine⟨e,ae,?_⟩;cases d:mk i 0 with
   |none=>
    rw[d]at H;exact a0c.ext x (b2T d) (fun a=>F _ (fun e=>by simp at e) a) H
   |some f=>
    rw[d]at H;obtain⟨ns,af,ag⟩:=H;subst af;unfold a0c;exact ag.ext x (b9J d) fun a=>F _ (fun e=>(A i 0 f d).1 (congrArg Prod.fst e)) a
theorem c4l(hr:s6 B Z0 G h w){d:PV}{ks:List Nat}(f:j9 G h w D u c)(a:a6t (l7 h hide) c=some (d,ks)):
 ∃G' m,s6 B Z0 G' (p8 h (kill (l7 h hide) ks)) w∧Ext G h w G' (p8 h (kill (l7 h hide) ks)) w∧a4A G h G' (p8 h (kill (l7 h hide) ks)) ks∧
  (m=none∧(∀ns,d≠ .uslc ns)∧j9 G' (p8 h (kill (l7 h hide) ks)) w D u d∨∃k ns,m=some k∧d=.uslc ns∧O2 G' w (root k) u ns)∧∀k,m=some k↔k∈ks:=by
 unfold a6t at a;split at a
 . rename_i i;obtain⟨G1,g,j,l,n,b,o⟩:=b5L hr (fun _ _=>rfl) i f (fun _ _ _ _ _ _=>rfl) a;refine⟨G1,g,j,l,n,?_,o⟩;cases g with
   |none=>exact .inl ⟨rfl,fun ns e=>by have:=b.1;rw[e]at this;simp[one,Y1]at this,b.2⟩
   |some p=>obtain⟨ns,q,r⟩:=b;exact .inr ⟨p,ns,rfl,q,r⟩
 . split at a
   . rename_i s;simp only[s5,s9]at a;obtain⟨rfl,rfl⟩:=a;exact⟨G,none,hr,Ext.refl,⟨fun _ _ _=>C8.refl _ _,rfl,rfl,fun _ hm=>by simp at hm,fun _ hm=>by simp at hm,fun _ _=>rfl,fun _ hb=>.inl hb⟩,.inl ⟨rfl,b4R s,f⟩,fun k=>k8⟩
   . cases a
theorem b6E(hr:s6 B Z0 G h w){N:Nat}{pv d:PV}{kl:List Nat}(F:h[k]?=some (g,.mp false ks vs))(hb:w.heap[G.β (root k)]?=some (.map es q))
 (H:j9 G h w D v pv) (I:a6t (l7 h hide) pv=some (d,kl)) (s:k∉kl) (J:a1O es' ks') (K:ks'.length=vs'.length)
 (L:∀c,vs'[N]?=some c→c=d) (M:∃e,es'[N]?=some e∧e.val=v) (O:∀(j:Nat) c,j≠N→vs'[j]?=some c→vs[j]?=some c) (P:∀(j:Nat) (e:MapEntry),j≠N→es[j]?=some e→∃b:MapEntry,es'[j]?=some b∧b.val=e.val):
 ∃G',s6 B Z0 G' (p8 h (kill (l7 h hide) kl++[(k,(g,.mp false ks' vs'))])) {w with heap:=w.heap.setIfInBounds (G.β (root k)) (.map es' q')}∧
  Ext G h w G' (p8 h (kill (l7 h hide) kl++[(k,(g,.mp false ks' vs'))])) {w with heap:=w.heap.setIfInBounds (G.β (root k)) (.map es' q')}∧Bl B w {w with heap:=w.heap.setIfInBounds (G.β (root k)) (.map es' q')}:=by
 obtain⟨G1,Q,t,m,a,R,S⟩:=c4l hr H I;have u:(p8 h (kill (l7 h hide) kl))[k]?=some (g,.mp false ks vs):=(a.other k s).trans F;have x:w.heap[G1.β (root k)]?=some (.map es q):=by rw[a.β];exact hb
 have y:=t.ob k _ _ u;unfold F7 at y;obtain⟨_,_,T,Z,z,_,U⟩:=y;rw[x]at z;have:T=es:=by cases z;rfl
 subst this;obtain⟨f1,f2,f3⟩:=c2Y (q':=q') (mk:=fun i j=>if i=N∧j=0 then Q else none) t u x (es':=es') (ks':=ks') (vs':=vs') (fun i j f hm=>by
  split at hm
  . have n:=(S f).1 hm;refine⟨fun e=>s (e▸n),a.dead _ n,fun o A=>?_⟩;obtain⟨g2,s2,aa,ab,V⟩:=a.live _ n;rw[a.R]at o;rw[a.β]at A;rcases a.z _ A with W|⟨ac,_,ij,X,heq⟩
    . exact hr.nz f g2 _ V rfl none o W
    . have:=hr.inj _ _ o X heq;simp at this
  . cases hm) (fun i j ad ae f h1 C=>by
  split at h1
  . rename_i a1;split at C
    . rename_i a2;exact⟨a1.1.trans a2.1.symm,a1.2.trans a2.2.symm⟩
    . cases C
  . cases h1) J K (fun j c E=>by
  by_cases l:j=N
  . subst l;have Y:=L c E;subst Y;obtain⟨e,a1,a2⟩:=M;refine⟨e,a1,?_⟩;rw[if_pos ⟨rfl,rfl⟩,a2];rcases R with⟨rfl,p,r⟩|⟨f,ns,rfl,p,r⟩
    . exact(a4T p).2 r
    . exact⟨ns,p,r⟩
  . obtain⟨b,a1,a2⟩:=U j c (O j c l E);obtain⟨m,a3,a4⟩:=P j b l a1;refine⟨m,a3,?_⟩;rw[if_neg (fun e=>l e.1),a4];exact a2)
 rw[a.β]at f1 f2 f3;have hu:p8 h (kill (l7 h hide) kl++[(k,(g,.mp false ks' vs'))])=(p8 h (kill (l7 h hide) kl)).set k (g,.mp false ks' vs'):=by rw[a3I];rfl
 rw[hu];exact⟨_,f1,m.trans f2,f3⟩
theorem c9q(hr:s6 B Z0 G h w){pv:PV}(Q:mapA P t=some (n,z,s))(hm:j9 G h w D m pm)(R:j9 G h w D x px)(J:j9 G h w D v pv)(a:a7u (l7 h hide) n pm px pv=some (p,ws)):
 Good P B Z0 G h w (do Instr.mapUpdate t m x v;pure Next.skip) p ws:=by
 obtain⟨kt,Z,K,u,S,_⟩:=b4d Q;unfold a7u at a;split at a
 case h_2=>cases a
 rename_i k g;split at a
 case h_2=>cases a
 rename_i aa fr ks vs T;split at a
 case isFalse=>cases a
 rename_i b;obtain⟨rfl,rfl,c3,c4⟩:=b;split at a
 case h_2=>cases a
 rename_i d kl L;split at a
 case isTrue=>cases a
 rename_i y;have y:k∉kl:=by simpa using y
 have C:=P6 T k8;obtain⟨rfl,E,es,f,hb,r,ab⟩:=a8h hr C hm;obtain⟨key,l⟩:=b5f (x:=px) (by rw[c3];exact S);obtain rfl:=b3p l R;obtain⟨l1,M⟩:=r.list;split at a
 . rename_i i F;simp only[s5,s9]at a;obtain⟨rfl,rfl⟩:=a;obtain⟨_,q⟩:=find_spec (w:=w) u c3 l l1 M F;obtain⟨e,U,O,V⟩:=q i rfl;have H:es[i]?=some e:=(by simpa using U);have I:(do Instr.mapUpdate t (.map (some (G.β (root k)))) x v;pure Next.skip:Sem Next).run P w=.ok .skip {w with heap:=w.heap.setIfInBounds (G.β (root k)) (.map (es.modify i fun e=>{e with key:=x,val:=v}) f)}:=by
    simp[Instr.mapUpdate,run_underlying K,MapKept.run_getObj_map hb,a7r u c3 l,V,H,O,d1S l,MapKept.run_setObj_map _ hb,Result.andThen]
   obtain⟨G',w1,w2,w3⟩:=b6E (q':=f) hr (N:=i) (es':=es.modify i fun e=>{e with key:=x,val:=v}) (ks':=ks) (vs':=vs.set i d) C hb J L y (r.modify i _ (fun A o=>by rw[H]at o;cases o;exact O.symm)) (by rw[a4J];exact E) (fun c b=>by have W:i<vs.length:=(by have:=(C0.1 b).1;simpa using this);rw[E8 W]at b;cases b;rfl) ⟨{e with key:=x,val:=v},by rw[b5q,if_pos rfl,H];rfl,rfl⟩ (fun j c hj b=>by rw[F4 (Ne.symm hj)]at b;exact b) (fun j A hj o=>⟨A,by rw[b5q,if_neg (Ne.symm hj)];exact o,rfl⟩)
   exact⟨.skip,undef,_,G',I,.inr ⟨rfl,rfl⟩,w1,w2,K6,w3⟩
 . rename_i F;simp only[s5,s9]at a;obtain⟨rfl,rfl⟩:=a;obtain⟨q,_⟩:=find_spec (w:=w) u c3 l l1 M F;have I:(do Instr.mapUpdate t (.map (some (G.β (root k)))) x v;pure Next.skip:Sem Next).run P w=.ok .skip {w with heap:=w.heap.setIfInBounds (G.β (root k)) (.map (es.push {key:=x,val:=v,born:=f}) (f+1))}:=by
    simp[Instr.mapUpdate,run_underlying K,MapKept.run_getObj_map hb,a7r u c3 l,q rfl,MapKept.run_setObj_map _ hb,Result.andThen]
   obtain⟨G',w1,w2,w3⟩:=b6E (q':=f+1) hr (N:=es.size) (es':=es.push {key:=x,val:=v,born:=f}) (ks':=ks++[px]) (vs':=vs++[d]) C hb J L y (r.push l) (by simp[E]) (fun c b=>by
    rw[r.1,E,a4f (p7 _),a6a]at b;cases b;rfl) ⟨{key:=x,val:=v,born:=f},k8,rfl⟩ (fun j c hj b=>by
    by_cases X:j<vs.length
    . rw[a1k X]at b;exact b
    . have:=(C0.1 b).1;have h1:=r.1;simp at this;omega) (fun j A hj o=>by
    have Y:j<es.size:=(a1U.1 o).1;exact⟨A,by rw[Array.getElem?_push_lt Y,←o];exact(a5n _).symm,rfl⟩)
   exact⟨.skip,undef,_,G',I,.inr ⟨rfl,rfl⟩,w1,w2,K6,w3⟩
 . cases a
theorem c5B{o:Obj}(hb:w.heap[b]?=some o):({w with heap:=w.heap.setIfInBounds b o}:World)=w:=by
 have:w.heap.setIfInBounds b o=w.heap:=by
  apply Array.ext_getElem?;intro i;by_cases hi:i=b
  . subst hi;rw[(heap_set hb).1,hb]
  . exact(heap_set hb).2 i hi
 rw[this]
theorem c5O(hr:s6 B Z0 G h w){o sz:Nat}(N:mapA P t=some (n,z,s))(ac:0<sz)(u:o<h.length∧hide.contains o=false)(hm:j9 G h w D m pm)(O:j9 G h w D x px)(d:a5V (l7 h hide) o n sz z pm px=some (p,ws)):
 Good P B Z0 G h w (do pure (.value (←Instr.lookup t m x false))) p ws:=by
 unfold a5V at d;split at d
 case h_2=>cases d
 rename_i k g;split at d
 case h_2=>cases d
 rename_i v fr ks vs ad;split at d
 case isFalse=>cases d
 rename_i l;obtain⟨rfl,c3,c4,ae⟩:=l;have y:=P6 ad k8;have af:k<h.length:=(C0.1 y).1;obtain⟨rfl,ag,es,ah,hb,E,F⟩:=a8h hr y hm;have plain:∀{q:Eff},a3S n false z px ks vs=some q→Good P B Z0 G h w (do pure (.value (←Instr.lookup t (.map (some (G.β (root k)))) x false))) q.1 q.2:=fun{q} ai=>
  b0t (p:=q.1) (ws:=q.2) hr N (.inr ⟨_,rfl,hb⟩) O E (fun i c l H=>by obtain⟨e,a1,a2⟩:=F i c l;exact⟨e,a1,(a4T (b4R H)).1 a2⟩) ai
 split at d
 . rename_i i A;split at d
   . rename_i ns Q;split at d
     case isFalse=>cases d
     rename_i aj;subst aj;split at d
     case h_2=>cases d
     rename_i g3 I;split at d
     case isFalse=>cases d
     rename_i R;obtain⟨J,ak⟩:=R;simp only[s5,s9]at d;obtain⟨rfl,rfl⟩:=d;obtain⟨kt,aG,al,S,am,aH⟩:=b4d N;obtain⟨key,K⟩:=b5f (x:=px) (by rw[c3];exact am);obtain rfl:=b3p K O;obtain⟨l1,an⟩:=E.list;obtain⟨_,q⟩:=find_spec (w:=w) S c3 K l1 an A;obtain⟨e,ao,aI,ap⟩:=q i rfl;have U:es[i]?=some e:=(by simpa using ao);have aq:=ap;have ar:(Instr.lookup t (.map (some (G.β (root k)))) x false).run P w=.ok e.val w:=by simp[Instr.lookup,run_underlying al,MapKept.run_getObj_map hb,a7r S c3 K,aq,Result.andThen]
     have au:h[o]?=some (g3,.dead):=by unfold l7 at I;rw[if_neg (by rw[u.2];simp),B0,l9 u.1]at I;rw[l9 u.1];exact congrArg some I
     obtain⟨L,V,r⟩:=F i _ Q;have:L=e:=(by rw[U]at V;exact(U4 V).symm);subst this;have W:i<vs.length:=(C0.1 Q).1;unfold a0c at r;have aJ:=r;unfold O2 at r;have C:G.R (nest k i 0):=Classical.byContradiction fun M=>by have:=(r.2 M).2;subst this;simp at J
     obtain⟨av,T2,f,c,v1,aw,ax,aK,ay,az,X,aL,Y⟩:=r.1 C;obtain⟨A1,A2,A3⟩:=b6V (q':=ah) hr y hb (es':=es) (ks':=ks) (vs':=vs.set i .any) E (by rw[a4J];exact ag) (fun j c l=>by
      by_cases Z:i=j
      . subst Z;rw[E8 W]at l;cases l;refine⟨L,U,?_⟩;unfold a0c D;unfold j9;rw[v1];exact⟨rfl,rfl⟩
      . rw[F4 Z]at l;exact F j c l)
     rw[c5B hb]at A1 A2;have aa:G.σ (nest k i 0)=sz:=by have q:=(Y 0 ns[0] (l9 J)).1;have:=B5.1 ak ns[0] (C4 J);simp at this;omega
     rw[aa]at X;have aA:(h.set k (v,.mp false ks (vs.set i .any)))[k]?=some (v,.mp false ks (vs.set i .any)):=E8 af;obtain⟨B1,B2⟩:=c9Z (i:=i) A1 aA (fun aM e=>by rw[E8 W]at e;cases e);have aB:(h.set k (v,.mp false ks (vs.set i .any)))[o]?=some (g3,.dead):=(by rw[F4 ae];exact au);obtain⟨C1,C2⟩:=b6K B1 (us:=av) (T:=T2) (b:=G.β (nest k i 0)) (γ0:=G.γ (nest k i 0)) (sz:=sz) (ns:=ns) aB (hr.lv _ C).1 (hr.nz k v _ y rfl _ C) (fun key ab e=>ab.1 (hr.inj _ _ ab.2 C e)) az j4 ay ac X (fun a e aC=>by obtain⟨r1,r2⟩:=Y a e aC;rw[aa]at r1 r2;exact⟨r1,fun j aD aE=>r2 j aD aE⟩)
     refine⟨.value L.val,_,w,_,by simp[ar,Result.andThen],.inl rfl,C1,A2.trans (B2.trans C2),?_,Bl.refl _ _⟩;rw[v1];unfold D;unfold j9;refine⟨_,c,rfl,ax,j4,.inr ⟨_,_,rfl⟩,g3+1,_,E8 (by simpa using u.1),p7 _,fun _ aN vr aO es' e=>?_⟩;cases e;exact⟨p7 _,fun _=>⟨j4,fun _=>⟨f,by simp[Gh.a0Z],aw.imp id fun h _=>j4,j4,by simp[Gh.a0Z];omega⟩,fun M=>absurd (.inl rfl) M⟩⟩
   . rename_i c R aF;split at d
     case isFalse=>cases d
     rename_i H;simp only[s5,s9]at d;obtain⟨rfl,rfl⟩:=d;exact plain (q:=(c,[])) (by unfold a3S;rw[if_pos ⟨c3,c4⟩,A];simp only[];rw[aF];simp only[];rw[if_pos H];rfl)
   . cases d
 . rename_i A;simp only[s5,s9]at d;obtain⟨rfl,rfl⟩:=d;exact plain (q:=(z,[])) (by unfold a3S;rw[if_pos ⟨c3,c4⟩,A];rfl)
 . cases d
end
end
section
variable{P:Program}{B:Nat}{Z0:Nat→Prop}{G G':Gh}{h h':Heap}{w w':World}
theorem c6T{op:BinOp}{t e:TypeId}{x y:Operand}{v u:Value}{p q:PV}{r:Bool}(k:op=.eql∨op=.neq)(hu:P.underlying t=some (.pointer e))(c:j9 G h w D v p)(hw:j9 G h w D u q)(i:b0X q=true)(g:a9R p=some r):
 ∃z,(do eqGuard op t x y v u;Go.binOp op t v u:Sem Value).run P w=.ok z w∧j9 G h w D z (.bool ((op==.neq) !=r)):=by
 have l:u=.pointer none:=by
  unfold b0X at i;split at i
  . unfold D at hw;unfold j9 at hw;exact hw.1
  . cases i
 subst l;have key:∃a,v=.pointer a∧a.isNone=r:=by
  unfold a9R at g;split at g
  . cases g;unfold D at c;unfold j9 at c;exact⟨none,c.1,rfl⟩
  . cases g;unfold D at c;unfold j9 at c;obtain⟨b,rfl,_⟩:=c;exact⟨_,rfl,rfl⟩
  . cases g;unfold D at c;unfold j9 at c;obtain⟨b,f,rfl,_⟩:=c;exact⟨_,rfl,rfl⟩
  . cases g;unfold D at c;unfold j9 at c;obtain⟨b,f,rfl,_⟩:=c;exact⟨_,rfl,rfl⟩
  . cases g;unfold D at c;unfold j9 at c;obtain⟨b,f,rfl,_⟩:=PR.a3f.1 c;exact⟨_,rfl,rfl⟩
  . cases g
 obtain⟨a,rfl,rfl⟩:=key;have he:(Op.equal t (.pointer a) (.pointer none)).run P w=.ok a.isNone w:=by
  have hd:∀d:Nat,(Op.equalIn (d+1) t (.pointer a) (.pointer none)).run P w=.ok a.isNone w:=fun d=>by cases a<;>simp[Op.equalIn,run_underlying hu]
  exact hd 9999
 rcases k with rfl|rfl
 . refine⟨.bool a.isNone,?_,by rw[show((BinOp.eql==BinOp.neq) !=a.isNone)=a.isNone by cases a<;>rfl];exact a1o⟩;have j:(eqGuard .eql t x y (.pointer a) (.pointer none)).run P w=.ok () w:=(by simp[eqGuard]);simp only[N6,j,P5,Go.binOp,he,a1H]
 . refine⟨.bool (!a.isNone),?_,by rw[show((BinOp.neq==BinOp.neq) !=a.isNone)=!a.isNone by cases a<;>rfl];exact a1o⟩;have j:(eqGuard .neq t x y (.pointer a) (.pointer none)).run P w=.ok () w:=(by simp[eqGuard]);simp only[N6,j,P5,Go.binOp,he,a1H]
theorem a9v:j9 G h w D (.tuple #[]) (.tup []):=by unfold D;unfold j9;exact⟨#[],rfl,rfl,fun i c a=>by simp at a⟩
theorem d2b(hr:s6 B Z0 G h w){hide:List Nat}{t ty kt f:TypeId}{m:Value}{pm p:PV}{ws:List (Nat×Row)}(hu:P.underlying t=some (.map kt f))(hm:j9 G h w D m pm)(a:a7p (l7 h hide) pm=some (p,ws)):
 Good P B Z0 G h w (do pure (.value (←Builtin.clear_ #[t] ty #[m]))) p ws:=by
 unfold a7p at a;split at a
 . rename_i k g;split at a
   . rename_i o fr ks vs j;split at a
     . rename_i b;obtain⟨rfl,rfl⟩:=b;simp only[s5,s9]at a;obtain⟨rfl,rfl⟩:=a;have d:=P6 j k8;obtain⟨rfl,q,es,e,hb,r,s⟩:=a8h hr d hm;obtain⟨A1,A2,A3⟩:=b6V (q':=e) hr d hb (es':= #[]) (ks':=[]) (vs':=[]) ⟨rfl,fun i x l=>by simp at l⟩ rfl (fun i c b=>by simp at b);have n:(Builtin.clear_ #[t] ty #[.map (some (G.β (root k)))]).run P w=.ok (.tuple #[]) {w with heap:=w.heap.setIfInBounds (G.β (root k)) (.map #[] e)}:=by
        simp[Builtin.clear_,run_underlying hu,MapKept.run_getObj_map hb,MapKept.run_setObj_map _ hb,Result.andThen]
       exact⟨.value (.tuple #[]),_,_,G,by simp[n,Result.andThen],.inl rfl,A1,A2,a9v,A3⟩
     . cases a
   . cases a
 . simp only[s5,s9]at a;obtain⟨rfl,rfl⟩:=a;unfold D at hm;unfold j9 at hm;obtain⟨rfl,_⟩:=hm;exact a3T hr (v:=.tuple #[]) (by simp[Builtin.clear_,run_underlying hu]) a9v
 . cases a
theorem c6B(hr:s6 B Z0 G h w){hide:List Nat}{t ty e:TypeId}{x:Value}{z M p:PV}{ws:List (Nat×Row)}(hu:P.underlying t=some (.slice e))(hs:I9 P e=some 1)(ac:a0v P e=some z)(aC:(l6 z).length=1)
 (C:j9 G h w D x M) (b:a7E (l7 h hide) z M=some (p,ws)):Good P B Z0 G h w (do pure (.value (←Builtin.clear_ #[t] ty #[x]))) p ws:=by
 unfold a7E at b;split at b
 . simp only[s5,s9]at b;obtain⟨rfl,rfl⟩:=b;obtain rfl:=a0k C;exact a3T hr (v:=.tuple #[]) (by simp[Builtin.clear_,run_underlying hu]) a9v
 . rename_i k g ver i j o l;split at b
   case h_2=>cases b
   rename_i I s ver' fr es ad;split at b
   case isFalse=>cases b
   rename_i J;obtain⟨rfl,rfl,rfl,rfl,N⟩:=J;split at b
   case h_2=>cases b
   rename_i r he;split at b
   case h_2=>cases b
   rename_i ns n;split at b
   case isFalse=>cases b
   rename_i J;obtain⟨rfl,ae⟩:=J;simp only[s5,s9]at b;obtain⟨rfl,rfl⟩:=b;have E:=P6 ad k8;obtain⟨inf,zv,af,z2,z3⟩:=a4Q ac;obtain⟨z4,z5⟩:=a8N (G:=G) (h:=h) (w:=w) z3;have O:l6 z=[z]:=by cases z<;>first|rfl|(simp[A7]at N)
   obtain⟨ag,Q⟩:=a6M (G:=G) (h:=h) (w:=w) z3;rw[O]at ag Q;obtain⟨u0,aD,R,S⟩:=Q 0 z rfl;have ah:zv.cells= #[u0]:=(by grind);unfold D at C;unfold j9 at C;obtain⟨a,c,rfl,aE,aF,aG,gn,ob,U,aH,ai⟩:=C;rw[E]at U;cases U;obtain⟨_,aj⟩:=ai rfl _ _ _ _ rfl;obtain⟨aI,V,_,ak,aJ⟩:=aj rfl;rw[a4t he n]at V;cases V;obtain⟨aK,us,T,aL,aM,aN,al⟩:=a3t hr E he;obtain⟨aO,aP,W⟩:=al j _ n;unfold G9 O2 at W;have hj:=(C0.1 n).1;have am:l6 (M4 r j [.uslc (List.replicate ns.length z)])=(l6 r).set j (.uslc (List.replicate ns.length z)):=by rw[a9Q F6 k8 (fun d hd _=>by simp at hd;subst hd;rfl)];rfl
   by_cases an:ns.length=0
   . have ao:ns=[]:=a0U.1 an;subst ao;have ap:es.set i (M4 r j [.uslc (List.replicate ([]:List PV).length z)])=es:=by
      have:M4 r j [.uslc (List.replicate ([]:List PV).length z)]=r:=by
       cases r
       case agg cs=>
        simp only[l6]at n;simp only[M4,a1N];congr 1;obtain⟨_,aq⟩:=C0.1 n;rw[show PV.uslc (List.replicate ([]:List PV).length z)=PV.uslc []from rfl,←aq];exact b5s _
       all_goals
        simp only[l6]at n;cases j with
        |zero=>first
         |(simp at n;done)
         |(simp at n;subst n;rfl)
        |succ j=>simp at n
      rw[this];exact b6G he
     have A:h.set k (I,.arr s ver' false es)=h:=b6G E;rw[ap];have K:(Builtin.clear_ #[t] ty #[.slice a ([]:List PV).length c]).run P w=.ok (.tuple #[]) w:=by cases a<;>simp[Builtin.clear_,run_underlying hu]
     refine⟨.value (.tuple #[]),_,w,G,by simp only[N6,K,P5,a1H],.inl rfl,?_,?_,a9v,Bl.refl _ _⟩
     . show s6 B Z0 G (h.set k (I,.arr s ver' false es)) w;rw[A];exact hr
     . show Ext G h w G (h.set k (I,.arr s ver' false es)) w;rw[A];exact Ext.refl
   have F:G.R (nest k i j):=(by grind);obtain⟨H,T2,aQ,aR,rfl,aS,aT,aU,aV,L,ar,aW,au⟩:=W.1 F;obtain⟨f,rfl,aX⟩:=ak F;have X:G.σ (nest k i j)=1:=by have Y:ns[0]?=some (ns[0]'j4):=l9 j4;have av:=(au 0 _ Y).1;have:=a4b ae Y;omega
   have aw:f=0:=j4;subst aw;have Z:=d0H ah ns.length;have aa:=a6L (fun _=>u0) ns.length;have ab:0+(V8 (fun _=>u0) ns.length).length≤H.size:=by rw[aa,ar,X];omega
   have A:=run_storeCells_at P (G.β (nest k i j)) 0 T2 (V8 (fun _=>u0) ns.length) 0 H w L j4 (fun u hu=>by obtain⟨q,av,rfl⟩:=G7.1 hu;exact a7C R S)
   have K:(Builtin.clear_ #[t] ty #[.slice (some ⟨G.β (nest k i j),0,none⟩) ns.length c]).run P w=.ok (.tuple #[]) (w.setRow (G.β (nest k i j)) (a0d H 0 (V8 (fun _=>u0) ns.length))):=by
    obtain⟨m,hm⟩:∃m,ns.length=m+1:=⟨ns.length-1,j4⟩
    simp only[a4d]at A;rw[hm]at Z A⊢;simp[Builtin.clear_,run_underlying hu,zeroValue,typeInfo,af,z2,Z,A,a0d]
   obtain⟨ax,ay⟩:=b6J (us':=a0d H 0 (V8 (fun _=>u0) ns.length)) hr E he n F L rfl am k8 (a6f ab) (fun m y aY=>by have hm:m<ns.length:=(by grind);have az:y=z:=(by grind);subst az;rw[X,O];refine⟨rfl,fun l c0 aA=>?_⟩;have aB:l=0:=(by grind);subst aB;cases aA;refine⟨R,u0,?_,a4D N S⟩;rw[a3U ab,if_pos (by rw[aa];omega)];rw[show m*1+0-0=m by omega];exact a3c hm)
   exact⟨.value (.tuple #[]),_,_,G,by simp only[N6,K,P5,a1H],.inl rfl,ax,ay,a9v,a6r (Bl.refl _ _) (hr.lv _ F).1 _ L⟩
 . cases b
end
section
variable{P:Program}{B:Nat}{Z0:Nat→Prop}{G G':Gh}{h h':Heap}{w w':World}
theorem a5z{α β:Type}{f:α→Option β}:∀{l:List α} {m:List β},N1 f l=some m→l.length=m.length∧∀(i:Nat) a,l[i]?=some a→∃b,m[i]?=some b∧f a=some b
 | [],m,c=>by simp[N1]at c;subst c;exact⟨rfl,fun i a h=>by simp at h⟩
 |a::l,m,c=>by
  simp only[N1]at c;split at c
  . rename_i b e h1 d;cases c;obtain⟨g,j⟩:=a5z d
    grind
  . cases c
theorem a5r{rd:Operand→Option A6}{ρ:Operand→Value}{b:A6→PV}(c:∀x d,rd x=some d→j9 G h w D (ρ x) (b d)){x:Option Operand}{d:Option A6}(a:a3K rd x=some d):OV G h w (x.map ρ) (d.map b):=by
 cases x with
 |none=>simp[a3K]at a;subst a;trivial
 |some x=>
  simp only[a3K]at a;obtain⟨e,h1,rfl⟩:=C9.1 a;exact c x e h1
theorem b4H{mx:Bool}{k:IntKind}:∀{l:List Value} {ps:List PV} {m n:Int},l.length=ps.length→(∀(i:Nat) p,ps[i]?=some p→∃v,l[i]?=some v∧j9 G h w D v p)→a6g mx m ps=some n→
 (l.foldlM (if mx then Builtin.max2 else Builtin.min2) (.int k m)).run P w=.ok (.int k n) w
 | [],ps,m,n,b,c,a=>by
  have:ps=[]:=a0U.1 b.symm;subst this;simp[a6g]at a;subst a;rfl
 |v::l,[],m,n,b,c,a=>by simp at b
 |v::l,p::ps,m,n,b,c,a=>by
  cases p<;>(try (simp[a6g]at a;done))
  case int f y=>
   obtain⟨g,h1,e⟩:=c 0 _ rfl;simp at h1;subst h1;obtain rfl:=Z2 e;simp only[a6g]at a;have d:=b4H (k:=k) (l:=l) (by simpa using b) (fun i p hp=>c (i+1) p (by simpa using hp)) a;simp only[List.foldlM_cons];cases mx
   . simp only[a4c,if_false]at d a⊢;simp[Builtin.min2,d]
   . simp only[if_true]at d a⊢;simp[Builtin.max2,d]
theorem a1A(hr:s6 B Z0 G h w){s:Sem Value}{p:PV}(hs:∃v,s.run P w=.ok v w∧j9 G h w D v p):Good P B Z0 G h w (do pure (.value (←s))) p []:=
 let⟨_,h1,h2⟩:=hs;a3T hr h1 h2
theorem b4e{rd:Operand→Option A6}{ρ:Operand→Value}{e:A6→PV}(g:∀x d,rd x=some d→j9 G h w D (ρ x) (e d)){place:Nat→Option (Nat×Nat)}{f:Nat×Operand→Option (Nat×Nat×A6)}
 (i:∀a b,f a=some b→place a.1=some (b.1,b.2.1)∧rd a.2=some b.2.2):∀{ps:List (Nat×Operand)} {l:List (Nat×Nat×A6)},N1 f ps=some l→a7q G h w place (ps.map fun x=>(x.1,ρ x.2)) (l.map fun x=>(x.1,x.2.1,e x.2.2))
 | [],l,c=>by simp[N1]at c;subst c;exact .nil
 |a::ps,l,c=>by
  simp only[N1]at c;split at c
  . rename_i b m h1 j;cases c;obtain⟨k,n⟩:=i a b h1;exact .cons k (g _ _ n) (b4e g i j)
  . cases c
theorem b1W{rd:Operand→Option A6}{ρ:Operand→Value}{e:A6→PV}(f:∀x d,rd x=some d→j9 G h w D (ρ x) (e d)):∀{ps:List (Nat×Operand)} {l:List (Nat×A6)},N1 (fun(p:Nat×Operand)=>(rd p.2).map fun x=>(p.1,x)) ps=some l→a4Y G h w (ps.map fun x=>(x.1,ρ x.2)) (l.map fun x=>(x.1,e x.2))
 | [],l,c=>by simp[N1]at c;subst c;exact .nil
 |a::ps,l,c=>by
  simp only[N1]at c;split at c
  . rename_i b m h1 g;cases c;obtain⟨d,i,rfl⟩:=C9.1 h1;exact .cons (f _ _ i) (b1W f g)
  . cases c
theorem c0w:∀{b:List Field} {l:List (Nat×Nat)},a8X P b=some l→b.mapM (fun f=>(P.info? f.type).map fun i=>(f.offset,i.size))=some l
 | [],l,a=>by simp[a8X]at a;subst a;rfl
 |f::b,l,a=>by
  simp only[a8X]at a;split at a
  . rename_i i m h1 c;cases a;simp[List.mapM_cons,h1,c0w c]
  . cases a
theorem b9k{rd:Operand→Option A6}{s:Nat}:∀{L:List (Nat×Operand)} {l:List (Nat×A6)},N1 (fun(p:Nat×Operand)=>(rd p.2).map fun x=>(p.1,x)) L=some l→N1 (fun(p:Nat×Operand)=>(rd p.2).map fun x=>(p.1*s,s,x)) L=some (l.map fun p=>(p.1*s,s,p.2))
 | [],l,c=>by simp[N1]at c;subst c;rfl
 |a::L,l,c=>by
  simp only[N1]at c;split at c
  . rename_i b m e f;cases c;obtain⟨d,g,rfl⟩:=C9.1 e;simp only[N1,g,a2Y,b9k f,a0s]
  . cases c
theorem c2M{A:Array Value}{cs:List PV}(a:J4 (fun u c=>one c=true∧j9 G h w D u c) A cs):j9 G h w D (.agg A) (.agg cs):=
 a6Q (a.mono fun _ _ y=>one_cell y.1 y.2)
theorem b9T(hr:s6 B Z0 G h w){t:TypeId}{z:PV}{place:Nat→Option (Nat×Nat)}{parts:Array (Nat×Value)}{xs:List (Nat×Nat×PV)}{cs:List PV}(d:a0v P t=some z)
 (hp:a7q G h w place parts.toList xs) (e:a6P (l6 z) xs=some cs) (hb:∀i v A,P.info? t=some i→i.zero=some v→Instr.fill place v.cells parts.toList=some A→P.built t parts.toList=some A):
 ∃v,(Instr.build t parts).run P w=.ok v w∧j9 G h w D v (.agg cs):=by
 obtain⟨i,v,h1,f,g⟩:=a4Q d;have j:=a6M (G:=G) (h:=h) (w:=w) g;obtain⟨A,k,l⟩:=c2s (R:=fun u c=>one c=true∧j9 G h w D u c) (fun u c a b=>⟨a,b⟩) hp j e;exact⟨_,run_build w t parts A (hb i v A h1 f k),c2M l⟩
theorem b8u(hr:s6 B Z0 G h w){hide:List Nat}{ρ:Operand→Value}{ac:A6→PV}{rd:Operand→Option A6}(F:∀x d,rd x=some d→j9 G h w D (ρ x) (ac d)){o:Oper}{k:Nat}{app:Nat×Option Nat}{al:Bool}{ao:N3}{p:PV}{ws:List (Nat×Row)}
 (E:a2H P rd k app al o.type o.op=some ao) (R:∀j,j∈I1 ao→j<h.length∧hide.contains j=false) (C:A9 ac (l7 h hide) ao=some (p,ws)):Good P B Z0 G h w (execOp ρ o) p ws:=by
 obtain⟨dst,op,type,pos,after,guard⟩:=o;cases op<;>simp only[a2H]at E<;>(try (cases E;done))<;>simp only[execOp]
 case move x|assign x=>
  obtain⟨d,h1,rfl⟩:=C9.1 E;simp only[A9,s5,s9]at C;obtain⟨rfl,rfl⟩:=C;exact a3h hr rfl (F _ _ h1)
 case makeMap t r=>
  cases r with
  |some r=>
   simp only[]at E;split at E
   . rename_i hu;obtain⟨d,h1,rfl⟩:=C9.1 E;simp only[A9,a2Y]at C;split at C
     . rename_i e;cases e
     . rename_i bj n e;simp only[s5,s9]at C e;obtain⟨rfl,rfl⟩:=C;have L:=F _ _ h1;rw[e]at L;have L:=Z2 L;exact c2e hr (R k (by simp[I1])) t (by simp[Instr.makeMap,run_underlying hu,L,Go.asInt,asIntOf,Result.andThen])
     . cases C
   . cases E
  |none=>
   cases E;simp only[A9,Option.map_none,s5,s9]at C;obtain⟨rfl,rfl⟩:=C;exact c2e hr (R k (by simp[I1])) t (by simp[Instr.makeMap])
 case lookup t m x ok=>
  split at E
  . rename_i kt z s aJ N h0 h1 H;cases E;split at C
    . rename_i az;obtain⟨_,aK,hs⟩:=id az;subst aK;refine c5O hr h0 (Nat.pos_of_ne_zero hs) (R k ?_) (F _ _ h1) (F _ _ H) C;rw[if_pos az];simp[I1]
    . exact c2W hr h0 (F _ _ h1) (F _ _ H) C
  . cases E
 case mapUpdate t m x v|insert t m x v=>
  split at E
  . rename_i kt z s aJ N aL h0 h1 H I;cases E;exact c9q hr h0 (F _ _ h1) (F _ _ H) (F _ _ I) C
  . cases E
 case pick c a b=>
  split at E
  . rename_i aM aA aN h1 H I;cases E;simp only[A9]at C;split at C
    . rename_i t aO;simp only[s5,s9]at C;obtain⟨rfl,rfl⟩:=C;have hb:=F _ _ h1;rw[aO]at hb;have:=a0X hb;refine a3h hr (v:=if t then ρ a else ρ b) (by simp[this,asBool]) ?_;cases t
      . exact F _ _ I
      . exact F _ _ H
    . cases C
  . cases E
 case alloc e=>
  split at E
  . obtain⟨z,h1,rfl⟩:=C9.1 E;simp only[A9]at C;split at C
    . rename_i hp;simp only[s5,s9]at C;obtain⟨rfl,rfl⟩:=C;exact c4t hr (R k (by simp[I1])) h1 rfl hp.1 hp.2.1 hp.2.2
    . cases C
  . obtain⟨z,h1,rfl⟩:=C9.1 E;simp only[A9]at C;split at C
    . simp only[s5,s9]at C;obtain⟨rfl,rfl⟩:=C;exact c3Q hr (R k (by simp[I1])) h1
    . cases C
 case box e x=>
  split at E
  . obtain⟨d,h1,rfl⟩:=C9.1 E;simp only[A9]at C;split at C
    . rename_i hp;simp only[s5,s9]at C;obtain⟨rfl,rfl⟩:=C;exact c6W hr (R k (by simp[I1])) (F _ _ h1) hp.1 hp.2.1 hp.2.2
    . cases C
  . obtain⟨d,h1,rfl⟩:=C9.1 E;simp only[A9]at C;split at C
    . rename_i ap;simp only[s5,s9]at C;obtain⟨rfl,rfl⟩:=C;exact c7i hr (R k (by simp[I1])) (F _ _ h1) ap
    . cases C
 case build t ps=>
  split at E
  . rename_i z aP h1 H;split at E
    . rename_i places I;split at E
      . rename_i l J;cases E;simp only[A9]at C;split at C
        . rename_i cs K;simp only[s5,s9]at C;obtain⟨rfl,rfl⟩:=C;have aQ:=b4e (G:=G) (h:=h) (w:=w) (place:=fun i=>places.toArray[i]?) F (f:=fun(p:Nat×Operand)=>match places[p.1]?,rd p.2 with
           |some q,some x=>some (q.1,q.2,x)
           |_,_=>none) (fun a b ad=>by
            try dsimp only at ad
            split at ad
            . grind
            . cases ad) J
          refine a1A hr (b9T hr (place:=fun i=>places.toArray[i]?) h1 (by simpa using aQ) K fun i v A g1 g2 g3=>?_);unfold Program.built;simp only[g1,H,g2,c0w I];exact g3
        . cases C
      . cases E
    . cases E
  . rename_i z n e h1 H;split at E
    . rename_i s l I J;cases E;simp only[A9]at C;split at C
      . rename_i cs K;simp only[s5,s9]at C;obtain⟨rfl,rfl⟩:=C;obtain⟨X,U,rfl⟩:=a1Z I;refine a1A hr (b9T hr (place:=fun i=>some (i*X.size,X.size)) h1 ?_ K fun i v A g1 g2 g3=>?_)
        . have:=b4e (G:=G) (h:=h) (w:=w) (place:=fun i=>some (i*X.size,X.size)) F (f:=fun(p:Nat×Operand)=>(rd p.2).map fun x=>(p.1*X.size,X.size,x)) (fun a b ad=>by
           obtain⟨d,V,rfl⟩:=C9.1 ad;exact⟨rfl,V⟩) (ps:=ps.toList) (l:=l.map fun p=>(p.1*X.size,X.size,p.2)) ?_
          . simpa using this
          . exact b9k J
        . unfold Program.built;simp only[g1,H,g2,U];exact g3
      . cases C
    . cases E
  . cases E
 case buildSlice t n ps=>
  split at E
  . rename_i e h1;split at E
    . rename_i s z l H I J;split at E
      . rename_i W;obtain⟨c1,c2,c3⟩:=W;simp only[s5]at E;split at E
        . subst E;simp only[A9,c1,if_false]at C;split at C
          . rename_i es K;split at C
            . rename_i aR;simp only[s5,s9]at C;obtain⟨rfl,rfl⟩:=C;exact c9C hr h1 H I c1 c2 c3 (by simpa using b1W F J) K aR
            . cases C
          . cases C
        . split at E
          . rename_i aS;obtain⟨rfl,aT,_⟩:=aS;obtain rfl:=a0U.1 aT;subst E;simp only[A9,a6U,if_true,s5,s9]at C;obtain⟨rfl,rfl⟩:=C;exact c3L hr h1 H I c1 c3 (by simpa using b1W F J)
          . subst E;simp only[A9]at C;split at C
            . rename_i es K;simp only[s5,s9]at C;obtain⟨rfl,rfl⟩:=C;exact c2N hr (R k (by simp[I1])) h1 H I c1 c2 c3 (by simpa using b1W F J) K
            . cases C
      . cases E
    . cases E
  . cases E
 case load t a=>
  split at E
  . rename_i g s d h1 H I;split at E
    . simp only[s5]at E;split at E
      . subst E;simp only[A9]at C;split at C
        . rename_i bk bl o' aU;split at C
          . rename_i r J;simp only[s5,s9]at C;obtain⟨rfl,rfl⟩:=C;exact a1A hr (a9C hr h1 H (F _ _ I) (by rw[aU];exact J))
          . cases C
        . cases C
      . split at E
        . rename_i Q;obtain⟨rfl,_⟩:=Q;subst E;simp only[A9]at C;split at C
          . rename_i r J;simp only[s5,s9]at C;obtain⟨rfl,rfl⟩:=C;exact a1A hr (b5y hr h1 H (F _ _ I) J)
          . cases C
        . subst E;simp only[A9]at C;split at C
          . rename_i r J;simp only[s5,s9]at C;obtain⟨rfl,rfl⟩:=C;exact a1A hr (a9C hr h1 H (F _ _ I) J)
          . cases C
    . cases E
  . cases E
 case store t a v=>
  split at E
  . rename_i s aA aL h1 H I;split at E
    . rename_i h0;simp only[s5]at E;split at E
      . subst E;simp only[A9]at C;split at C
        . rename_i aV J;simp only[s5,s9]at C;obtain⟨rfl,rfl⟩:=C;exact c6H hr h1 h0 (F _ _ H) (F _ _ I) J
        . cases C
      . subst E;simp only[A9]at C;split at C
        . rename_i aV J;simp only[s5,s9]at C;obtain⟨rfl,rfl⟩:=C;exact b2R hr h1 h0 (F _ _ H) (F _ _ I) J
        . cases C
    . cases E
  . cases E
 case nilCheck x=>
  obtain⟨d,h1,rfl⟩:=C9.1 E;have L:=F _ _ h1;simp only[A9]at C;split at C
  all_goals first|(cases C;done)|skip
  all_goals
   rename_i he;simp only[s5,s9]at C;obtain⟨rfl,rfl⟩:=C
   first
    |rw[he]at L
    |skip
  . have O:=L;unfold D at O;unfold j9 at O;obtain⟨b,hb,_⟩:=O;rw[he,hb];rw[hb]at L;exact a3h hr rfl L
  . have O:=L;unfold D at O;unfold j9 at O;obtain⟨b,f,hb,_⟩:=O;rw[he,hb];rw[hb]at L;exact a3h hr rfl L
  . have O:=L;unfold D at O;unfold j9 at O;obtain⟨b,f,hb,_⟩:=O;rw[he,hb];rw[hb]at L;exact a3h hr rfl L
  . have O:=L;unfold D at O;unfold j9 at O;obtain⟨b,f,hb,_⟩:=PR.a3f.1 O;rw[he,hb];rw[hb]at L;exact a3h hr rfl L
  . obtain⟨vs,us,hb,K,M⟩:=a8C L;rw[hb]at L⊢;exact a3h hr rfl L
 case binOp op t x y bm=>
  split at E
  . split at E
    . split at E
      . rename_i N am h1 H;cases E;simp only[A9]at C;split at C
        . rename_i r I;simp only[s5,s9]at C;obtain⟨rfl,rfl⟩:=C;exact a1A hr (b9R (F _ _ h1) (F _ _ H) I)
        . cases C
      . cases E
    . rename_i aq _;split at E
      . rename_i Z;split at E
        . rename_i N am h1 H;cases E;simp only[A9]at C;split at C
          . rename_i b I ar;simp only[s5,s9]at C;obtain⟨rfl,rfl⟩:=C;have ae:=F _ _ H;rw[ar]at ae;rw[a0k ae];unfold b6R at Z;split at Z
            . rename_i e hu;exact a1A hr (c3e aq hu (F _ _ h1) I)
            . cases Z
          . cases C
        . cases E
      split at E
      . rename_i Z;split at E
        . rename_i N am h1 H;cases E;simp only[A9]at C;split at C
          . rename_i b I;split at C
            case isFalse=>cases C
            rename_i ar;simp only[s5,s9]at C;obtain⟨rfl,rfl⟩:=C;unfold b6i at Z;split at Z
            . rename_i e hu;exact a1A hr (c6T aq hu (F _ _ h1) (F _ _ H) ar I)
            . cases Z
          . cases C
        . cases E
      split at E
      . rename_i ts N am h0 h1 H;cases E;simp only[A9]at C;split at C
        . rename_i l m af ag;split at C
          . rename_i b I;simp only[s5,s9]at C;obtain⟨rfl,rfl⟩:=C;have S:=F _ _ h1;have ae:=F _ _ H;rw[af]at S;rw[ag]at ae;exact a1A hr (d1Y aq h0 S ae I)
          . cases C
        . cases C
      . cases E
  . split at E
    . rename_i N am h1 H;cases E;simp only[A9]at C;split at C
      . rename_i r I;simp only[s5,s9]at C;obtain⟨rfl,rfl⟩:=C;exact a1A hr (b9R (F _ _ h1) (F _ _ H) I)
      . cases C
    . cases E
 case unOp op t x=>
  obtain⟨d,h1,rfl⟩:=C9.1 E;simp only[A9]at C;split at C
  . rename_i r I;simp only[s5,s9]at C;obtain⟨rfl,rfl⟩:=C;exact a1A hr (d0m (F _ _ h1) I)
  . cases C
 case convert s d x=>
  split at E
  . rename_i bn bo h1 H;obtain⟨N,I,rfl⟩:=C9.1 E;simp only[A9]at C;split at C
    . rename_i kk n he;simp only[s5,s9]at C;obtain⟨rfl,rfl⟩:=C;have L:=F _ _ I;rw[he]at L;have:=Z2 L;rw[this];refine a1A hr ⟨_,?_,a0J⟩;simp[convert,run_underlying h1,run_underlying H,Conv.intToInt]
    . cases C
  . rename_i e h1 H;split at E
    . rename_i h0;split at E
      . obtain⟨N,I,rfl⟩:=C9.1 E;simp only[A9]at C;split at C
        . rename_i news au J;split at C
          . rename_i aW K;simp only[s5,s9]at C;obtain⟨rfl,rfl⟩:=C;exact a1A hr (d1a hr h1 h0 H (F _ _ I) J K)
          . cases C
        . cases C
      . cases E
    . cases E
  . cases E
 case makeSlice t l c=>
  split at E
  . rename_i e h1;split at E
    . rename_i s b z dl aM H I J K M;split at E
      . rename_i W;obtain⟨c1,c2,c3⟩:=W;cases E;simp only[A9]at C;split at C
        . rename_i vl bp af ag;split at C
          . rename_i W;obtain⟨d1,d2,d3,d4⟩:=W;simp only[s5,s9]at C;obtain⟨rfl,rfl⟩:=C;have ah:=F _ _ K;have aB:=F _ _ M;rw[af]at ah;rw[ag]at aB;rw[Z2 ah,Z2 aB];exact c3s hr (R k (by simp[I1])) h1 H I J c1 c2 d1 d2 d3 d4
          . cases C
        . cases C
      . cases E
    . cases E
  . cases E
 case slice t x lo hi mx=>
  split at E
  . rename_i h1;split at E
    . rename_i N aC aD aX H I J K;cases E;simp only[A9]at C;split at C
      . rename_i r M;simp only[s5,s9]at C;obtain⟨rfl,rfl⟩:=C;exact a1A hr (c2m h1 (F _ _ H) (a5r F I) (a5r F J) (a5r F K) M)
      . cases C
    . cases E
  . rename_i e h1;split at E
    . rename_i s N aC aD aX aY H I J K;cases E;simp only[A9]at C;split at C
      . rename_i r M;simp only[s5,s9]at C;obtain⟨rfl,rfl⟩:=C;exact a1A hr (d1T h1 aY (F _ _ H) (a5r F I) (a5r F J) (a5r F K) M)
      . cases C
    . cases E
  . split at E
    . rename_i N aC aD H I J;obtain⟨y,K,rfl⟩:=C9.1 E;simp only[A9]at C;split at C
      . rename_i r M;simp only[s5,s9]at C;obtain⟨rfl,rfl⟩:=C;exact a1A hr (c4N K (F _ _ H) (a5r F I) (a5r F J) M)
      . cases C
    . cases E
  . cases E
 case fieldAddr s x f=>
  split at E
  . rename_i fd h1;split at E
    . rename_i z d H I;split at E
      . rename_i h0;cases E;simp only[A9]at C;split at C
        . rename_i r J;simp only[s5,s9]at C;obtain⟨rfl,rfl⟩:=C;obtain⟨b,o,K,M⟩:=b3S (F _ _ I) J;rw[K];exact a3T hr (c6y h1 H h0) M
        . cases C
      . cases E
    . cases E
  . cases E
 case field t x f=>
  split at E
  . rename_i fd h1;split at E
    . rename_i g s d H I J;split at E
      . rename_i h0;cases E;simp only[A9]at C;split at C
        . rename_i cs he;split at C
          . rename_i r K;simp only[s5,s9]at C;obtain⟨rfl,rfl⟩:=C;have L:=F _ _ J;rw[he]at L;obtain⟨vs,M,aa⟩:=a5w L;obtain⟨u,aZ,a0⟩:=c9O (P:=P) H I aa K;obtain⟨aP,U,V⟩:=b7G h1;rw[M];exact a3T hr (by simp[Instr.field,run_underlying U,V,asAgg,aZ]) a0
          . cases C
        . cases C
      . cases E
    . cases E
  . cases E
 case indexAddr t x i=>
  split at E
  . rename_i e h1;split at E
    . rename_i s N aE H I J;split at E
      . cases E;simp only[A9]at C;split at C
        . rename_i kk n he;split at C
          . rename_i r K;simp only[s5,s9]at C;obtain⟨rfl,rfl⟩:=C;have hi:=F _ _ J;rw[he]at hi;rw[Z2 hi];exact a1A hr (c7X h1 H (F _ _ I) K)
          . cases C
        . cases C
      . cases E
    . cases E
  . rename_i n e h1;split at E
    . rename_i s N aE H I J;split at E
      . cases E;simp only[A9]at C;split at C
        . rename_i kk m he;split at C
          . rename_i hm;split at C
            . rename_i r K;simp only[s5,s9]at C;obtain⟨rfl,rfl⟩:=C;have hi:=F _ _ J;rw[he]at hi;obtain⟨b,o,M,aa⟩:=c6E (F _ _ I) K;rw[Z2 hi,M];exact a3T hr (c8S h1 H hm.1 hm.2) aa
            . cases C
          . cases C
        . cases C
      . cases E
    . cases E
  . cases E
 case index t x i=>
  split at E
  . rename_i h1;split at E
    . rename_i N aE H I;cases E;simp only[A9]at C;split at C
      . rename_i kk m av af ag;split at C
        . rename_i hm;split at C
          . rename_i b J;simp only[s5,s9]at C;obtain⟨rfl,rfl⟩:=C;have hi:=F _ _ I;have S:=F _ _ H;rw[af]at hi;rw[ag]at S;rw[Z2 hi,a2O S];have K:av[m.toNat]?=some b:=by
             have a1:=(C0.1 J).1;have a2:m.toNat<av.size:=(by simpa using a1);rw[getElem?_pos av m.toNat a2];have M:=(C0.1 J).2;rw[←M];simp;rfl
            refine a3T hr ?_ a0J;simp[Instr.index,run_underlying h1,asIntOf,hm,K]
          . cases C
        . cases C
      . cases C
    . cases E
  . cases E
 case extract x i=>
  obtain⟨d,h1,rfl⟩:=C9.1 E;simp only[A9]at C;split at C
  . rename_i cs he;split at C
    . rename_i r H;simp only[s5,s9]at C;obtain⟨rfl,rfl⟩:=C;have L:=F _ _ h1;rw[he]at L;obtain⟨vs,I,J⟩:=a9j L;obtain⟨u,K,M⟩:=J.2 _ _ H;rw[I];exact a3T hr (by simp[Instr.extract,K]) M.up
    . cases C
  . cases C
 case makeFunc fn a b=>
  split at E
  . rename_i aA aN h1 H;cases E;simp only[A9]at C;split at C
    . rename_i aF;simp only[s5,s9]at C;obtain⟨rfl,rfl⟩:=C;have ah:∀{l:Array Operand} {m:List A6},N1 rd l.toList=some m→(m.map ac).all one=true→J4 (j9 G h w 5) (l.map ρ) (m.map ac):=fun{l m} hm ap=>by
       obtain⟨U,V⟩:=a5z hm;refine⟨by simpa using U,fun i c aG=>?_⟩;rw[H6]at aG;obtain⟨d,hd,rfl⟩:=C9.1 aG;have hi:i<l.toList.length:=(by grind);obtain⟨aH,Y,ai⟩:=V i _ (l9 hi);rw[hd]at Y;cases Y;refine⟨ρ l.toList[i],?_,one_cell (B5.1 ap _ (G7.2 ⟨d,D0 hd,rfl⟩)) (F _ _ ai)⟩;have a3:i<l.size:=(by simpa using hi);simp[a3]
      refine a3T hr (v:=.func fn (a.map ρ) (b.map ρ)) (by simp[Instr.makeFunc]) ?_;unfold D;unfold j9;exact⟨_,_,rfl,ah h1 aF.1,ah H aF.2⟩
    . cases C
  . cases E
 case call c=>
  obtain⟨callee,args,argTypes⟩:=c;cases callee<;>simp only[]at E
  case invoke=>cases E
  case value f=>
   cases f<;>simp only[]at E
   case func f=>
    split at E
    . split at E
      . cases E;simp[A9]at C
      . cases E
    . split at E
      . cases E;simp[A9]at C
      . cases E
   all_goals
    split at E
    . cases E;cases al<;>simp[A9]at C
    . cases E
  case builtin b=>
   have a4:∀n w',(builtin b argTypes type (args.map fun| .const _=>true|_=>false) (args.map ρ)).run P w=.ok n w'→(do let d ←resolve ρ {callee:=.builtin b,args:=args,argTypes:=argTypes} type;invoke d.target d.args:Sem Next).run P w=.ok n w':=fun n w' a5=>by simp only[resolve,N6,a1H,P5,invoke];exact a5
   have conv:∀{p ws},Good P B Z0 G h w (builtin b argTypes type (args.map fun| .const _=>true|_=>false) (args.map ρ)) p ws→Good P B Z0 G h w (do let d ←resolve ρ {callee:=.builtin b,args:=args,argTypes:=argTypes} type;invoke d.target d.args:Sem Next) p ws:=fun{p ws} ⟨n,v,w',G',g1,g2⟩=>⟨n,v,w',G',a4 n w' g1,g2⟩
   refine conv ?_
   generalize a6:args.toList=A at E;generalize a7:argTypes.toList=T at E;have a8:args=A.toArray:=(by rw[←a6]);have a9:argTypes=T.toArray:=(by rw[←a7]);subst a8 a9;unfold a8x at E;split at E
   ·
    rename_i x t;split at E
    . rename_i hu;obtain⟨d,h1,rfl⟩:=C9.1 E;simp only[A9]at C;split at C
      . rename_i n H;simp only[s5,s9]at C;obtain⟨rfl,rfl⟩:=C;exact a3h hr (by simp[builtin,c0p (P:=P) (t:=t) (ty:=type) (by simpa using hu) (F _ _ h1) H]) a0J
      . cases C
    . rename_i e hu;obtain⟨d,h1,rfl⟩:=C9.1 E;simp only[A9]at C;split at C
      . rename_i n H;simp only[s5,s9]at C;obtain⟨rfl,rfl⟩:=C;exact a3h hr (by simp[builtin,c0p (P:=P) (t:=t) (ty:=type) (by grind) (F _ _ h1) H]) a0J
      . cases C
    . cases E
   ·
    rename_i x xs t ts;split at E
    . rename_i ba aw hu h1;cases E;simp only[A9]at C;split at C
      . rename_i kk n r he;split at C
        . rename_i m H;simp only[s5,s9]at C;obtain⟨rfl,rfl⟩:=C;obtain⟨U,V⟩:=a5z h1;have ab:∀(i:Nat) p,(aw.map ac)[i]?=some p→∃v,((x::xs).map ρ)[i]?=some v∧j9 G h w D v p:=fun i p hp=>by
           rw[H6]at hp;obtain⟨d,hd,rfl⟩:=C9.1 hp;have hi:i<(x::xs).length:=(by grind);obtain⟨aH,Y,ai⟩:=V i _ (l9 hi);rw[hd]at Y;cases Y;exact⟨ρ (x::xs)[i],by rw[H6,l9 hi];rfl,F _ _ ai⟩
          rw[he]at ab;obtain⟨v0,aj,ax⟩:=ab 0 _ rfl;have S:ρ x=.int kk n:=(by simp at aj;rw[aj];exact Z2 ax);have ay:(xs.map ρ).length=r.length:=by have:=congrArg List.length he;simp at this U;simp;omega
          have ak:=b4H (P:=P) (mx:=false) (k:=kk) ay (fun i p hp=>ab (i+1) p (by simpa using hp)) H;refine a3h hr ?_ (a0J (k:=kk) (i:=m));simp[builtin,Builtin.min_,S];simp at ak;simp[ak]
        . cases C
      . cases C
    . cases E
   ·
    rename_i x xs t ts;split at E
    . rename_i ba aw hu h1;cases E;simp only[A9]at C;split at C
      . rename_i kk n r he;split at C
        . rename_i m H;simp only[s5,s9]at C;obtain⟨rfl,rfl⟩:=C;obtain⟨U,V⟩:=a5z h1;have ab:∀(i:Nat) p,(aw.map ac)[i]?=some p→∃v,((x::xs).map ρ)[i]?=some v∧j9 G h w D v p:=fun i p hp=>by
           rw[H6]at hp;obtain⟨d,hd,rfl⟩:=C9.1 hp;have hi:i<(x::xs).length:=(by grind);obtain⟨aH,Y,ai⟩:=V i _ (l9 hi);rw[hd]at Y;cases Y;exact⟨ρ (x::xs)[i],by rw[H6,l9 hi];rfl,F _ _ ai⟩
          rw[he]at ab;obtain⟨v0,aj,ax⟩:=ab 0 _ rfl;have S:ρ x=.int kk n:=(by simp at aj;rw[aj];exact Z2 ax);have ay:(xs.map ρ).length=r.length:=by have:=congrArg List.length he;simp at this U;simp;omega
          have ak:=b4H (P:=P) (mx:=true) (k:=kk) ay (fun i p hp=>ab (i+1) p (by simpa using hp)) H;refine a3h hr ?_ (a0J (k:=kk) (i:=m));simp[builtin,Builtin.max_,S];simp at ak;simp[ak]
        . cases C
      . cases C
    . cases E
   ·
    rename_i s x t u;split at E
    . rename_i e hu;split at E
      . rename_i sz bq z br N h1 H I J K;split at E
        . rename_i W;obtain⟨c1,c2,c3,c4,c5⟩:=W;obtain rfl:u=t:=c4;cases E;simp only[A9]at C;split at C
          . rename_i news au M;split at C
            case isFalse=>cases C
            . rename_i an;simp only[a9w,E7]at an;obtain⟨⟨bb,_⟩,bc⟩:=an;split at C
              . rename_i bd be aa;simp only[s5,s9]at C;obtain⟨rfl,rfl⟩:=C;have Q:=c5Q (P:=P) (ty:=type) hr (R _ (by simp[I1])) hu h1 H I c3 c1 c2 (F _ _ J) c5 (F _ _ K) M (by simpa using bc) (by simpa using bb) aa;simpa[builtin]using Q
              . cases C
          . cases C
        . split at E
          case isFalse=>cases E
          rename_i _ W;obtain⟨rfl,c2,c3,c4⟩:=W;have bf:z=.int .u8 0:=by
           unfold b5U at c3;split at c3
           . simp only[beq_iff_eq]at c3;rw[c3]
           . cases c3
          subst bf;unfold b7h at c4;split at c4
          case h_2=>cases c4
          rename_i bg;cases E;simp only[A9]at C;split at C
          . rename_i news au M;split at C
            case isFalse=>cases C
            . rename_i an;simp only[a9w,E7]at an;split at C
              . rename_i bd be aa;simp only[s5,s9]at C;obtain⟨rfl,rfl⟩:=C;have aI:=F _ _ K;unfold a1P at M;rw[if_pos rfl]at M;unfold a9x at M;split at M
                case h_2=>cases M
                rename_i aW bh;simp only[s5,s9]at M;obtain⟨rfl,rfl⟩:=M;rw[bh]at aI;have S:=a2O aI;have Q:=c7Z (P:=P) (ty:=type) hr (R _ (by simp[I1])) hu bg h1 H I c2 (F _ _ J) aa;simpa[builtin,S]using Q
              . cases C
          . cases C
      . cases E
    . cases E
   ·
    split at E
    . rename_i bi hu;split at E
      . rename_i sz d s h1 H I;split at E
        . rename_i h0;cases E;simp only[A9]at C;split at C
          . rename_i news au J;have Q:=fun u=>c2A (P:=P) (ty:=type) (u:=u) hr hu h1 h0 (F _ _ H) (F _ _ I) J C;simp[builtin]at Q⊢;exact Q _
          . cases C
        . cases E
      . cases E
    . cases E
   ·
    split at E
    . rename_i kt bs hu;obtain⟨d,h1,rfl⟩:=C9.1 E;have Q:=d2b (P:=P) (ty:=type) hr hu (F _ _ h1) C;simpa[builtin]using Q
    . rename_i bi hu;split at E
      . rename_i z d h1 H;split at E
        . rename_i h0;cases E;have Q:=c6B (P:=P) (ty:=type) hr hu h0.1 h1 h0.2.1 (F _ _ H) C;simpa[builtin]using Q
        . cases E
      . cases E
    . cases E
   . cases E
end
section
variable{v:Value}{Z':Nat→Prop}{k:Nat}{hide:List Nat}{p:PV}
def G0(Z:Nat→Prop):Gh:={β:=fun _=>0,R:=fun _=>False,γ:=fun _=>0,σ:=fun _=>0,Z:=Z}
section
variable{P:Program}{B:Nat}{Z0:Nat→Prop}{G G':Gh}{h h':Heap}{w w':World}
theorem c5c(hr:s6 B Z0 G h w)(E:∀b,G.Z b→Z' b){g s ver i j l:Nat}{fr:Bool}{es:List PV}{e:PV}{ns:List PV}(p:h[k]?=some (g,.arr s ver fr es))(he:es[i]?=some e)(q:(l6 e)[j]?=some (.uslc ns))(F:l≤ns.length)
 (H:∀y,G.R (k,y)→Z' (G.β (k,y))) (m:j9 G h w D v (.nown k g ver i j 0 l)):PR Z' w v (.slc (ns.take l)):=by
 unfold D at m;unfold j9 at m;obtain⟨a,c,rfl,I,r,J,gn,ob,z,aa,K⟩:=m;rw[p]at z;cases z;obtain⟨_,L⟩:=K rfl _ _ _ _ rfl;obtain⟨ab,A,ac,M,ad⟩:=L rfl;rw[a4t he q]at A;cases A;have hlen:(ns.take l).length=l:=F6;by_cases N:l=0
 . subst N;refine PR.U1.2 ⟨a,c,0,k8,k8,r,?_,fun i e he=>by simp at he⟩;rcases J with⟨_,h1⟩|⟨b,f,h1⟩
   . exact fun _=>h1
   . intro C;rw[h1]at C;cases C
 . obtain⟨ae,us,T,af,ag,ah,O⟩:=a3t hr p he;obtain⟨u0,ai,n⟩:=O j _ q;unfold G9 O2 at n;have o:G.R (nest k i j):=Classical.byContradiction fun P=>by
    obtain⟨_,rfl⟩:=n.2 P;simp at F;omega
   obtain⟨aj,T2,ak,al,_,_,am,an,ao,Q,ap,aq,R⟩:=n.1 o;obtain⟨f,rfl,ar⟩:=M o;have S:f=0:=j4;subst S;refine PR.U1.2 ⟨some ⟨G.β (nest k i j),0,none⟩,c,G.σ (nest k i j),by rw[hlen],by rw[hlen];exact I,r,fun e=>absurd e k8,fun a d hd=>?_⟩;have U:a<l:=(by grind);rw[a0H,if_pos U]at hd;obtain⟨V,W⟩:=R a d hd;refine⟨V,_,_,rfl,H _ o,fun t x X=>?_⟩;obtain⟨Y,u,p4,Z⟩:=W t x X;refine⟨Y,u,?_,Z.mono E fun _ _=>rfl⟩;rw[a1c Q,V5];exact p4
theorem b4L(hr:s6 B Z0 G h w)(q:∀b,G.Z b→Z' b){n:Nat}(x:a5t (l7 h hide) p=true→∀key,G.R key→Z' (G.β key))(F:(∀cs,p≠ .agg cs)∧(∀cs,p≠ .tup cs)∧∀f a b,p≠ .fn f a b)(r:j9 G h w n v p)(m:Nat):j9 (G0 Z') [] w m v (fzC (l7 h hide) p):=by
 have d:j9 G h w D v p:=r.cell F;cases p<;>simp only[fzC]<;>(try exact K6)
 case bool=>obtain rfl:=a0X r;exact a1o
 case int=>obtain rfl:=Z2 r;exact a0J
 case str=>obtain rfl:=a2O r;exact a5E
 case lit=>unfold D at d;unfold j9 at d;cases m<;>(unfold j9;exact d)
 case nils=>obtain rfl:=a0k r;exact a0N (PR.U1.2 ⟨none,0,0,rfl,p7 _,E0 _,fun _=>rfl,fun i e he=>by simp at he⟩)
 case ne=>
  unfold D at d;unfold j9 at d;obtain⟨b,o,rfl⟩:=d;exact a0N (PR.U1.2 ⟨some ⟨b,o,none⟩,0,0,rfl,p7 _,E0 _,fun _=>rfl,fun i e he=>by simp at he⟩)
 case slc es=>exact a0N ((a3n r).mono q fun _ _=>rfl)
 case M6 ks vs=>exact a7M ((a9p r).mono q fun _ _=>rfl)
 case fptr cs=>exact a4U ((a8T r).mono q fun _ _=>rfl)
 case own k g H s o l=>
  split
  . rename_i E s' ver fr es c;split
    . rename_i u;obtain⟨rfl,z,rfl,A⟩:=u;split
      . rename_i hp;have C:∀y,G.R (k,y)→Z' (G.β (k,y)):=fun y t=>by
         cases fr with
         |true=>exact q _ (hr.fz k _ _ (P6 c k8) rfl y t)
         |false=>exact x (by simp[a5t,c]) _ t
        exact a0N (c1G hr q (P6 c k8) z A hp C d)
      . split
        . rename_i hp;obtain⟨rfl,hp⟩:=hp;exact a0N (c8e hr q (P6 c k8) z A hp (x (by simp[a5t,c])) d)
        . exact K6
    . exact K6
  . exact K6
 case osl k g H s o l=>
  split
  . rename_i E s' ver fr es c;split
    . rename_i u;obtain⟨rfl,z,rfl,A,hp⟩:=u;have C:∀y,G.R (k,y)→Z' (G.β (k,y)):=fun y t=>by
       cases fr with
       |true=>exact q _ (hr.fz k _ _ (P6 c k8) rfl y t)
       |false=>exact x (by simp[a5t,c]) _ t
      exact a0N (b1t hr q (P6 c k8) z A hp C d)
    . exact K6
  . exact K6
 case nown k g ver i j o l=>
  split
  . rename_i E s' ver' fr es c;split
    . rename_i u;obtain⟨rfl,rfl⟩:=u;split
      . rename_i e he;split
        . rename_i ns I;split
          . rename_i J;obtain⟨rfl,K⟩:=J;exact a0N (c5c hr q (P6 c k8) he I K (fun y t=>x rfl _ t) d)
          . exact K6
        . exact K6
      . exact K6
    . exact K6
  . exact K6
theorem c5U(hr:s6 B Z0 G h w)(y:∀b,G.Z b→Z' b)(A:a5t (l7 h hide) p=true→∀key,G.R key→Z' (G.β key))(H:(∀cs,p≠ .agg cs)∧(∀cs,p≠ .tup cs)∧∀f a b,p≠ .fn f a b)(m:j9 G h w D v p):j9 (G0 Z') [] w D v (fzP (l7 h hide) p):=by
 cases p<;>simp only[fzP]
 case ptr k g o=>
  have q:=A rfl;split
  . rename_i I cs C;split
    . rename_i d;obtain⟨rfl,hp⟩:=d;have t:=P6 C k8;unfold D at m;unfold j9 at m;obtain⟨b,rfl,gn,ob,h1,J,E⟩:=m;rw[t]at h1;cases h1;obtain rfl:=E rfl cs rfl;obtain⟨z,us,T,K,X,L⟩:=hr.ob k _ _ t;refine a4U (PR.a3f.2 ⟨_,o,rfl,q _ z,fun j c d=>?_⟩);rw[H6]at d;obtain⟨c0,n,rfl⟩:=C9.1 d;rw[a2U]at n;obtain⟨u,M,N,O⟩:=L _ _ n;have l:=B5.1 hp _ (G7.2 ⟨c0,D0 (by rw[a2U];exact n),rfl⟩);refine⟨a3C l,u,by rw[a1c K];exact M,a4D (G:=G0 Z') l (b4L (hide:=hide) hr y (fun _=>q) (b1H (b8x N fun f a b e=>by subst e;simp[fzC,A7]at l)) O D)⟩
    . exact K6
  . exact K6
 case eptr k g Y s i j=>
  have q:=A rfl;split
  . rename_i I s' ver fr es C;split
    . rename_i d;obtain⟨rfl,P,rfl,rfl⟩:=d;split
      . rename_i e he;split
        . rename_i hp;have t:=P6 C k8;unfold D at m;unfold j9 at m;obtain⟨b,f,rfl,gn,ob,h1,J,E⟩:=m;rw[t]at h1;cases h1;obtain⟨Z,Q⟩:=E rfl _ _ _ _ rfl;obtain⟨rfl,F,aa⟩:=Q P;have F:=F rfl;subst F;obtain⟨ab,ac,ad,R,ae⟩:=hr.ob k _ _ t;by_cases z:G.R (root k)
          . obtain⟨us,T,S,af,U⟩:=R z;obtain⟨ag,V⟩:=U i e he;refine a4U (PR.a3f.2 ⟨_,_,rfl,q _ z,fun j c d=>?_⟩);rw[H6]at d;obtain⟨c0,n,rfl⟩:=C9.1 d;have l:=B5.1 hp _ (G7.2 ⟨c0,D0 n,rfl⟩);obtain⟨u,W,x⟩:=V j c0 n;refine⟨a3C l,u,by rw[a1c S,a4d];exact W,?_⟩;cases c0<;>simp only[K5]at l⊢ <;>(try (simp[A7]at l;done))
            case uslc ns=>exact b7L y (fun r=>q _ r) x
            case nils=>
             unfold G9 at x;obtain rfl:=a0k x.2;exact PR.U1.2 ⟨none,0,0,rfl,p7 _,E0 _,fun _=>rfl,fun i e he=>by simp at he⟩
            all_goals
             unfold G9 at x;exact(a4D l x.2).mono y fun _ _=>rfl
          grind
        . exact K6
      . exact K6
    . exact K6
  . exact K6
 all_goals exact b4L (hide:=hide) hr y A H m D
theorem d0b(hr:s6 B Z0 G h w)(d:∀b,G.Z b→Z' b)(f:a1K (l7 h hide) p=true→∀key,G.R key→Z' (G.β key))(g:j9 G h w D v p):j9 (G0 Z') [] w D v (fzV (l7 h hide) p):=by
 cases p
 case agg cs=>
  obtain⟨vs,rfl,h1,l⟩:=a5w g;refine a6Q ⟨by simpa using h1,fun i c j=>?_⟩;rw[H6]at j;obtain⟨c0,k,rfl⟩:=C9.1 j;obtain⟨u,m,n⟩:=l i c0 k;refine⟨u,m,?_⟩;have hu:∀(c:PV),fzC (l7 h hide) c=.uu→j9 (G0 Z') [] w 5 u (fzC (l7 h hide) c):=fun c e=>by rw[e];exact K6
  cases c0
  case agg|tup|fn=>exact K6
  all_goals exact b4L (hide:=hide) hr d (fun a=>f (List.any_eq_true.2 ⟨_,D0 k,a⟩)) (by grind) n 5
 case tup|fn=>exact K6
 all_goals exact c5U (hide:=hide) hr d (fun a=>f (by simpa[a1K,l6]using a)) (by grind) g
end
def a0Y(szs:List Nat)(p:Nat):Nat×Nat:=(p,szs.getD p 0)
def X2(szs:List Nat)(r:PV):Heap:=p8 (List.replicate (B4 r).length (0,.dead)) (I3 (a0Y szs) (fun _=>1) 0 (B4 r))
def a1q(P:Program)(f:FuncId):Bool:=match P.funcs[f]? with
 |some fn=>!(fn.name== "runtime.NumGoroutine")&&fn.body.isSome
 |none=>false
def Fn(P:Program)(f:FuncId)(szs:List Nat)(args:List PV)(r:PV):Prop:=
 a1q P f=true∧∀(w:World) (Z:Nat→Prop) (a:Array Value),(∀b,Z b→U8 w b)→J4 (j9 (G0 Z) [] w D) a args→
  Calls P f a w fun e w'=>∃v G,e=.returned v∧Bl w.heap.size w w'∧s6 w.heap.size Z G (X2 szs r) w'∧j9 G (X2 szs r) w' D v (T4 (a0Y szs) (fun _=>1) r)
def FI(P:Program)(v:PV)(args:List PV)(h:Heap)(r:PV)(ws:List (Nat×Row)):Prop:=
 ∃f first cap,v=.fn (.func f) first cap∧a1q P f=true∧(first.all one&&cap.all one)=true∧∀(B:Nat) (Z0:Nat→Prop) (G:Gh) (w:World) (a b c:Array Value),s6 B Z0 G h w→J4 (j9 G h w D) a first→J4 (j9 G h w D) b args→J4 (j9 G h w D) c cap→
  Calls P f (a++b++c) w fun e w'=>∃u G',e=.returned u∧s6 B Z0 G' (p8 h ws) w'∧Ext G h w G' (p8 h ws) w'∧j9 G' (p8 h ws) w' D u r∧Bl B w w'
def fz(ρ:Option Nat):Fence:={Fence.wide with round:=ρ}
def ItR(B:Nat)(Z0:Nat→Prop)(b:Option O4→Gh→Heap→World→Prop)(k:Option O4→Heap→Prop)(G:Gh)(h:Heap)(w:World):Ending→World→Prop:=fun e w'=>
 ∃p h' G',e=.returned (.bool p.isNone)∧k p h'∧s6 B Z0 G' h' w'∧Ext G h w G' h' w'∧b p G' h' w'∧w.heap.size≤w'.heap.size∧∀m a,a0p m a w→a0p m a w'
def IT(P:Program)(v:PV)(Y:YT)(h:Heap)(K:Option O4→Heap→Prop):Prop:=
 ∃f cap,v=.fn (.func f) [] cap∧a1q P f=true∧cap.all one=true∧∀(B:Nat) (Z0:Nat→Prop) (G:Gh) (w:World) (b:Array Value) (l:Nat) (a:Option O4→Gh→Heap→World→Prop),
  s6 B Z0 G h w→J4 (j9 G h w D) b cap→
  (∀{p:Option O4} {G:Gh} {h:Heap} {w:World} {G':Gh} {h':Heap} {w':World},a p G h w→Ext G h w G' h' w'→Bl B w w'→a p G' h' w')→
  (∀{Z1:Nat→Prop} {p:Option O4} {G:Gh} {h:Heap} {w1 w2:World},s6 B Z1 G h w1→a p G h w1→Y5 w.heap.size w1 w2→a p G h w2)→
  (∀{args:List PV} {h1:Heap} {k:Option O4→Heap→Prop},Y args h1 k→∀{G1:Gh} {w1:World} {c:Array Value},s6 B Z0 G1 h1 w1→a none G1 h1 w1→J4 (j9 G1 h1 w1 D) c args→∀n,YieldAt (fz none) n P l c w1 (ItR B Z0 a k G1 h1 w1))→
  a none G h w→
  Calls P f (#[.func (.yield l) #[] #[]]++b) w fun e w'=>∃u p h' G',e=.returned u∧K p h'∧s6 B Z0 G' h' w'∧Ext G h w G' h' w'∧a p G' h' w'
theorem IT.mono{P:Program}{v:PV}{Y:YT}{h:Heap}{K K':Option O4→Heap→Prop}(g:∀p h,K p h→K' p h)(hi:IT P v Y h K):IT P v Y h K':=by
 obtain⟨f,cap,h1,a,b,c⟩:=hi;refine⟨f,cap,h1,a,b,fun B Z0 G w d l e a1 a2 a3 a4 a5 a6=>(c B Z0 G w d l e a1 a2 a3 a4 a5 a6).mono ?_⟩
 grind
def fyI(P:Program):PV→List PV→List PV→Heap→(PV→List PV→Heap→Prop)→Prop:=fun v args vars h K=>∃r ws,FI P v args h r ws∧K r vars (p8 h ws)
abbrev fns(P:Program):N0:=⟨Fn P,FI P,fyI P,IT P,fun a ⟨r,ws,h1,b⟩=>⟨r,ws,h1,a _ _ _ b⟩,fun a h=>h.mono a⟩
section
variable{P:Program}{B:Nat}{Z0:Nat→Prop}{G G':Gh}{h h':Heap}{w w':World}
theorem b0R{ks:Nat→Nat×Nat}{gen:Nat→Nat}:∀{cells:List PV} {q:Nat} {x:Nat×Row},x∈I3 ks gen q cells→∃i es,cells[i]?=some (.uslc es)∧x=((ks (q+i)).1,(gen (ks (q+i)).1,.arr (ks (q+i)).2 0 false es))
 | [],q,x,a=>by simp[I3]at a
 |c::cells,q,x,a=>by
  have rest:x∈I3 ks gen (q+1) cells→∃i es,(c::cells)[i]?=some (.uslc es)∧x=((ks (q+i)).1,(gen (ks (q+i)).1,.arr (ks (q+i)).2 0 false es)):=fun a=>by obtain⟨i,es,h1,b⟩:=b0R a;exact⟨i+1,es,by simpa using h1,by rw[b,show q+(i+1)=q+1+i by omega]⟩
  cases c<;>simp only[I3]at a<;>(try exact rest a)
  case uslc es=>
   rcases Y8.1 a with rfl|a
   . exact⟨0,es,rfl,rfl⟩
   . exact rest a
theorem a5Q{ks:Nat→Nat×Nat}{gen:Nat→Nat}:∀{cells:List PV} {q i:Nat} {es:List PV},cells[i]?=some (.uslc es)→((ks (q+i)).1,(gen (ks (q+i)).1,Ob.arr (ks (q+i)).2 0 false es))∈I3 ks gen q cells
 | [],q,i,es,hi=>by simp at hi
 |c::cells,q,0,es,hi=>by simp at hi;subst hi;simp[I3]
 |c::cells,q,i+1,es,hi=>by have:=a5Q (ks:=ks) (gen:=gen) (q:=q+1) (show cells[i]?=some (.uslc es)by simpa using hi);rw[show q+(i+1)=q+1+i by omega];cases c<;>simp only[I3]<;>first|exact this|exact a4i _ this
theorem a4V:∀{l:List Nat},a2u l=true→l.Nodup
 | [],_=>List.nodup_nil
 |k::l,a=>by simp only[a2u,E7]at a;refine a4K.2 ⟨by simpa using a.1,a4V a.2⟩
theorem b3X:∀{ws:List (Nat×Row)} {h:Heap} {k:Nat} {r:Row},(ws.map (·.1)).Nodup→(k,r)∈ws→k<h.length→(p8 h ws)[k]?=some r
 | [],h,k,r,_,hm,_=>by simp at hm
 |x::ws,h,k,r,a,hm,b=>by
  simp only[a0s,a4K]at a;rw[show p8 h (x::ws)=p8 (h.set x.1 x.2) ws from rfl];rcases Y8.1 hm with rfl|hm
  . rw[a5S ws _ _ a.1,E8 b]
  . exact b3X a.2 hm (by simpa using b)
theorem c1x{szs:List Nat}:∀(cells:List PV) (q:Nat),((I3 (a0Y szs) (fun _=>1) q cells).map (·.1)).Nodup∧∀k∈(I3 (a0Y szs) (fun _=>1) q cells).map (·.1),q≤k
 | [],q=>by simp[I3]
 |c::cells,q=>by
  obtain⟨h1,b⟩:=c1x (szs:=szs) cells (q+1);cases c<;>simp only[I3]<;>(try exact⟨h1,fun k a=>by have:=b k a;omega⟩);refine⟨?_,fun k a=>?_⟩
  . simp only[a0s,a4K];exact⟨fun hm=>by have:=b _ hm;simp[a0Y]at this;omega,h1⟩
  . simp only[a0s,Y8]at a;rcases a with rfl|a
    all_goals grind
theorem a8Z{szs:List Nat}{r:PV}{p:Nat}{es:List PV}(hp:(B4 r)[p]?=some (.uslc es)):(X2 szs r)[p]?=some (1,.arr (szs.getD p 0) 0 false es):=by have hm:=a5Q (ks:=a0Y szs) (gen:=fun _=>1) (q:=0) hp;unfold X2;have:=b3X (h:=List.replicate (B4 r).length (0,Ob.dead)) (c1x _ 0).1 hm (by simpa[a0Y]using(C0.1 hp).1);simpa[a0Y]using this
noncomputable def P3(ks:Nat→Nat×Nat)(cells:List PV)(k:Nat):Option Nat:=
 @dite _ (∃p es,cells[p]?=some (.uslc es)∧(ks p).1=k) (Classical.propDecidable _) (fun a=>some a.choose) fun _=>none
theorem c2F{ks:Nat→Nat×Nat}{cells:List PV}{p:Nat}(hj:P3 ks cells k=some p):∃es,cells[p]?=some (.uslc es)∧(ks p).1=k:=by
 unfold P3 at hj;split at hj
 . grind
 . cases hj
theorem b9O{ks:Nat→Nat×Nat}{cells:List PV}(hj:P3 ks cells k=none):∀p es,cells[p]?=some (.uslc es)→(ks p).1≠k:=by
 unfold P3 at hj;split at hj
 . cases hj
 . grind
theorem b7Y{ks:Nat→Nat×Nat}{gen:Nat→Nat}:∀{cells:List PV} {q:Nat},((I3 ks gen q cells).map (·.1)).Nodup→∀{i j:Nat} {es es':List PV},cells[i]?=some (.uslc es)→cells[j]?=some (.uslc es')→(ks (q+i)).1=(ks (q+j)).1→i=j
 | [],q,_,i,j,es,es',hi,_,_=>by simp at hi
 |c::cells,q,a,i,j,es,es',hi,hj,he=>by
  have tail:((I3 ks gen (q+1) cells).map (·.1)).Nodup:=by cases c<;>simp only[I3]at a<;>first|exact a|(simp only[a0s,a4K]at a;exact a.2)
  cases i with
  |zero=>
   cases j with
   |zero=>rfl
   |succ j=>
    exfalso;simp at hi;subst hi;simp only[I3,a0s,a4K]at a;apply a.1;have:=a5Q (ks:=ks) (gen:=gen) (q:=q+1) (show cells[j]?=some (.uslc es')by simpa using hj);refine G7.2 ⟨_,this,?_⟩;rw[show q+1+j=q+(j+1)by omega];exact he.symm
  |succ i=>
   cases j with
   |zero=>
    exfalso;simp at hj;subst hj;simp only[I3,a0s,a4K]at a;apply a.1;have:=a5Q (ks:=ks) (gen:=gen) (q:=q+1) (show cells[i]?=some (.uslc es)by simpa using hi);refine G7.2 ⟨_,this,?_⟩;rw[show q+1+i=q+(i+1)by omega];exact he
   |succ j=>
    have:=b7Y (q:=q+1) tail (show cells[i]?=some (.uslc es)by simpa using hi) (show cells[j]?=some (.uslc es')by simpa using hj) (by grind);omega
noncomputable def Gh.a1p(G G':Gh)(n:Nat)(a:Nat→Option Nat):Gh:=
 {β:=fun key=>match a key.1 with|some p=>G'.β (p,key.2)|none=>G.β key
  R:=fun key=>match a key.1 with|some p=>G'.R (p,key.2)|none=>G.R key
  γ:=fun key=>match a key.1 with|some p=>G'.γ (p,key.2)|none=>G.γ key
  σ:=fun key=>match a key.1 with|some p=>G'.σ (p,key.2)|none=>G.σ key
  Z:=fun b=>G.Z b∨(G'.Z b∧n≤b)}
theorem b0I(ks:Nat→Nat×Nat)(gen:Nat→Nat):∀(cs:List PV) (q i:Nat),(a0K ks gen q cs)[i]?=(cs[i]?).map (M5 (ks (q+i)) gen)
 | [],q,i=>by simp[a0K]
 |c::cs,q,0=>by simp[a0K]
 |c::cs,q,i+1=>by simp[a0K,b0I ks gen cs (q+1) i];rw[show q+(i+1)=q+1+i by omega]
theorem b3H(ks:Nat→Nat×Nat)(gen:Nat→Nat):∀(cs:List PV) (q:Nat),(a0K ks gen q cs).length=cs.length
 | [],q=>rfl
 |c::cs,q=>by simp[a0K,b3H ks gen cs (q+1)]
section
variable{k1 k2:Nat→Nat×Nat}{g1 g2:Nat→Nat}{cells:List PV}
theorem b9q(b:∀{n:Nat} {u:Value} {p:Nat} {c:PV},cells[p]?=some c→j9 G h w n u (M5 (k1 p) g1 c)→j9 G' h' w' n u (M5 (k2 p) g2 c)){n q:Nat}{c:PV}
 (d:∀(i:Nat) x,(l6 c)[i]?=some x→cells[q+i]?=some x) (a:j9 G h w n v (a2i k1 g1 q c)):j9 G' h' w' n v (a2i k2 g2 q c):=by
 cases c
 case agg cs=>
  simp only[a2i]at a⊢;cases n with
  |zero=>unfold j9 at a;exact a.elim
  |succ n=>
   unfold j9 at a⊢;obtain⟨vs,rfl,h1,f⟩:=a;refine⟨vs,rfl,by rw[b3H]at h1⊢;exact h1,fun i c hi=>?_⟩;rw[b0I]at hi;obtain⟨c0,e,rfl⟩:=C9.1 hi;obtain⟨u,g,j⟩:=f i (M5 (k1 (q+i)) g1 c0) (by rw[b0I,e];rfl);exact⟨u,g,b (d i c0 e) j⟩
 all_goals exact b (d 0 _ rfl) a
theorem b5P(b:∀{n:Nat} {u:Value} {p:Nat} {c:PV},cells[p]?=some c→j9 G h w n u (M5 (k1 p) g1 c)→j9 G' h' w' n u (M5 (k2 p) g2 c)){n:Nat}:∀{vs:List PV} {q:Nat} {U:Nat→Option Value},
 (∀(i:Nat) x,(vs.flatMap l6)[i]?=some x→cells[q+i]?=some x)→(∀(i:Nat) p,(a1z k1 g1 q vs)[i]?=some p→∃u,U i=some u∧j9 G h w n u p)→∀(i:Nat) p,(a1z k2 g2 q vs)[i]?=some p→∃u,U i=some u∧j9 G' h' w' n u p
 | [],q,U,_,_,i,p,hp=>by simp[a1z]at hp
 |c::vs,q,U,d,e,i,p,hp=>by
  simp only[a1z]at hp;cases i with
  |zero=>
   simp at hp;subst hp;obtain⟨u,h1,f⟩:=e 0 _ (by simp[a1z];rfl);refine⟨u,h1,b9q b (fun i x a=>d i x ?_) f⟩;rw[a2Z,a1k (C0.1 a).1];exact a
  |succ i=>
   refine b5P b (vs:=vs) (q:=q+(l6 c).length) (U:=fun i=>U (i+1)) (fun i x a=>?_) (fun i p hp=>e (i+1) p (by simpa[a1z]using hp)) i p (by simpa using hp);rw[Nat.add_assoc];refine d _ x ?_;rw[a2Z,a4f j4,Nat.add_sub_cancel_left];exact a
theorem b1I(ks:Nat→Nat×Nat)(gen:Nat→Nat):∀(cs:List PV) (q:Nat),(a1z ks gen q cs).length=cs.length
 | [],q=>rfl
 |c::cs,q=>by simp[a1z,b1I ks gen cs _]
end
theorem b6f{k1 k2:Nat→Nat×Nat}{g1 g2:Nat→Nat}{r:PV}(d:∀{n:Nat} {u:Value} {p:Nat} {c:PV},(B4 r)[p]?=some c→j9 G h w n u (M5 (k1 p) g1 c)→j9 G' h' w' n u (M5 (k2 p) g2 c))(a:j9 G h w D v (T4 k1 g1 r)):j9 G' h' w' D v (T4 k2 g2 r):=by
 cases r
 case tup vs=>
  simp only[T4]at a⊢;obtain⟨us,rfl,h1,e⟩:=a9j a;unfold D;unfold j9;refine⟨us,rfl,by rw[b1I]at h1⊢;exact h1,b5P (cells:=B4 (.tup vs)) d (q:=0) (U:=fun i=>us[i]?) (fun i x b=>by rw[V5];exact b) e⟩
 all_goals exact b9q (cells:=B4 _) d (q:=0) (fun i x b=>by rw[V5];simpa[B4,U2]using b) a
theorem a1p(hr:s6 B Z0 G h w)(hb:Bl w.heap.size w w'){szs:List Nat}{r:PV}{v:Value}{Z':Nat→Prop}(E:s6 w.heap.size Z' G' (X2 szs r) w')(ac:j9 G' (X2 szs r) w' D v (T4 (a0Y szs) (fun _=>1) r))
 (ad:∀b,G'.Z b→G.Z b∨w.heap.size≤b) {ks:Nat→Nat×Nat} {gen:Nat→Nat} (ae:rOk r=true) (V:((I3 ks gen 0 (B4 r)).map (·.1)).Nodup) (af:∀p es,(B4 r)[p]?=some (.uslc es)→(ks p).2=szs.getD p 0)
 (W:∀p es,(B4 r)[p]?=some (.uslc es)→∃o,h[(ks p).1]?=some (gen (ks p).1-1,o)∧0<gen (ks p).1):
 ∃G'',s6 B Z0 G'' (p8 h (I3 ks gen 0 (B4 r))) w'∧Ext G h w G'' (p8 h (I3 ks gen 0 (B4 r))) w'∧j9 G'' (p8 h (I3 ks gen 0 (B4 r))) w' D v (T4 ks gen r)∧Bl B w w':=by
 have I:∀{k p},P3 ks (B4 r) k=some p→(ks p).1=k∧∃es,(B4 r)[p]?=some (.uslc es):=fun hj=>by obtain⟨es,h1,z⟩:=c2F hj;exact⟨z,es,h1⟩
 have ag:∀{p es},(B4 r)[p]?=some (.uslc es)→P3 ks (B4 r) (ks p).1=some p:=fun{p es} hp=>by
  cases hj:P3 ks (B4 r) (ks p).1 with
  |none=>exact absurd rfl (b9O hj p es hp)
  |some aY=>
   obtain⟨h1,es',z⟩:=I hj;rw[b7Y V z hp (by grind)]
 have L:∀{p es},(B4 r)[p]?=some (.uslc es)→(p8 h (I3 ks gen 0 (B4 r)))[(ks p).1]?=some (gen (ks p).1,.arr (ks p).2 0 false es):=fun{p es} hp=>by have hm:=a5Q (ks:=ks) (gen:=gen) (q:=0) hp;rw[V5]at hm;obtain⟨o,s,_⟩:=W p es hp;exact b3X V hm (C0.1 s).1
 have M:∀{k},P3 ks (B4 r) k=none→(p8 h (I3 ks gen 0 (B4 r)))[k]?=h[k]?:=fun{k} hj=>by refine a5S _ _ _ fun hm=>?_;obtain⟨x,ah,rfl⟩:=G7.1 hm;obtain⟨i,es,h1,z⟩:=b0R ah;rw[z]at hj;exact b9O hj i es h1 (by grind)
 have C:∀{k y},P3 ks (B4 r) k=none→C8 G (G.a1p G' w.heap.size (P3 ks (B4 r))) (k,y):=fun{k y} hj=>by refine⟨?_,?_,?_,?_⟩<;>simp only[Gh.a1p,hj]
 have F:∀{k p y},P3 ks (B4 r) k=some p→(G.a1p G' w.heap.size (P3 ks (B4 r))).β (k,y)=G'.β (p,y)∧((G.a1p G' w.heap.size (P3 ks (B4 r))).R (k,y)↔G'.R (p,y))∧(G.a1p G' w.heap.size (P3 ks (B4 r))).γ (k,y)=G'.γ (p,y)∧(G.a1p G' w.heap.size (P3 ks (B4 r))).σ (k,y)=G'.σ (p,y):=fun{k p y} hj=>by refine⟨?_,?_,?_,?_⟩<;>simp only[Gh.a1p,hj]
 have x:Ext G h w (G.a1p G' w.heap.size (P3 ks (B4 r))) (p8 h (I3 ks gen 0 (B4 r))) w':=by
  refine⟨fun _ y=>.inl y,fun b N=>hb.block b (hr.zb b N).lt,fun k gn ob e=>?_⟩;cases hj:P3 ks (B4 r) k with
  |none=>exact⟨gn,ob,(M hj).trans e,p7 _,fun _=>K7.refl k ob (C hj) fun i j=>C hj⟩
  |some p=>
   obtain⟨rfl,es,hp⟩:=I hj;obtain⟨o,s,h0⟩:=W p es hp;rw[s]at e;cases e;exact⟨_,_,L hp,j4,fun e=>j4⟩
 have K:∀b,G'.Z b→(G.a1p G' w.heap.size (P3 ks (B4 r))).Z b:=fun b N=>(ad b N).imp id fun h1=>⟨N,h1⟩
 have ai:∀{p k i j u c es},(B4 r)[p]?=some (.uslc es)→P3 ks (B4 r) k=some p→(A7 c||I7 c)=true→G9 G' (X2 szs r) w' p i j u c→G9 (G.a1p G' w.heap.size (P3 ks (B4 r))) (p8 h (I3 ks gen 0 (B4 r))) w' k i j u c:=fun{p k i j u c es} hp hj P d=>by
  cases c
  case uslc ns=>
   unfold G9 O2 at d⊢;obtain⟨a1,a2,a3,a4⟩:=F (y:=some (i,j)) hj;rw[a1,a2,a3,a4];refine⟨fun aj=>?_,d.2⟩;obtain⟨us,T,f,ak,al,am,an,ao,ap,aq,ar,au,av⟩:=d.1 aj;refine⟨us,T,f,ak,al,am,an,ao,ap,aq,ar,au,fun a e he=>?_⟩;obtain⟨m1,m2⟩:=av a e he;refine⟨m1,fun t c d=>?_⟩;obtain⟨m3,aw,m4,m5⟩:=m2 t c d;exact⟨m3,aw,m4,m5.mono K fun _ _=>rfl⟩
  case nils=>
   unfold G9 at d⊢;obtain rfl:=a0k d.2;exact⟨rfl,a4R⟩
  all_goals
   unfold G9 at d⊢
   first
    |exact⟨d.1,a1x d.1 ((a4D (by simpa[I7]using P) d.2).mono K fun _ _=>rfl)⟩
 have X:B≤w.heap.size:=hr.base;refine⟨_,⟨U3 X hb.size,?_,?_,?_,?_,?_,?_,?_⟩,x,?_,hb.mono X⟩
 . rintro b (h1|⟨h1,z⟩)
   . exact hr.zo b h1
   . exact .inr j4
 . rintro b (h1|⟨h1,z⟩)
   . exact(hr.zb b h1).eq (hb.block b (hr.zb b h1).lt)
   . exact E.zb b h1
 . rintro⟨k,y⟩ l;cases hj:P3 ks (B4 r) k with
   |none=>
    obtain⟨a1,a2,_⟩:=C (y:=y) hj;obtain⟨H,A⟩:=hr.lv _ (a2.1 l);rw[a1];exact⟨H,A.eq (hb.block _ A.lt)⟩
   |some p=>
    obtain⟨a1,a2,_⟩:=F (y:=y) hj;obtain⟨H,A⟩:=E.lv _ (a2.1 l);rw[a1];exact⟨j4,A⟩
 . rintro k g o s ax y l;cases hj:P3 ks (B4 r) k with
   |none=>
    obtain⟨a1,a2,_⟩:=C (y:=y) hj;rw[M hj]at s;rw[a1];rintro(h1|⟨h1,z⟩)
    . exact hr.nz k g o s ax y (a2.1 l) h1
    . have:=(hr.lv _ (a2.1 l)).2.lt;omega
   |some p=>
    obtain⟨rfl,es,hp⟩:=I hj;obtain⟨a1,a2,_⟩:=F (y:=y) hj;rw[a1];have ay:=E.nz p 1 _ (a8Z hp) rfl y (a2.1 l);rintro(h1|⟨h1,z⟩)
    . have:=(hr.zb _ h1).lt;have:=(E.lv _ (a2.1 l)).1;omega
    . exact ay h1
 . rintro k g o s Y y l;cases hj:P3 ks (B4 r) k with
   |none=>
    obtain⟨a1,a2,_⟩:=C (y:=y) hj;rw[M hj]at s;rw[a1];exact .inl (hr.fz k g o s Y y (a2.1 l))
   |some p=>
    obtain⟨rfl,es',hp⟩:=I hj;rw[L hp]at s;cases s;cases Y
 . rintro⟨k1,Z⟩ ⟨k2,O⟩ h1 z he;cases Q:P3 ks (B4 r) k1 with
   |none=>
    obtain⟨a1,a2,_⟩:=C (y:=Z) Q;cases J:P3 ks (B4 r) k2 with
    |none=>
     obtain⟨H,A,_⟩:=C (y:=O) J;exact hr.inj _ _ (a2.1 h1) (A.1 z) j4
    |some az=>
     obtain⟨H,A,_⟩:=F (y:=O) J;have R:=(hr.lv _ (a2.1 h1)).2.lt;have S:=(E.lv _ (A.1 z)).1;rw[a1,H]at he;omega
   |some aZ=>
    obtain⟨a1,a2,_⟩:=F (y:=Z) Q;cases J:P3 ks (B4 r) k2 with
    |none=>
     obtain⟨H,A,_⟩:=C (y:=O) J;have R:=(hr.lv _ (A.1 z)).2.lt;have S:=(E.lv _ (a2.1 h1)).1;rw[a1,H]at he;omega
    |some az=>
     obtain⟨H,A,_⟩:=F (y:=O) J;have:=E.inj _ _ (a2.1 h1) (A.1 z) j4;simp only[s9]at this;obtain⟨rfl,rfl⟩:=this;obtain⟨rfl,_⟩:=I Q;obtain⟨aA,_⟩:=I J;rw[aA]
 . rintro k g o s;cases hj:P3 ks (B4 r) k with
   |none=>
    rw[M hj]at s;exact(hr.ob k g o s).ext x (fun y=>C hj) fun y l=>hb.block _ (hr.lv _ l).2.lt
   |some p=>
    obtain⟨rfl,es,hp⟩:=I hj;rw[L hp]at s;cases s;have aa:=E.ob p 1 _ (a8Z hp);have P:es.all D9=true:=by have:=B5.1 ae _ (D0 hp);simpa using this
    rw[af p es hp];unfold F7 at aa⊢;obtain⟨a1,a2,a3,a4⟩:=F (y:=none) hj;rw[show(G.a1p G' w.heap.size (P3 ks (B4 r))).β (root (ks p).1)=G'.β (root p)from a1,show(G.a1p G' w.heap.size (P3 ks (B4 r))).γ (root (ks p).1)=G'.γ (root p)from a3];obtain⟨aB,aC,aD,aE,aF⟩:=aa;refine⟨aB,aC,aD,fun l=>?_,fun l=>aF fun y=>l (a2.2 y)⟩;obtain⟨us,T,aG,aH,aI⟩:=aE (a2.1 l);refine⟨us,T,aG,aH,fun i e he=>?_⟩;obtain⟨aJ,aK⟩:=aI i e he;refine⟨aJ,fun j c d=>?_⟩;obtain⟨u,aL,aM⟩:=aK j c d;have aN:(A7 c||I7 c)=true:=B5.1 (show(l6 e).all (fun c=>A7 c||I7 c)=true from B5.1 P e (D0 he)) c (D0 d);exact⟨u,aL,ai hp hj aN aM⟩
 ·
  refine b6f (fun{n u p c} hp d=>?_) ac;cases c<;>simp only[M5]at d⊢ <;>(try exact K6)
  case bool=>obtain rfl:=a0X d;exact a1o
  case int=>obtain rfl:=Z2 d;exact a0J
  case str=>obtain rfl:=a2O d;exact a5E
  case nils=>obtain rfl:=a0k d;exact a4R
  case lit=>cases n<;>(unfold j9 at d⊢;exact d)
  case slc es=>exact a0N ((a3n d).mono K fun _ _=>rfl)
  case M6 ks vs=>exact a7M ((a9p d).mono K fun _ _=>rfl)
  case fptr cs=>exact a4U ((a8T d).mono K fun _ _=>rfl)
  case uslc es=>
   have hj:=ag hp;have goal:j9 (G.a1p G' w.heap.size (P3 ks (B4 r))) (p8 h (I3 ks gen 0 (B4 r))) w' D u (.own (ks p).1 (gen (ks p).1) es.length (ks p).2 0 es.length):=by have U:=j9.cell (m:=D) (by grind) d;unfold D at U⊢;unfold j9 at U⊢;obtain⟨a,c,aO,R,S,aP,gn,ob,ab,a0,aQ⟩:=U;refine⟨a,c,aO,R,S,aP,_,_,L hp,p7 _,fun _ sz vr fr es' aR=>?_⟩;cases aR;refine⟨p7 _,fun _=>?_⟩;have aS:=a8Z (szs:=szs) hp;rw[show(a0Y szs p).1=p from rfl,aS]at ab;cases ab;obtain⟨_,aT⟩:=aQ rfl _ _ _ _ rfl;obtain⟨aU,aV,aW⟩:=aT rfl;obtain⟨a1,a2,a3,a4⟩:=F (y:=none) hj;rw[show(G.a1p G' w.heap.size (P3 ks (B4 r))).β (root (ks p).1)=G'.β (root p)from a1,show(G.a1p G' w.heap.size (P3 ks (B4 r))).γ (root (ks p).1)=G'.γ (root p)from a3];refine⟨aU,fun l=>?_,fun l=>aW fun y=>l (a2.2 y)⟩;obtain⟨f,f1,f2,f3,f4⟩:=aV (a2.1 l);exact⟨f,f1,f2.imp id fun aX _=>by simpa using aX rfl,f3,f4⟩
   exact goal.cell (by grind)
end
end
section
variable{v:Value}{vs szs:List Nat}{a:Act}{ρ:Operand→Value}{t k i:Nat}{dst:Option Tmp}{r p:PV}{f:FuncId}{o:Oper}{rd:Operand→Option A6}{args:Array Operand}{ops:List Oper}{vars:List PV}{ev:A6→PV}
section
variable{P:Program}{B:Nat}{Z0:Nat→Prop}{G G':Gh}{h h':Heap}{w w':World}
theorem a3V{ρ:Option Nat}{n:Nat}{args:Array Value}{R:Ending→World→Prop}:CallsIn (fz ρ) n P f args w R↔Calls P f args w R:=callsIn_wide
def V9(G:Gh)(h:Heap)(w:World)(vs:List Nat)(vars:List PV)(a:Act):Prop:=∀(k s:Nat),vs[k]?=some s→∃v,a.tmps[s]?=some v∧j9 G h w D v (vars.getD k .uu)
def a4w(G:Gh)(h:Heap)(w:World)(ops:List Oper)(i:Nat)(loc:List PV)(a:Act):Prop:=∀(t j:Nat),a0M ops t i=some j→∃v,a.tmps[t]?=some v∧j9 G h w D v (loc.getD j .uu)
theorem b4g{ops:List Oper}{t:Nat}:∀{i j:Nat},a0M ops t i=some j→j<i∧(ops[j]?).bind (·.dst)=some t
 |0,j,h=>by simp[a0M]at h
 |i+1,j,h=>by
  simp only[a0M]at h;split at h
  . grind
  . obtain⟨h1,a⟩:=b4g h;exact⟨j4,a⟩
theorem b8J(a:ofV v=some p):j9 G h w D v p:=(a8N a).1
theorem b3g{loc:List PV}(m:V9 G h w vs vars a)(n:a4w G h w ops i loc a):∀x d,a0l vs ops i x=some d→j9 G h w D (a.eval x) (y9 loc vars d):=by
 intro x d hd;cases x with
 |tmp t=>
  simp only[a0l]at hd;split at hd
  . rename_i j hj;cases hd;obtain⟨v,h1,b⟩:=n t j hj;have:a.eval (.tmp t)=v:=(by simp[Act.eval,h1]);rw[this];exact b
  . obtain⟨k,h1,rfl⟩:=C9.1 hd;have o:vs[k]?=some t:=by
     obtain⟨b,l,_⟩:=List.idxOf?_eq_some_iff.1 h1
     grind
    obtain⟨v,b,l⟩:=m k t o;have:a.eval (.tmp t)=v:=(by simp[Act.eval,b]);rw[this];exact l
 |const v=>
  simp only[a0l]at hd;obtain⟨p,h1,rfl⟩:=C9.1 hd;exact b8J h1
 |func f=>
  simp only[a0l]at hd;cases hd;show j9 G h w D (.func (.func f) #[] #[]) (.fn (.func f) [] []);unfold D;unfold j9;exact⟨_,_,rfl,⟨rfl,fun i c e=>by simp at e⟩,⟨rfl,fun i c e=>by simp at e⟩⟩
 |global g=>simp[a0l]at hd
theorem b8d{x:Operand}{d:A6}(h:a6C o rd x=some d):rd x=some d∧∀t,x=.tmp t→t∈a8z o:=by
 cases x<;>simp only[a6C]at h
 all_goals grind
theorem d1K(a:∀x d,rd x=some d→j9 G h w D (ρ x) (ev d)):∀x d,a6C o rd x=some d→j9 G h w D (ρ x) (ev d):=fun x d e=>a x d (b8d e).1
theorem a0S(h1:vs.idxOf? t=some k):vs[k]?=some t:=by
 obtain⟨a,b,_⟩:=List.idxOf?_eq_some_iff.1 h1
 grind
theorem b6y(h1:vs.idxOf? t=none):vs[k]?≠some t:=fun a=>by have:=a3a.1 h1;exact this (D0 a)
theorem b5d(b:vs.Nodup){a:Nat}(h1:vs[k]?=some t)(c:vs[a]?=some t):k=a:=by obtain⟨a1,a2⟩:=C0.1 h1;obtain⟨e,d⟩:=C0.1 c;exact(List.getElem_inj b).1 (a2.trans d.symm)
theorem b0e(b:dst≠some t):(a.put dst v).tmps[t]?=a.tmps[t]?:=by
 cases dst with
 |none=>rfl
 |some d=>simp only[Act.put];exact Array.getElem?_setIfInBounds_ne (fun e=>b (by rw[e]))
theorem b2t(b:t<a.tmps.size):(a.put (some t) v).tmps[t]?=some v:=by simp[Act.put,b]
theorem a8Q:(a.put dst v).tmps.size=a.tmps.size:=by cases dst<;>simp[Act.put]
theorem b2G:(a.put dst v).defers=a.defers:=by cases dst<;>simp[Act.put]
theorem V9.put(x:Ext G h w G' h' w'){vs:List Nat}(d:vs.Nodup){vars:List PV}{a:Act}(f:V9 G h w vs vars a){dst:Option Tmp}{v:Value}{p:PV}(hd:∀t,dst=some t→t<a.tmps.size)(hp:j9 G' h' w' D v p):
 V9 G' h' w' vs (I8 vars (dst.bind (vs.idxOf? ·)) p) (a.put dst v):=by
 intro k s b;by_cases hs:dst=some s
 . subst hs;refine⟨v,b2t (hd s rfl),?_⟩;cases hi:vs.idxOf? s with
   |none=>exact absurd b (b6y hi)
   |some c=>
    obtain rfl:=b5d d (a0S hi) b;simp only[a5X,hi,I8];rw[B0];by_cases j:c<vars.length
    . grind
    . rw[a0i F6];exact K6
 . obtain⟨u,h1,g⟩:=f k s b;refine⟨u,by rw[b0e hs];exact h1,?_⟩;have:(I8 vars (dst.bind (vs.idxOf? ·)) p).getD k .uu=vars.getD k .uu:=by
    cases dst with
    |none=>rfl
    |some t=>
     simp only[a5X];cases hi:vs.idxOf? t with
     |none=>rfl
     |some c=>
      have i:c≠k:=fun e=>by subst e;have:=(a0S hi).symm.trans b;exact hs j4
      simp only[I8];rw[B0,B0,F4 i]
   rw[this];exact g.ext x
theorem a4w.put(x:Ext G h w G' h' w'){ops:List Oper}{i:Nat}{o:Oper}(c:ops[i]?=some o){loc:List PV}{a:Act}(e:a4w G h w ops i loc a)(hlen:loc.length=i){v:Value}{p:PV}(hd:∀t,o.dst=some t→t<a.tmps.size)(hp:j9 G' h' w' D v p):
 a4w G' h' w' ops (i+1) (loc++[p]) (a.put o.dst v):=by
 intro t j hj;simp only[a0M]at hj;split at hj
 . rename_i b;cases hj;rw[c]at b;have d:o.dst=some t:=(by simpa using b);refine⟨v,by rw[d];exact b2t (hd t d),?_⟩;rw[B0,a4f j4,hlen];simpa using hp
 . rename_i b;obtain⟨u,h1,f⟩:=e t j hj;have g:=(b4g hj).1;rw[c]at b;refine⟨u,by rw[b0e (by simpa using b)];exact h1,?_⟩;rw[B0,a1k j4,←B0];exact f.ext x
def W3(vs:List Nat)(vars:List PV):PV:=vars.getD vs.length .uu
theorem b2U{d:Option Nat}:W3 vs (I8 vars (d.bind (vs.idxOf? ·)) p)=W3 vs vars:=by
 unfold W3;cases d with
 |none=>rfl
 |some t=>
  simp only[a5X];cases hi:vs.idxOf? t with
  |none=>rfl
  |some k=>
   have:=(C0.1 (a0S hi)).1;simp only[I8,B0];rw[F4 j4]
def Inv(vs:List Nat)(N:Nat)(B:Nat)(Z0:Nat→Prop)(W0:M8 B)(ops:List Oper)(i:Nat)(st:B3)(a:Act)(w:World):Prop:=
 ∃G,s6 B Z0 G st.heap w∧V9 G st.heap w vs st.vars a∧a4w G st.heap w ops i st.loc a∧st.loc.length=i∧a.tmps.size=N∧a0p W0.m a.defers w∧W0.psi (W3 vs st.vars) G st.heap w
theorem c5r{N:Nat}{W0:M8 B}{st:B3}(e:vs.Nodup)(f:ops[i]?=some o)(hd:∀t,o.dst=some t→t<N){G:Gh}{w:World}
 (h1:V9 G st.heap w vs st.vars a) (g:a4w G st.heap w ops i st.loc a) (d:st.loc.length=i) (b:a.tmps.size=N) (h:a0p W0.m a.defers w) (j:W0.psi (W3 vs st.vars) G st.heap w) {w':World} {G':Gh} {ws:List (Nat×Row)}
 (k:s6 B Z0 G' (p8 st.heap ws) w') (x:Ext G st.heap w G' (p8 st.heap ws) w') (hp:j9 G' (p8 st.heap ws) w' D v p) (hb:Bl B w w'):
 Inv vs N B Z0 W0 ops (i+1) ⟨st.loc++[p],I8 st.vars (o.dst.bind (vs.idxOf? ·)) p,p8 st.heap ws⟩ (a.put o.dst v) w':=
 ⟨G',k,V9.put x e h1 (fun t c=>by rw[b];exact hd t c) hp,a4w.put x f g d (fun t c=>by rw[b];exact hd t c) hp,by simp[d],by rw[a8Q];exact b,by rw[b2G];exact h.step hb,by rw[b2U];exact W0.step j x hb⟩
theorem c9F{loc:List PV}(m:V9 G h w vs vars a)(n:a4w G h w ops i loc a){g:Option (A6×Bool)}
 (e:(match o.guard with
  |none=>some none
  |some (j,b)=>match(ops[j]?).bind (·.dst)with
   |some t=>(a0l vs ops i (.tmp t)).map fun d=>some (d,b)
   |none=>none)=some g) {c:Bool} (f:gdO loc vars g=some c):Region.wanted o (yielded ops.toArray a.tmps)=c:=by
 unfold Region.wanted;cases l:o.guard with
 |none=>
  rw[l]at e;simp at e;subst e;simpa[gdO]using f
 |some p=>
  obtain⟨j,b⟩:=p;rw[l]at e;simp only at e;split at e
  . rename_i t r;obtain⟨d,h1,rfl⟩:=C9.1 e;have hr:=b3g m n _ _ h1;simp only[gdO]at f;have s:yielded ops.toArray a.tmps j=(match a.tmps[t]? with|some (.bool b)=>some b|_=>none):=by
     unfold yielded;rw[show ops.toArray[j]?=ops[j]? by simp,r];rfl
    show(yielded ops.toArray a.tmps j==some b)=c;rw[s];split at f
    . rename_i c0 he;cases f;rw[he]at hr;have hb:=a0X hr;have:a.tmps[t]?=some (.bool c0):=by
       simp only[Act.eval]at hb;cases k:a.tmps[t]? with
       |none=>simp[a4j,k,undef]at hb
       |some q=>simp[a4j,k]at hb;rw[hb]
      rw[this];cases c0<;>cases b<;>rfl
    . rename_i he;cases f;rw[he]at hr;obtain⟨us,hb,hs⟩:=a9j hr;simp only[Act.eval]at hb;cases k:a.tmps[t]? with
      |none=>cases b<;>rfl
      |some q=>
       simp[a4j,k]at hb;rw[hb];cases b<;>rfl
    . cases f
  . cases e
theorem b6H:j9 G h w D undef (.tup []):=by unfold D;unfold j9;exact⟨#[],rfl,rfl,fun i c a=>by simp at a⟩
theorem b5S{ats:Array TypeId}{type:TypeId}{pos:String}{after:Array Edge}{guard:Option (Nat×Bool)}(a:a1q P f=true)(c:ρ (.func f)=.func (.func f) #[] #[]):
 (execOp ρ {dst:=dst,op:=.call {callee:=.value (.func f),args:=args,argTypes:=ats},type:=type,pos:=pos,after:=after,guard:=guard}).run P w=.ok (.enter f (args.map ρ)) w:=by
 unfold a1q at a;split at a
 . rename_i fn d;simp only[E7,a6Y]at a;obtain⟨h1,b⟩:=a;have g:¬fn.body=none:=fun e=>(by rw[e]at b;cases b);have h:¬fn.name= "runtime.NumGoroutine" :=(by simpa using h1);simp[execOp,resolve,c,Deferred.ofValue,invoke,callFunc,d,g,h]
 . cases a
theorem b3C{b:Operand}{c d:Array Value}{ats:Array TypeId}{type:TypeId}{pos:String}{after:Array Edge}{guard:Option (Nat×Bool)}(a:a1q P f=true)(h:ρ b=.func (.func f) c d):
 (execOp ρ {dst:=dst,op:=.call {callee:=.value b,args:=args,argTypes:=ats},type:=type,pos:=pos,after:=after,guard:=guard}).run P w=.ok (.enter f (c++args.map ρ++d)) w:=by
 unfold a1q at a;split at a
 . rename_i fn i;simp only[E7,a6Y]at a;obtain⟨h1,g⟩:=a;have j:¬fn.body=none:=fun e=>(by rw[e]at g;cases g);have k:¬fn.name= "runtime.NumGoroutine" :=(by simpa using h1);simp[execOp,resolve,h,Deferred.ofValue,invoke,callFunc,i,j,k]
 . cases a
theorem a6Z{vs:Array Value}{cs:List PV}{n m:Nat}(a:J4 (j9 G h w n) vs cs)(d:cs.all one=true)(hm:0<m:=by decide):J4 (j9 G h w m) vs cs:=
 ⟨a.1,fun i c b=>by obtain⟨u,h1,e⟩:=a.2 i c b;exact⟨u,h1,one_cell (B5.1 d c (D0 b)) e hm⟩⟩
def Gh.c1i(G:Gh)(n:Nat):Gh:={G with Z:=fun b=>G.Z b∧n≤b}
theorem d1B{Z Z':Nat→Prop}{c:PV}(h0:b3M c=true)(d:one c=true)(hp:PR Z w v c):PR Z' w v c:=by
 obtain⟨n,hp⟩:=hp;cases c<;>(try (simp[b3M]at h0;done))<;>(try (simp[one,Y1]at d;done))
 case fn f a b=>
  refine⟨0,?_⟩;cases a with
  |cons=>cases n<;>(unfold J1 at hp;exact hp.elim)
  |nil=>
   cases b with
   |cons=>cases n<;>(unfold J1 at hp;exact hp.elim)
   |nil=>cases n<;>(unfold J1 at hp⊢;exact hp)
 all_goals
  refine⟨0,?_⟩;cases n<;>(unfold J1 at hp⊢;first|exact hp|exact hp.elim)
theorem c2a{g:Nat}{o:Ob}(a:(X2 szs r)[k]?=some (g,o)):o=.dead∨∃es,(B4 r)[k]?=some (.uslc es)∧g=1∧o=.arr (szs.getD k 0) 0 false es:=by
 by_cases b:∃es,(B4 r)[k]?=some (.uslc es)
 . obtain⟨es,he⟩:=b;rw[a8Z he]at a
   grind
 . left
   have c:k∉(I3 (a0Y szs) (fun _=>1) 0 (B4 r)).map (·.1):=fun hm=>by obtain⟨x,d,rfl⟩:=G7.1 hm;obtain⟨i,es,h1,e⟩:=b0R d;apply b;rw[e];exact⟨es,by simpa[a0Y]using h1⟩
   unfold X2 at a;rw[a5S _ _ _ c]at a
   grind
theorem d1P(hr:s6 B Z0 G (X2 szs r) w)(C:noS r=true)(E:rOk r=true):s6 B (fun _=>False) (G.c1i B) (X2 szs r) w:=by
 refine⟨hr.base,fun b hb=>.inr hb.2,fun b hb=>hr.zb b hb.1,hr.lv,fun k g o d F y h H=>hr.nz k g o d F y h H.1,fun k g o d I y h=>⟨hr.fz k g o d I y h,(hr.lv _ h).1⟩,hr.inj,fun k g o d=>?_⟩;have q:=hr.ob k g o d;rcases c2a d with rfl|⟨es,he,rfl,rfl⟩
 . trivial
 . unfold F7 at q⊢;obtain⟨J,K,L,M,N⟩:=q;refine⟨J,K,L,fun h=>?_,N⟩;obtain⟨us,T,O,P,Q⟩:=M h;refine⟨us,T,O,P,fun i e m=>?_⟩;obtain⟨R,S⟩:=Q i e m;refine⟨R,fun j c n=>?_⟩;obtain⟨u,U,l⟩:=S j c n;refine⟨u,U,?_⟩;have s:PV.uslc es∈B4 r:=D0 he;have V:a2I (.uslc es)=true:=by
    obtain⟨x,W,X⟩:=a3b.1 s;exact B5.1 (B5.1 C x W) _ X
   have v:a6F c=true:=B5.1 (show(l6 e).all a6F=true from B5.1 V e (D0 m)) c (D0 n);have Y:(A7 c||I7 c)=true:=by have h1:es.all D9=true:=(by simpa using B5.1 E _ s);exact B5.1 (show(l6 e).all (fun c=>A7 c||I7 c)=true from B5.1 h1 e (D0 m)) c (D0 n)
   cases c<;>(try (simp[A7,I7]at Y;done))<;>(try (simp[a6F]at v;done))
   case uslc ns=>
    unfold G9 O2 at l⊢;refine⟨fun Z=>?_,l.2⟩;obtain⟨us',T',f,aa,ab,ac,ad,ae,af,ag,ah,ai,aj⟩:=l.1 Z;refine⟨us',T',f,aa,ab,ac,ad,ae,af,ag,ah,ai,fun a x z=>?_⟩;obtain⟨m1,m2⟩:=aj a x z;refine⟨m1,fun t y A=>?_⟩;obtain⟨m3,ak,m4,m5⟩:=m2 t y A;exact⟨m3,ak,m4,d1B (B5.1 (B5.1 v x (D0 z)) y (D0 A)) m3 m5⟩
   all_goals
    unfold G9 at l⊢;obtain⟨al,p⟩:=l;refine⟨al,?_⟩;unfold D at p⊢;unfold j9 at p⊢;exact p
theorem c9J{ks:Nat→Nat×Nat}{gen:Nat→Nat}(d:noS r=true)(e:j9 G (X2 szs r) w D v (T4 ks gen r)):j9 (G.c1i B) (X2 szs r) w D v (T4 ks gen r):=by
 refine b6f (fun{n u p c} hp a=>?_) e;have b:a2I c=true:=by obtain⟨x,f,g⟩:=a3b.1 (D0 hp);exact B5.1 (B5.1 d x f) _ g
 cases c<;>simp only[M5]at a⊢ <;>(try exact K6)
 case slc es=>simp[a2I]at b
 case M6=>simp[a2I]at b
 case fptr=>simp[a2I]at b
 all_goals (cases n<;>(unfold j9 at a⊢;exact a))
theorem b7t(hr:s6 B Z0 G h w){hide:List Nat}(Q:∀x d,rd x=some d→j9 G h w D (ρ x) (ev d)){k:List A6}(S:N1 rd args.toList=some k){ks:List (Nat×Nat)}
 (F:Fn P f (ks.map (·.2)) (k.map fun a=>fzV (l7 h hide) (ev a)) r) (n:a3k h.length ks ((k.map ev).any (a1K (l7 h hide))) r=true) (T:∀j,j∈(ks.filter (·.2 !=0)).map (·.1)→hide.contains j=false) {R:Ending→World→Prop}
 (H:∀v w' G',s6 B Z0 G' (p8 h (I3 (M7 ks) (U0 (l7 h hide)) 0 (B4 r))) w'→Ext G h w G' (p8 h (I3 (M7 ks) (U0 (l7 h hide)) 0 (B4 r))) w'→j9 G' (p8 h (I3 (M7 ks) (U0 (l7 h hide)) 0 (B4 r))) w' D v (T4 (M7 ks) (U0 (l7 h hide)) r)→Bl B w w'→R (.returned v) w'):
 Calls P f (args.map ρ) w R:=by
 unfold a3k at n;simp only[E7]at n;obtain⟨⟨⟨s,U⟩,V⟩,W⟩:=n;have X:∀{g1 g2:Nat→Nat} (cells:List PV) (q:Nat),(I3 (M7 ks) g1 q cells).map (·.1)=(I3 (M7 ks) g2 q cells).map (·.1):=by
  intro g1 g2 cells
  induction cells with
  |nil=>intro q;rfl
  |cons c cells Y=>intro q;cases c<;>simp only[I3,a0s,Y]
 have I:((I3 (M7 ks) (U0 (l7 h hide)) 0 (B4 r)).map (·.1)).Nodup:=by rw[X (g2:=fun _=>0)];exact a4V U
 have J:∀p es,(B4 r)[p]?=some (.uslc es)→(M7 ks p).2=(ks.map (·.2)).getD p 0:=fun p es _=>by simp only[M7,B0,H6];cases ks[p]?<;>rfl
 have K:∀p es,(B4 r)[p]?=some (.uslc es)→∃o,h[(M7 ks p).1]?=some (U0 (l7 h hide) (M7 ks p).1-1,o)∧0<U0 (l7 h hide) (M7 ks p).1:=fun p es hp=>by
  have hm:=a5Q (ks:=M7 ks) (gen:=fun _=>0) (q:=0) hp;have t:=B5.1 V _ (G7.2 ⟨_,hm,rfl⟩);rw[V5,E7]at t;have Z:(M7 ks p).1<h.length:=by simpa[a1J]using t.1
  have aa:hide.contains (M7 ks p).1=false:=T _ (a0I.1 t.2);obtain⟨⟨g,o⟩,l⟩:∃x,h[(M7 ks p).1]?=some x:=⟨_,l9 Z⟩
  exact⟨o,by rw[l];simp[U0,a6A aa l],by simp[U0]⟩
 have L:∀(Z':Nat→Prop),(∀b,G.Z b→Z' b)→((k.map ev).any (a1K (l7 h hide))=true→∀key,G.R key→Z' (G.β key))→J4 (j9 (G0 Z') [] w D) (args.map ρ) (k.map fun a=>fzV (l7 h hide) (ev a)):=fun Z' ab m=>by
  obtain⟨ac,ad⟩:=a5z S;refine⟨by simpa using ac,fun i c M=>?_⟩;rw[H6]at M;obtain⟨d,hd,rfl⟩:=C9.1 M;have hi:i<args.toList.length:=by grind
  obtain⟨ah,N,ae⟩:=ad i _ (l9 hi);rw[hd]at N;cases N;have af:i<args.size:=by simpa using hi
  refine⟨ρ args.toList[i],by simp[af],d0b hr ab (fun l=>m (List.any_eq_true.2 ⟨_,G7.2 ⟨d,D0 hd,rfl⟩,l⟩)) (Q _ _ ae)⟩
 by_cases m:(k.map ev).any (a1K (l7 h hide))=true
 . have O:noS r=true:=(by simpa[m]using W);refine(F.2 w (fun b=>G.Z b∨∃key,G.R key∧b=G.β key) (args.map ρ) ?_ (L _ (fun b hb=>.inl hb) fun _ key u=>.inr ⟨key,u,rfl⟩)).mono ?_
   . rintro b (hb|⟨key,u,rfl⟩)
     . exact hr.zb b hb
     . exact(hr.lv _ u).2
   . rintro e w' ⟨v,G',rfl,hb,h1,y⟩;obtain⟨G'',z,A,C,E⟩:=a1p hr hb (d1P h1 O s) (c9J (B:=w.heap.size) O y) (fun b ag=>.inr ag.2) s I J K;exact H v w' G'' z A C E
 . refine(F.2 w G.Z (args.map ρ) hr.zb (L G.Z (fun b hb=>hb) fun l=>absurd l m)).mono ?_;rintro e w' ⟨v,G',rfl,hb,h1,y⟩;obtain⟨G'',z,A,C,E⟩:=a1p hr hb h1 y h1.zo s I J K;exact H v w' G'' z A C E
theorem c0M(hr:s6 B Z0 G h w)(n:∀x d,rd x=some d→j9 G h w D (ρ x) (ev d)){o:Operand}{fd:A6}(q:rd o=some fd){k:List A6}(s:N1 rd args.toList=some k){ws:List (Nat×Row)}
 (l:FI P (ev fd) (k.map ev) h r ws):∃f a b,a1q P f=true∧ρ o=.func (.func f) a b∧∀R:Ending→World→Prop,
  (∀v w' G',s6 B Z0 G' (p8 h ws) w'→Ext G h w G' (p8 h ws) w'→j9 G' (p8 h ws) w' D v r→Bl B w w'→R (.returned v) w')→Calls P f (a++args.map ρ++b) w R:=by
 obtain⟨f,first,cap,t,g,m,l⟩:=l;rw[E7]at m;have j:=n _ _ q;rw[t]at j;unfold D at j;unfold j9 at j;obtain⟨a,b,h1,y,z⟩:=j;refine⟨f,a,b,g,h1,fun R A=>?_⟩;have C:J4 (j9 G h w D) (args.map ρ) (k.map ev):=by
  obtain⟨E,F⟩:=a5z s;refine⟨by simpa using E,fun i c g=>?_⟩;rw[H6]at g;obtain⟨d,hd,rfl⟩:=C9.1 g;have hi:i<args.toList.length:=by grind
  obtain⟨N,p,H⟩:=F i _ (l9 hi);rw[hd]at p;cases p;have I:i<args.size:=by simpa using hi
  exact⟨ρ args.toList[i],by simp[I],n _ _ H⟩
 refine(l B Z0 G w a (args.map ρ) b hr (a6Z y m.1) C (a6Z z m.2)).mono ?_;rintro e w' ⟨u,G',rfl,J,K,L,M⟩;exact A u w' G' J K L M
end
end
section
variable{rd:Operand→Option A6}{k:Nat}{app:Nat×Option Nat}{al:Bool}{ty:TypeId}{op:Op}{a:List A6}
section
variable{P:Program}{B:Nat}{Z0:Nat→Prop}{W0:M8 B}{ρ:Option Nat}{nn:Nat}
theorem b8l{FN:N0}{x:l5}{xs:List l5}{st:B3}{Q:B3→Prop}(c:∀f a k al,x.op≠ .call f a k al)(d:∀f a,x.op≠ .callv f a)(e:∀f a,x.op≠ .cally f a)(g:gdO st.loc st.vars x.guard=some true)(h:E9 FN (x::xs) st Q):
 ∃p ws,A9 (y9 st.loc st.vars) (l7 st.heap x.hide) x.op=some (p,ws)∧E9 FN xs ⟨st.loc++[p],I8 st.vars x.var p,p8 st.heap ws⟩ Q:=by
 cases b:x.op
 case call f a k al=>exact absurd b (c _ _ _ _)
 case callv f a=>exact absurd b (d _ _)
 case cally f a=>exact absurd b (e _ _)
 all_goals
  simp only[E9,g,b]at h;split at h
  . rename_i p ws i;exact⟨p,ws,i,h⟩
  . exact h.elim
theorem b7Q{f:FuncId}{ks:List (Nat×Nat)}{i:Bool}(e:a2H P rd k app al ty op=some (.call f a ks i)):
 ∃args ats,op=.call {callee:=.value (.func f),args:=args,argTypes:=ats}∧N1 rd args.toList=some a:=by
 cases op<;>simp only[a2H]at e
 case call c=>
  obtain⟨callee,args,ats⟩:=c;cases callee<;>simp only[]at e
  case value g=>
   cases g<;>simp only[]at e
   case func g=>
    split at e
    . split at e<;>cases e
    . split at e
      . rename_i l j h1 h;cases e;exact⟨args,ats,rfl,h1⟩
      . cases e
   all_goals
    split at e
    . cases al<;>cases e
    . cases e
  case builtin b=>
   exfalso;unfold a8x at e;split at e<;>(try (cases e;done))<;>(repeat' (split at e))<;>(try (cases e;done))<;>(obtain⟨d,_,h⟩:=C9.1 e;cases h)
  case invoke=>cases e
 case makeMap t r=>
  exfalso;cases r with
  |none=>simp at e
  |some r=>
   simp only[]at e;split at e
   . obtain⟨d,_,h⟩:=C9.1 e;cases h
   . cases e
 all_goals
  exfalso
  (repeat' (split at e))<;>first|(cases e;done)|(obtain⟨d,_,h⟩:=C9.1 e;cases h;done)
theorem c6U{f:A6}(e:a2H P rd k app al ty op=some (.cally f a)):
 ∃i args ats,op=.call {callee:=.value i,args:=args,argTypes:=ats}∧rd i=some f∧N1 rd args.toList=some a:=by
 cases op<;>simp only[a2H]at e
 case call c=>
  obtain⟨callee,args,ats⟩:=c;cases callee<;>simp only[]at e
  case value g=>
   cases g<;>simp only[]at e
   case func g=>
    split at e
    . grind
    . split at e<;>cases e
   all_goals
    split at e
    . grind
    . cases e
  case builtin b=>
   exfalso;unfold a8x at e;split at e<;>(try (cases e;done))<;>(repeat' (split at e))<;>(try (cases e;done))<;>(obtain⟨d,_,h⟩:=C9.1 e;cases h)
  case invoke=>cases e
 case makeMap t r=>
  exfalso;cases r with
  |none=>simp at e
  |some r=>
   simp only[]at e;split at e
   . obtain⟨d,_,h⟩:=C9.1 e;cases h
   . cases e
 all_goals
  exfalso
  (repeat' (split at e))<;>first|(cases e;done)|(obtain⟨d,_,h⟩:=C9.1 e;cases h;done)
theorem c1J{f:A6}(e:a2H P rd k app al ty op=some (.callv f a)):
 ∃i args ats,op=.call {callee:=.value i,args:=args,argTypes:=ats}∧rd i=some f∧N1 rd args.toList=some a:=by
 cases op<;>simp only[a2H]at e
 case call c=>
  obtain⟨callee,args,ats⟩:=c;cases callee<;>simp only[]at e
  case value g=>
   cases g<;>simp only[]at e
   case func g=>
    split at e
    . grind
    . split at e<;>cases e
   all_goals
    split at e
    . grind
    . cases e
  case builtin b=>
   exfalso;unfold a8x at e;split at e<;>(try (cases e;done))<;>(repeat' (split at e))<;>(try (cases e;done))<;>(obtain⟨d,_,h⟩:=C9.1 e;cases h)
  case invoke=>cases e
 case makeMap t r=>
  exfalso;cases r with
  |none=>simp at e
  |some r=>
   simp only[]at e;split at e
   . obtain⟨d,_,h⟩:=C9.1 e;cases h
   . cases e
 all_goals
  exfalso
  (repeat' (split at e))<;>first|(cases e;done)|(obtain⟨d,_,h⟩:=C9.1 e;cases h;done)
theorem c1y{x:N3}(h:a2H P rd k app al ty op=some x):∀c,op≠ .defer c:=fun c e=>by subst e;simp only[a2H]at h;cases h
def FyR(B:Nat)(Z0:Nat→Prop)(W0:M8 B)(vs:List Nat)(vars:List PV)(K:PV→List PV→Heap→Prop)(G:Gh)(h:Heap)(w:World):Ending→World→Prop:=fun e w'=>
 ∃r vars' h' u G',e=.returned u∧K r vars' h'∧(∀k,k<vs.length→vars'.getD k .uu=vars.getD k .uu)∧s6 B Z0 G' h' w'∧Ext G h w G' h' w'∧j9 G' h' w' D u r∧W0.psi (W3 vs vars') G' h' w'∧∀a,a0p W0.m a w→a0p W0.m a w'
abbrev FYT:=PV→List PV→List PV→Heap→(PV→List PV→Heap→Prop)→Prop
def a7h(P:Program)(B:Nat)(Z0:Nat→Prop)(W0:M8 B)(ρ:Option Nat)(vs:List Nat)(Y:FYT):Prop:=∀{v:PV} {args vars:List PV} {h:Heap} {K:PV→List PV→Heap→Prop},Y v args vars h K→
 ∀{G:Gh} {w:World} {u:Value} {a:Array Value},s6 B Z0 G h w→W0.psi (W3 vs vars) G h w→j9 G h w D u v→J4 (j9 G h w D) a args→
  (∃f b c,a1q P f=true∧u=.func (.func f) b c∧Calls P f (b++a++c) w (FyR B Z0 W0 vs vars K G h w))∨
  (∃l,u=.func (.yield l) #[] #[]∧∀n,YieldAt (fz ρ) n P l a w (FyR B Z0 W0 vs vars K G h w))
theorem a6l{ρ:Option Nat}{vs:List Nat}{W0:M8 B}:a7h P B Z0 W0 ρ vs (fyI P):=by
 rintro v args vars h K ⟨r,ws,⟨f,first,cap,rfl,j,a,k⟩,l⟩ G w u m hr n b o
 left
 unfold D at b;unfold j9 at b;obtain⟨c,d,rfl,p,q⟩:=b;rw[E7]at a;refine⟨f,c,d,j,rfl,?_⟩;refine(k B Z0 G w c m d hr (a6Z p a.1) o (a6Z q a.2)).mono ?_;rintro e w' ⟨u,G',rfl,h1,g,s,i⟩;exact⟨r,vars,_,u,G',rfl,l,fun _ _=>rfl,h1,g,s,W0.step n g i,fun t hd=>hd.step i⟩
theorem c5v{ρ:Operand→Value}{dst:Option Tmp}{a:Operand}{l:Nat}{args:Array Operand}{ats:Array TypeId}{type:TypeId}{pos:String}{after:Array Edge}{guard:Option (Nat×Bool)}{w:World}(b:ρ a=.func (.yield l) #[] #[]):
 (execOp ρ {dst:=dst,op:=.call {callee:=.value a,args:=args,argTypes:=ats},type:=type,pos:=pos,after:=after,guard:=guard}).run P w=(Instr.yield l (args.map ρ)).run P w:=by
 simp[execOp,resolve,b,Deferred.ofValue,invoke]
theorem b2u{vs:List Nat}{N:Nat}{FN:N0}(Z:FN.fn=Fn P)(aa:FN.fi=FI P)(ab:a7h P B Z0 W0 ρ vs FN.fy)(T:vs.Nodup){ops:List Oper}{al:Bool}{Q:Exit→Act→World→Prop}{Q':B3→Prop}(ac:∀i st a w,Inv vs N B Z0 W0 ops i st a w→Q' st→Q .normal a w):
 ∀(rest:List Oper) (acc:List l5) (k O:Nat) (xs:List l5),ops.drop acc.length=rest→a5d P vs N ops al acc k rest=some (xs,O)→∃tail,xs=acc++tail∧
  ∀st a w,Inv vs N B Z0 W0 ops acc.length st a w→a1Q st.heap.length tail=true→E9 FN tail st Q'→wpOpsIn (fz ρ) nn P ops.toArray Q (List.range' acc.length rest.length) a w
 | [],acc,k,O,xs,U,m=>by
  simp only[a5d,s5,s9]at m;obtain⟨rfl,rfl⟩:=m;refine⟨[],k8,fun st a w hinv _ q=>?_⟩;simp only[E9]at q;exact ac _ st a w hinv q
 |o::rest,acc,k,O,xs,U,m=>by
  have V:ops[acc.length]?=some o:=by have:=congrArg (·[0]?) U;simpa using this
  have aK:ops.drop (acc.length+1)=rest:=by rw[←a2V,U];rfl
  simp only[a5d]at m;split at m
  . cases m
  . rename_i A F;split at m
    . cases m
    . rename_i g aq;split at m
      . rename_i ad;obtain⟨tail,rfl,ae⟩:=b2u Z aa ab T ac rest (acc++[{op:=A,var:=o.dst.bind (vs.idxOf? ·),guard:=g,hide:=[]}]) (k+b4Y A) O xs (by grind) m;refine⟨{op:=A,var:=o.dst.bind (vs.idxOf? ·),guard:=g,hide:=[]}::tail,k8,fun st a w hinv af q=>?_⟩;obtain⟨G,H,i2,i3,i4,i5,ag,ah⟩:=hinv;simp only[a1Q,List.all_cons,E7]at af;obtain⟨ar,ai⟩:=af;have au:∀j,j∈I1 A→j<st.heap.length∧([]:List Nat).contains j=false:=fun j hj=>⟨by have:=B5.1 ar j hj;simpa[a1J]using this,rfl⟩
        have R:=d1K (o:=o) (b3g i2 i3);have hd:∀t,o.dst=some t→t<N:=fun t I=>(by simp only[b2X,I]at ad;simpa[a1J]using ad);have J:∀{p ws v w' G'},s6 B Z0 G' (p8 st.heap ws) w'→Ext G st.heap w G' (p8 st.heap ws) w'→j9 G' (p8 st.heap ws) w' D v p→Bl B w w'→
         E9 FN tail ⟨st.loc++[p],I8 st.vars (o.dst.bind (vs.idxOf? ·)) p,p8 st.heap ws⟩ Q'→wpOpsIn (fz ρ) nn P ops.toArray Q (List.range' (acc.length+1) rest.length) (a.put o.dst v) w':=fun{p ws v w' G'} r1 r2 r3 r4 r5=>by
         have:=ae ⟨st.loc++[p],I8 st.vars (o.dst.bind (vs.idxOf? ·)) p,p8 st.heap ws⟩ (a.put o.dst v) w' (by simp only[Z9,S9,a6U];exact c5r T V hd i2 i3 i4 i5 ag ah r1 r2 r3 r4) (by simp only[a5v];exact ai) r5
         simpa using this
        have aj:∀(a:Act) (w:World) f,o.about P w a.eval=some f→(fz ρ).fn f:=fun _ _ _ _=>trivial;have av:o.semAt (fz ρ).round a.eval=execOp a.eval o:=Oper.semAt_eq _ _ _ (c1y F);have aw:∀K,(∀c,gdO st.loc st.vars g=some c→(if c then o.uponIn (fz ρ) nn P a K Q ((execOp a.eval o).run P w)else K (a.put o.dst undef) w))→wpOpIn (fz ρ) nn P ops.toArray Q acc.length K a w:=fun K ax=>by
         unfold wpOpIn;rw[show ops.toArray[acc.length]?=some o by simpa using V];simp only;cases x:gdO st.loc st.vars g with
         |none=>simp only[E9,x]at q
         |some c=>
          have hw:=c9F i2 i3 aq x;have:=ax c x;rw[hw];cases c
          . exact⟨aj _ _,by simpa using this⟩
          . refine⟨aj _ _,?_⟩;rw[av];simpa using this
        rw[show List.range' acc.length (o::rest).length=acc.length::List.range' (acc.length+1) rest.length by simp[List.range'_succ],wpOpsIn_cons];refine aw _ fun c x=>?_;cases c with
        |false=>
         simp only[E9,x]at q;simp only[a4c,if_false];exact J (ws:=[]) H Ext.refl b6H (Bl.refl _ _) q
        |true=>
         simp only[if_true];by_cases ak:∃f b ks S,A=.call f b ks S
         . obtain⟨f,b,ks,S,rfl⟩:=ak;obtain⟨args,ats,y,L⟩:=b7Q F;simp only[E9,x]at q;obtain⟨r,_,E,ay,z⟩:=q;rw[Z]at E;obtain⟨dst,op,type,pos,after,guard⟩:=o;simp only at y;subst y;have C:=b5S (P:=P) (w:=w) (ρ:=a.eval) (dst:=dst) (args:=args) (ats:=ats) (type:=type) (pos:=pos) (after:=after) (guard:=guard) E.1 rfl;rw[C];refine⟨fun e=>(by cases e),a3V.2 ?_⟩;exact b7t H R L E ay (fun _ _=>rfl) fun v w' G' r1 r2 r3 r4=>J r1 r2 r3 r4 z
         by_cases am:∃f b,A=.cally f b
         . obtain⟨fd,b,rfl⟩:=am;obtain⟨az,args,ats,y,W,L⟩:=c6U F;simp only[E9,x]at q;obtain⟨dst,op,type,pos,after,guard⟩:=o;simp only at y;subst y;have aA:J4 (j9 G st.heap w D) (args.map a.eval) (b.map (y9 st.loc st.vars)):=by
            obtain⟨an,ao⟩:=a5z L;refine⟨by simpa using an,fun i c m=>?_⟩;rw[H6]at m;obtain⟨d,hd,rfl⟩:=C9.1 m;have hi:i<args.toList.length:=(by grind);obtain⟨aL,aM,aN⟩:=ao i _ (l9 hi)
            grind
           have aO:∀(e:Ending) (w':World),FyR B Z0 W0 vs st.vars (fun r vs' h=>h.length=st.heap.length∧E9 FN tail ⟨st.loc++[r],I8 vs' (dst.bind (vs.idxOf? ·)) r,h⟩ Q') G st.heap w e w'→
            (match e with
             | .returned v=>wpOpsIn (fz ρ) nn P ops.toArray Q (List.range' (acc.length+1) rest.length) (a.put dst v) w'
             |_=>False):=by
            rintro e w' ⟨r,vars',h',u,G',rfl,⟨hlen,z⟩,aP,r1,r2,r3,r4,r5⟩;have aB:V9 G st.heap w vs vars' a:=fun k s aC=>by
             obtain⟨v,an,ao⟩:=i2 k s aC
             grind
            have:=ae ⟨st.loc++[r],I8 vars' (dst.bind (vs.idxOf? ·)) r,h'⟩ (a.put dst u) w' (by simp only[Z9,S9,a6U];exact⟨G',r1,V9.put r2 T aB (fun t I=>by rw[i5];exact hd t I) r3,a4w.put r2 V i3 i4 (fun t I=>by rw[i5];exact hd t I) r3,by simp[i4],by rw[a8Q];exact i5,by rw[b2G];exact r5 _ ag,by rw[b2U];exact r4⟩) (by simp only[hlen];exact ai) z
            simpa using this
           rcases ab q H ah (R _ _ W) aA with⟨f,aD,aE,X,M,Y⟩|⟨l,M,aF⟩
           . have C:=b3C (P:=P) (w:=w) (ρ:=a.eval) (dst:=dst) (args:=args) (ats:=ats) (type:=type) (pos:=pos) (after:=after) (guard:=guard) X M;rw[C];refine⟨fun e=>(by cases e),a3V.2 (Y.mono fun e w' aG=>?_)⟩
             grind
           . have C:=c5v (P:=P) (w:=w) (ρ:=a.eval) (dst:=dst) (args:=args) (ats:=ats) (type:=type) (pos:=pos) (after:=after) (guard:=guard) M;obtain⟨fn,aQ,aR,body,aH,aI⟩:=aF (nn-1);rw[C,aH];refine⟨fun e=>(by cases e),aI.mono fun e w' aG=>?_⟩
             grind
         by_cases ap:∃f b,A=.callv f b
         . obtain⟨fd,b,rfl⟩:=ap;obtain⟨az,args,ats,y,W,L⟩:=c1J F;simp only[E9,x,fiH]at q;obtain⟨r,ws,E,z⟩:=q;rw[aa]at E;obtain⟨dst,op,type,pos,after,guard⟩:=o;simp only at y;subst y;obtain⟨f,aD,aE,X,M,Y⟩:=c0M H R W L E;have C:=b3C (P:=P) (w:=w) (ρ:=a.eval) (dst:=dst) (args:=args) (ats:=ats) (type:=type) (pos:=pos) (after:=after) (guard:=guard) X M;rw[C];refine⟨fun e=>(by cases e),a3V.2 (Y _ fun v w' G' r1 r2 r3 r4=>J r1 r2 r3 r4 z)⟩
         . obtain⟨p,ws,aJ,z⟩:=b8l (fun f b ks S e=>ak ⟨f,b,ks,S,e⟩) (fun f b e=>ap ⟨f,b,e⟩) (fun f b e=>am ⟨f,b,e⟩) x q;obtain⟨n,v,w',G',g1,g2,g3,g4,g5,g6⟩:=b8u H R F au aJ;rw[g1];rcases g2 with rfl|⟨rfl,rfl⟩
           . exact J g3 g4 g5 g6 z
           . exact J g3 g4 g5 g6 z
      . cases m
end
end
section
variable{lk:D8}{news:List PV}{ev:A6→PV}{sz k n i kt b:Nat}{v m z x c d s r:PV}{op:N3}{hide:List Nat}{S q:Nat→Bool}
section
variable{P:Program}{B:Nat}{Z0:Nat→Prop}{W0:M8 B}
theorem d0j{lk':D8}(h:L4 op=0):A9 ev lk op=A9 ev lk' op:=by
 cases op<;>(try (simp[L4]at h;done))<;>(try rfl)
 case append k sz b m s x=>simp only[L4]at h;split at h<;>simp at h
theorem b2A{ws:List (Nat×Row)}(h:a1R lk k sz b s news=some (v,ws)):∀y∈ws,y.1=a5f k s:=by
 cases s<;>simp only[a1R]at h<;>(try (cases h;done))
 all_goals
  (repeat' (split at h))<;>(try (cases h;done))<;>(simp only[s5,s9]at h;obtain⟨_,rfl⟩:=h;intro y a;simp only[H5]at a;subst a;rfl)
theorem b4Z{ok:Bool}{p:PV}{ks vs:List PV}{ws:List (Nat×Row)}(h:a3S kt ok z x ks vs=some (p,ws)):ws=[]:=by
 unfold a3S at h
 (repeat' (split at h))<;>(try (cases h;done))<;>(simp only[s5,s9]at h;exact h.2.symm)
theorem c7h{ok:Bool}{p:PV}{ws:List (Nat×Row)}(h:a7i lk kt ok z m x=some (p,ws)):ws=[]:=by
 unfold a7i at h;split at h
 . split at h
   . split at h
     . exact b4Z h
     . cases h
   . cases h
 . exact b4Z h
 . exact b4Z h
 . cases h
theorem b7f{p:PV}{ws:List (Nat×Row)}(c:L4 op≤2)(h:A9 ev lk op=some (p,ws)):∀y∈ws,y.1∈I1 op:=by
 cases op<;>(try (simp[L4]at c;done))<;>simp only[A9]at h
 case append k sz b m s x=>
  have hm:m=2:=by simp only[L4]at c;split at c<;>first|assumption|(exfalso;omega)
  subst hm;split at h
  . rename_i news i f;obtain rfl:=c6l f;split at h
    . rename_i d;split at h
      . rename_i v j g;simp only[s5,s9,a4H]at h;obtain⟨_,rfl⟩:=h;intro y a;have h1:=b2A g y a;simp only[a9w,E7]at d;obtain⟨⟨_,e⟩,_⟩:=d;simp only[bne_self_eq_false,Bool.false_or,E7,beq_iff_eq]at e;rw[h1,e.2];simp[I1]
      . cases h
    . cases h
  . cases h
 case lookup kt ok z m x=>rw[c7h h];intro y a;cases a
 all_goals
  (repeat' (split at h))<;>(try (cases h;done))<;>(simp only[s5,s9]at h;obtain⟨_,rfl⟩:=h;intro y a;first|(simp only[H5]at a;subst a;simp[I1];done)|(cases a;done))
theorem c7v(h:L4 op=0):I1 op=[]:=by
 cases op<;>(try (simp[L4]at h;done))<;>(try rfl)
 case append k sz b m s x=>simp only[L4]at h;split at h<;>simp at h
def isA:Ob→Bool
 | .arr .. =>true
 |_=>false
def M1:Ob→Bool
 | .var _=>true
 |_=>false
theorem a8K{o:Ob}(h:isA o=true):o≠ .dead:=by cases o<;>simp[isA]at h⊢
theorem b1y{o:Ob}(h:isA o=true):M1 o=false:=by cases o<;>simp[isA]at h⊢ <;>rfl
theorem b7r{ks:List Nat}(h:a4F lk c=some (d,ks)):∀k∈ks,isA (lk k).2=true:=by
 cases c<;>simp only[a4F]at h<;>(try (cases h;done))<;>(try (simp only[s5,s9]at h;obtain⟨_,rfl⟩:=h;intro k a;cases a;done))
 case own k g b s o l=>
  split at h
  . rename_i he;split at h
    . split at h
      . grind
      . simp only[s5,s9]at h;obtain⟨_,rfl⟩:=h;intro e a;simp only[H5]at a;subst a;rw[he];rfl
    . cases h
  . cases h
theorem b3A{lk:D8}:∀{cs b:List PV} {ks:List Nat},a2b lk cs=some (b,ks)→∀k∈ks,isA (lk k).2=true
 | [],b,ks,h=>by simp only[a2b,s5,s9]at h;obtain⟨_,rfl⟩:=h;intro k a;cases a
 |c::cs,b,ks,h=>by
  simp only[a2b]at h;split at h
  . rename_i d f g ls h1 e;split at h
    . simp only[s5,s9]at h;obtain⟨_,rfl⟩:=h;intro k a;rcases I5.1 a with a|a
      . exact b3A e k a
      . exact b7r h1 k a
    . cases h
  . cases h
theorem c5g{e:PV}{ks:List Nat}(h:a7P lk e=some (d,ks)):∀k∈ks,isA (lk k).2=true:=by
 unfold a7P at h;split at h
 . rename_i h1;simp only[s5,s9]at h;obtain⟨_,rfl⟩:=h;exact b3A h1
 . cases h
theorem b6b{lk:D8}:∀{cs b:List PV} {ks:List Nat},a3Q lk cs=some (b,ks)→∀k∈ks,isA (lk k).2=true
 | [],b,ks,h=>by simp only[a3Q,s5,s9]at h;obtain⟨_,rfl⟩:=h;intro k a;cases a
 |c::cs,b,ks,h=>by
  simp only[a3Q]at h;split at h
  . rename_i d f g ls h1 e;split at h
    . simp only[s5,s9]at h;obtain⟨_,rfl⟩:=h;intro k a;rcases I5.1 a with a|a
      . exact b6b e k a
      . exact c5g h1 k a
    . cases h
  . cases h
theorem b6D{ks:List Nat}:∀y∈kill lk ks,y.1∈ks:=fun y a=>by obtain⟨k,b,rfl⟩:=G7.1 a;exact b
theorem c5K{m:Nat}{p:PV}{ws:List (Nat×Row)}(h:a2R lk m p=some (news,ws)):∀y∈ws,isA (lk y.1).2=true:=by
 cases p<;>simp only[a2R]at h<;>(try (cases h;done))<;>(try (simp only[s5,s9]at h;obtain⟨_,rfl⟩:=h;intro y a;cases a;done))
 case own k g c s o l=>
  split at h
  . rename_i he;have d:isA (lk k).2=true:=(by rw[he];rfl);split at h
    . split at h
      . split at h
        . rename_i h1;split at h
          . cases h
          . simp only[s5,s9]at h;obtain⟨_,rfl⟩:=h;intro y a;have:=b6D y a;rcases I5.1 this with b|b
            . exact b6b h1 _ b
            . grind
        . cases h
      . grind
    . cases h
  . cases h
 grind
theorem b3Z{m:Nat}{p:PV}{ws:List (Nat×Row)}(h:a1P lk m p=some (news,ws)):∀y∈ws,isA (lk y.1).2=true:=by
 unfold a1P at h;split at h
 . cases p<;>simp only[a9x]at h<;>(try (cases h;done))
   grind
 . exact c5K h
theorem b0s{h:Heap}(a:(l7 h hide k).2≠ .dead):hide.contains k=false:=by
 unfold l7 at a
 grind
theorem b4A{g b:Nat}{fr c:Bool}{ks vs d e:List PV}(f:lk k=(b,.mp fr ks vs)):∀y∈[((k,(g,Ob.mp c d e)):Nat×Row)],(lk y.1).2≠ .dead∧M1 y.2.2=M1 (lk y.1).2:=by intro y a;simp only[H5]at a;subst a;simp[f,M1]
theorem c0C{a:Nat}{p:PV}{ws:List (Nat×Row)}(h:a5V lk a kt sz z m x=some (p,ws)):∀y∈ws,y.1=a∨((lk y.1).2≠ .dead∧M1 y.2.2=M1 (lk y.1).2):=by
 unfold a5V at h;split at h
 case h_2=>cases h
 split at h
 case h_2=>cases h
 rename_i c;split at h
 case isFalse=>cases h
 split at h
 . split at h
   . split at h
     . split at h
       . split at h
         . simp only[s5,s9]at h;obtain⟨_,rfl⟩:=h;intro y b;rcases Y8.1 b with rfl|b
           . exact .inr (b4A c _ a3x)
           . grind
         . cases h
       . cases h
     . cases h
   . grind
   . cases h
 . grind
 . cases h
theorem d1p{b:Nat}{p:PV}{ws:List (Nat×Row)}(h:a5V lk b kt sz z m x=some (p,ws)):∀y∈ws,M1 y.2.2=false:=by
 unfold a5V at h
 (repeat' (split at h))<;>first
  |(cases h;done)
  |(simp only[s5,s9]at h
    obtain⟨_,rfl⟩:=h;intro y a
    first
     |(cases a;done)
     |(simp only[Y8,List.not_mem_nil,or_false]at a
       rcases a with rfl|rfl<;>rfl))
theorem d0A{h:Heap}{p:PV}{ws:List (Nat×Row)}(i:isApp op=true)(a:A9 ev (l7 h hide) op=some (p,ws))(hs:∀k∈I1 op,hide.contains k=false):∀y∈ws,hide.contains y.1=false:=by
 cases op<;>(try (simp[isApp]at i;done))
 case lookupT k kt sz z m x=>
  intro y c;rcases c0C a y c with e|⟨e,_⟩
  . rw[e];exact hs k (by simp[I1])
  . exact b0s e
 case append k sz b m s x=>
  simp only[A9]at a;split at a
  . rename_i news n j;split at a
    . split at a
      . rename_i v q d;simp only[s5,s9]at a;obtain⟨_,rfl⟩:=a;intro y c;rcases I5.1 c with c|c
        . exact b0s (a8K (b3Z j y c))
        . have h1:=b2A d y c;cases f:ev s
          case own r g t s' o l=>
           rw[f]at h1 d;simp only[a5f]at h1;rw[h1];simp only[a1R]at d;split at d
           . rename_i he;exact b0s (by rw[he];simp)
           . cases d
          all_goals (rw[f]at h1;simp only[a5f]at h1;rw[h1];exact hs k (by simp[I1]))
      . cases a
    . cases a
  . cases a
def Res(FN:N0)(x:l5)(st:B3)(p:PV)(ws:List (Nat×Row)):Prop:=
 (gdO st.loc st.vars x.guard=some false∧p=.tup []∧ws=[])∨
 (gdO st.loc st.vars x.guard=some true∧((∃f args ks al r,x.op=.call f args ks al∧(al=true→args.all (fun a=>a2K (y9 st.loc st.vars a))=true)∧FN.fn f (ks.map (·.2)) (args.map fun a=>fzV (l7 st.heap x.hide) (y9 st.loc st.vars a)) r∧
  a3k st.heap.length ks ((args.map (y9 st.loc st.vars)).any (a1K (l7 st.heap x.hide))) r=true∧p=T4 (M7 ks) (U0 (l7 st.heap x.hide)) r∧ws=I3 (M7 ks) (U0 (l7 st.heap x.hide)) 0 (B4 r))∨
  (∃f args,x.op=.callv f args∧fiH FN.fi x.hide (y9 st.loc st.vars) (y9 st.loc st.vars f) (args.map (y9 st.loc st.vars)) st.heap p ws)∨
  ((∀f a k al,x.op≠ .call f a k al)∧(∀f a,x.op≠ .callv f a)∧(∀f a,x.op≠ .cally f a)∧A9 (y9 st.loc st.vars) (l7 st.heap x.hide) x.op=some (p,ws))))
theorem a3R{FN:N0}{x:l5}{st:B3}{p:PV}{ws:List (Nat×Row)}(h:Res FN x st p ws)(a:L4 x.op≤2):∀y∈ws,y.1∈I1 x.op:=by
 rcases h with⟨_,_,rfl⟩|⟨_,⟨f,args,ks,al,r,b,_,_,c,_,rfl⟩|⟨f,args,b,_⟩|⟨_,_,_,g⟩⟩
 . intro y d;simp at d
 . intro y d;rw[b];unfold a3k at c;simp only[E7]at c;obtain⟨⟨⟨_,_⟩,j⟩,_⟩:=c;obtain⟨i,es,h1,k⟩:=b0R d;have hm:=a5Q (ks:=M7 ks) (gen:=fun _=>0) (q:=0) h1;have e:=B5.1 j _ (G7.2 ⟨_,hm,rfl⟩);rw[E7]at e;have:=a0I.1 e.2;simp only[I1];rw[k];simpa using this
 . rw[b]at a;simp[L4]at a
 . exact b7f a g
theorem b2N{FN:N0}{x:l5}{st:B3}{p:PV}{ws:List (Nat×Row)}(h:Res FN x st p ws)(a:isApp x.op=true)(hs:∀k∈I1 x.op,x.hide.contains k=false):∀y∈ws,x.hide.contains y.1=false:=by
 rcases h with⟨_,_,rfl⟩|⟨_,⟨f,args,ks,al,r,b,_,_,e,_,rfl⟩|⟨f,args,b,_⟩|⟨_,_,_,c⟩⟩
 . intro y d;cases d
 . rw[b]at a;simp[isApp]at a
 . rw[b]at a;simp[isApp]at a
 . exact d0A a c hs
theorem d1O{h h':Heap}(h1:agr [] h h'):h'=h:=a4g fun k=>h1.2 k rfl
theorem b9U{fi:PV→List PV→Heap→PV→List (Nat×Row)→Prop}{a:List PV}{h:Heap}{ws:List (Nat×Row)}(b:fiH fi hide ev v a h r ws):(∀h',agr hide h h'→fi v a h' r ws)∧a2e hide ev ws=true:=by
 cases hide with
 |nil=>exact⟨fun h' e=>by rw[d1O e];exact b,by simp[a2e]⟩
 |cons k l=>exact b
theorem c2B{ws:List (Nat×Row)}(a:a2e hide ev ws=true):∀y∈ws,hide.contains y.1=false:=fun y b=>by unfold a2e at a;rw[E7]at a;simpa using B5.1 a.1 y b
theorem c5i{ws:List (Nat×Row)}(a:a2e hide ev ws=true)(b:hide.contains (n+1000000)=true):a1X ws (ev (avO n))=true:=by
 unfold a2e at a;rw[E7]at a;have:=B5.1 a.2 _ (a0I.1 b);rw[a1j]at this;rcases this with h|h
 . rw[a1J]at h;omega
 . simpa using h
theorem a8j(h:quiet op=true):L4 op=2:=by cases op<;>(try (simp[quiet,a8m,a5A,isLit]at h;done))<;>rfl
section
variable{ks:Nat→Nat×Nat}{gen gen':Nat→Nat}
theorem b9n{a:Nat×Nat}(h:∀es,c=.uslc es→gen a.1=gen' a.1):M5 a gen c=M5 a gen' c:=by
 cases c<;>simp only[M5]
 grind
theorem b8i:∀{cs:List PV} {p:Nat},(∀i es,cs[i]?=some (.uslc es)→gen (ks (p+i)).1=gen' (ks (p+i)).1)→a0K ks gen p cs=a0K ks gen' p cs
 | [],p,_=>rfl
 |c::cs,p,h=>by
  have h1:M5 (ks p) gen c=M5 (ks p) gen' c:=b9n fun es e=>h 0 es (by simp[e]);have a:a0K ks gen (p+1) cs=a0K ks gen' (p+1) cs:=b8i fun i es e=>by have:=h (i+1) es (by simpa using e);rwa[show p+(i+1)=p+1+i by omega]at this
  simp only[a0K];rw[h1,a]
theorem c1I{p:Nat}(h:∀i es,(l6 c)[i]?=some (.uslc es)→gen (ks (p+i)).1=gen' (ks (p+i)).1):a2i ks gen p c=a2i ks gen' p c:=by
 cases c
 case agg cs=>
  have h1:a0K ks gen p cs=a0K ks gen' p cs:=b8i h;simp only[a2i];rw[h1]
 all_goals (simp only[a2i];exact b9n fun es e=>h 0 es (by simp[l6,e]))
theorem c1b:∀{vs:List PV} {p:Nat},(∀i es,(vs.flatMap l6)[i]?=some (.uslc es)→gen (ks (p+i)).1=gen' (ks (p+i)).1)→a1z ks gen p vs=a1z ks gen' p vs
 | [],p,_=>rfl
 |c::vs,p,h=>by
  simp only[a1z];rw[c1I (gen':=gen') fun i es e=>h i es ?_,c1b fun i es e=>?_]
  . have:=h ((l6 c).length+i) es (by rw[a2Z,a4f j4];simpa using e)
    grind
  . grind
theorem c5n(h:∀i es,(B4 r)[i]?=some (.uslc es)→gen (ks i).1=gen' (ks i).1):T4 ks gen r=T4 ks gen' r:=by
 have h0:∀i es,((U2 r).flatMap l6)[i]?=some (.uslc es)→gen (ks (0+i)).1=gen' (ks (0+i)).1:=fun i es e=>by rw[V5];exact h i es e
 cases r
 case tup vs=>simp only[T4];rw[c1b (by simpa[U2]using h0)]
 all_goals (simp only[T4];exact c1I (by simpa[U2]using h0))
theorem c1C:∀{cells:List PV} {p:Nat},(∀i es,cells[i]?=some (.uslc es)→gen (ks (p+i)).1=gen' (ks (p+i)).1)→I3 ks gen p cells=I3 ks gen' p cells
 | [],p,_=>rfl
 |c::cs,p,h=>by
  have hr:=c1C (cells:=cs) (p:=p+1) fun i es e=>by have:=h (i+1) es (by simpa using e);rwa[show p+(i+1)=p+1+i by omega]at this
  cases c<;>simp only[I3]<;>(try exact hr)
  case uslc es=>rw[hr,show gen (ks p).1=gen' (ks p).1 from h 0 es rfl]
end
theorem c5l{lk':D8}{p:PV}(h:a2K p=true):fzV lk p=fzV lk' p:=by
 have a:∀c,(A7 c||(match c with| .nils=>true|_=>false))=true→fzC lk c=fzC lk' c:=fun c a=>by cases c<;>first|rfl|(simp[A7]at a;done)
 cases p
 case agg cs=>
  simp only[fzV];congr 1;exact O1 fun c hm=>a c (B5.1 h c hm)
 case ptr=>simp[a2K,l6,A7]at h
 case eptr=>simp[a2K,l6,A7]at h
 all_goals (simp only[fzV,fzP];refine a _ ?_;simp only[a2K,l6,List.all_cons,List.all_nil,Bool.and_true]at h;exact h)
theorem d0g{p:PV}(h:a2K p=true):a1K lk p=false:=by unfold a1K;rw[List.any_eq_false];intro c hm;have:=B5.1 h c hm;cases c<;>simp[A7,a5t]at this⊢
theorem d1o{ks:List (Nat×Nat)}{own:Bool}(h:a3k n ks own r=true){es:List PV}(hi:(B4 r)[i]?=some (.uslc es)):(M7 ks i).1∈(ks.filter (·.2 !=0)).map (·.1):=by
 unfold a3k at h;simp only[E7]at h;obtain⟨⟨⟨_,_⟩,a⟩,_⟩:=h;have hm:=a5Q (ks:=M7 ks) (gen:=fun _=>0) (q:=0) hi;have b:=B5.1 a _ (G7.2 ⟨_,hm,rfl⟩)
 grind
theorem c1u{ks:List Nat}:∀y∈kill lk ks,y.2.2=.dead:=fun y a=>by obtain⟨k,b,rfl⟩:=G7.1 a;rfl
theorem d1w{m:Nat}{p:PV}{ws:List (Nat×Row)}(h:a2R lk m p=some (news,ws)):∀y∈ws,M1 y.2.2=false:=by
 cases p<;>simp only[a2R]at h<;>(try (cases h;done))<;>(try (simp only[s5,s9]at h;obtain⟨_,rfl⟩:=h;intro y a;cases a;done))
 case own k g b s o l=>
  split at h
  . split at h
    . split at h
      . split at h
        . split at h
          . cases h
          . simp only[s5,s9]at h;obtain⟨_,rfl⟩:=h;intro y a;rw[c1u y a];rfl
        . cases h
      . split at h
        . simp only[s5,s9]at h;obtain⟨_,rfl⟩:=h;split
          . intro y a;cases a
          . intro y a;simp only[H5]at a;subst a;rfl
        . cases h
    . cases h
  . cases h
 grind
theorem b2Q{m:Nat}{p:PV}{ws:List (Nat×Row)}(h:a1P lk m p=some (news,ws)):∀y∈ws,M1 y.2.2=false:=by
 unfold a1P at h;split at h
 . cases p<;>simp only[a9x]at h<;>(try (cases h;done))
   grind
 . exact d1w h
theorem c0k{ws:List (Nat×Row)}(h:a1R lk k sz b s news=some (v,ws)):∀y∈ws,M1 y.2.2=false:=by
 cases s<;>simp only[a1R]at h<;>(try (cases h;done))
 all_goals
  (repeat' (split at h))<;>(try (cases h;done))<;>(simp only[s5,s9]at h;obtain⟨_,rfl⟩:=h;intro y a;simp only[H5]at a;subst a;rfl)
theorem c9N{ws:List (Nat×Row)}(h:a1R lk k sz b s news=some (v,ws)):∀y∈ws,y.1=k∨isA (lk y.1).2=true:=by
 intro y a;have h1:=b2A h y a;cases s<;>simp only[a1R]at h<;>(try (cases h;done))
 case nils=>exact .inl h1
 case ne=>exact .inl h1
 case own c g d s' o l=>
  simp only[a5f]at h1;split at h
  . rename_i he;rw[h1,he];exact .inr rfl
  . cases h
theorem a9Z{a:PV}{ws:List (Nat×Row)}(h:a5b lk sz a v=some ws):∀y∈ws,(lk y.1).2≠ .dead∧M1 y.2.2=M1 (lk y.1).2:=by
 unfold a5b at h;split at h
 . cases a<;>(try (cases h;done))
   case ptr k g o=>
    dsimp only at h;split at h
    . rename_i he;split at h
      . cases h;intro y b;simp only[H5]at b;subst b;rw[he];exact⟨k8,rfl⟩
      . cases h
    . cases h
   case eptr k g d s i j=>
    dsimp only at h;split at h
    . rename_i he;split at h
      . split at h
        . split at h
          . split at h
            . rename_i c;split at h
              . cases h
              . cases h;intro y b;rcases I5.1 b with b|b
                . have h1:=b3A c _ (b6D y b);exact⟨a8K h1,by rw[c1u y b,b1y h1];rfl⟩
                . simp only[H5]at b;subst b;rw[he];exact⟨k8,rfl⟩
            . cases h
          . cases h
        . cases h
      . cases h
    . cases h
   case nptr k g ver s i j m l=>
    dsimp only at h;split at h
    . rename_i he;split at h
      . split at h
        . split at h
          . split at h
            . split at h
              . cases h;intro y b;simp only[H5]at b;subst b;rw[he];exact⟨k8,rfl⟩
              . cases h
            . cases h
          . cases h
        . cases h
      . cases h
    . cases h
 . cases h
theorem c8z{a:PV}{ws:List (Nat×Row)}(h:a7N lk n a v=some ws):∀y∈ws,(lk y.1).2≠ .dead∧M1 y.2.2=M1 (lk y.1).2:=by
 cases a<;>simp only[a7N]at h<;>(try exact a9Z h)
 case eptr k g d s i j=>
  split at h
  . cases v<;>(try (cases h;done));simp only[]at h;split at h
    . rename_i e sz ver fr es c;split at h
      . simp only[s5]at h;subst h;intro y b;simp only[H5]at b;subst b;rw[c];exact⟨k8,rfl⟩
      . cases h
    . cases h
  . exact a9Z h
theorem c5H{p:PV}{b ws:List (Nat×Row)}(h:a7t lk sz d news b=some (p,ws))(h0:∀y∈b,isA (lk y.1).2=true∧M1 y.2.2=false):∀y∈ws,isA (lk y.1).2=true∧M1 y.2.2=false:=by
 unfold a7t at h;split at h
 . cases d<;>(try (cases h;done))
   case nils=>simp only[s5,s9]at h;obtain⟨_,rfl⟩:=h;exact h0
   case' own k g c s o l=>skip
   case' osl k g c s o l=>skip
   all_goals
    dsimp only at h;split at h
    . rename_i he;split at h
      . split at h
        . grind
        . simp only[s5,s9]at h;obtain⟨_,rfl⟩:=h;intro y a;rcases I5.1 a with a|a
          . exact h0 y a
          . simp only[H5]at a;subst a;rw[he];exact⟨rfl,rfl⟩
      . cases h
    . cases h
 . cases h
theorem c5I{ks:List Nat}(h:a6t lk c=some (d,ks)):∀k∈ks,isA (lk k).2=true:=by
 unfold a6t at h;split at h
 . exact b7r h
 . grind
theorem c7M{p:PV}{ws:List (Nat×Row)}(h:a7u lk kt m x v=some (p,ws)):∀y∈ws,(lk y.1).2≠ .dead∧M1 y.2.2=M1 (lk y.1).2:=by
 unfold a7u at h;split at h
 case h_2=>cases h
 split at h
 case h_2=>cases h
 rename_i b;split at h
 case isFalse=>cases h
 split at h
 case h_2=>cases h
 rename_i c;split at h
 case isTrue=>cases h
 have key:∀{ks vs:List PV} {g:Nat},∀y∈(kill lk _++[(_,(g,Ob.mp false ks vs))]:List (Nat×Row)),(lk y.1).2≠ .dead∧M1 y.2.2=M1 (lk y.1).2:=fun y a=>by
  rcases I5.1 a with a|a
  . simp only[kill,G7]at a;obtain⟨k,d,rfl⟩:=a;have:=c5I c k d;exact⟨a8K this,by rw[b1y this];rfl⟩
  . exact b4A b y a
 grind
theorem c7H{p:PV}{ws:List (Nat×Row)}(h:a7p lk m=some (p,ws)):∀y∈ws,(lk y.1).2≠ .dead∧M1 y.2.2=M1 (lk y.1).2:=by
 unfold a7p at h;split at h
 . split at h
   . rename_i a;split at h
     . simp only[s5,s9]at h;obtain⟨_,rfl⟩:=h;exact b4A a
     . cases h
   . cases h
 . grind
 . cases h
theorem c8Z{p:PV}{ws:List (Nat×Row)}(h:a7E lk z m=some (p,ws)):∀y∈ws,(lk y.1).2≠ .dead∧M1 y.2.2=M1 (lk y.1).2:=by
 unfold a7E at h;split at h
 . grind
 . split at h
   . rename_i b
     (repeat' (split at h))<;>(try (cases h;done))
     simp only[s5,s9]at h;obtain⟨_,rfl⟩:=h;intro y a;simp only[H5]at a;subst a;rw[b];exact⟨k8,rfl⟩
   . cases h
 . cases h
theorem c6Y{p:PV}{ws:List (Nat×Row)}(h:A9 ev lk op=some (p,ws)):∀y∈ws,y.1∈I1 op∨((lk y.1).2≠ .dead∧M1 y.2.2=M1 (lk y.1).2):=by
 have i:∀{ws:List (Nat×Row)},(∀y∈ws,isA (lk y.1).2=true∧M1 y.2.2=false)→∀y∈ws,y.1∈I1 op∨((lk y.1).2≠ .dead∧M1 y.2.2=M1 (lk y.1).2):=fun h y c=>by obtain⟨h1,o⟩:=h y c;exact .inr ⟨a8K h1,by rw[o,b1y h1]⟩
 by_cases j:L4 op≤2
 . exact fun y c=>.inl (b7f j h y c)
 . cases op<;>(try (simp[L4]at j;done))<;>simp only[A9]at h<;>(try (cases h;done))
   case store sz a v=>
    split at h
    . rename_i g hs;simp only[s5,s9]at h;obtain⟨_,rfl⟩:=h;exact fun y c=>.inr (a9Z hs y c)
    . cases h
   case storeN sz a v av=>
    split at h
    . rename_i g hs;split at h
      . simp only[s5,s9]at h;obtain⟨_,rfl⟩:=h;exact fun y c=>.inr (a9Z hs y c)
      . cases h
    . cases h
   case mapUpd kt m x v=>exact fun y c=>.inr (c7M h y c)
   case clearM m=>exact fun y c=>.inr (c7H h y c)
   case clearS z x=>exact fun y c=>.inr (c8Z h y c)
   case lookupT k kt sz z m x=>exact fun y c=>(c0C h y c).imp (fun e=>by simp[I1,e]) id
   case storeA n a v=>
    split at h
    . rename_i g hs;simp only[s5,s9]at h;obtain⟨_,rfl⟩:=h;exact fun y c=>.inr (c8z hs y c)
    . cases h
   case append k sz b m s x=>
    split at h
    . rename_i news q f;split at h
      . split at h
        . rename_i v g l;simp only[s5,s9]at h;obtain⟨_,rfl⟩:=h;intro y c;rcases I5.1 c with c|c
          . exact i (fun y c=>⟨b3Z f y c,b2Q f y c⟩) y c
          . rcases c9N l y c with h1|h1
            . exact .inl (by rw[h1];simp[I1])
            . exact .inr ⟨a8K h1,by rw[c0k l y c,b1y h1]⟩
        . cases h
      . cases h
    . cases h
   case copy sz d s=>
    split at h
    . rename_i news q f;exact i (c5H h fun y c=>⟨b3Z f y c,b2Q f y c⟩)
    . cases h
theorem b7M{FN:N0}{x:l5}{st:B3}{p:PV}{ws:List (Nat×Row)}(h:Res FN x st p ws)(c:a4C x.op=false):∀y∈ws,y.1∈I1 x.op∨(x.hide.contains y.1=false∧M1 y.2.2=M1 (st.heap.getD y.1 (0,.dead)).2):=by
 have h0:=h;rcases h with⟨_,_,rfl⟩|⟨_,⟨f,args,ks,al,r,b,_,_,i,_,rfl⟩|⟨f,args,b,_⟩|⟨_,_,_,e⟩⟩
 . intro y a;cases a
 . exact fun y a=>.inl (a3R h0 (by rw[b];exact p7 _) y a)
 . rw[b]at c;cases c
 . intro y a;refine(c6Y e y a).imp id fun⟨h1,g⟩=>?_;have d:=b0s h1;refine⟨d,?_⟩;rw[g];unfold l7;rw[d];rfl
theorem b6M:∀{ws:List (Nat×Row)} {h:Heap} {k:Nat} {r:Row},(p8 h ws)[k]?=some r→(k,r)∈ws∨h[k]?=some r
 | [],h,k,r,e=>.inr e
 |x::ws,h,k,r,e=>by
  rcases b6M (show(p8 (h.set x.1 x.2) ws)[k]?=some r from e)with e|e
  all_goals grind
theorem b3i{FN:N0}{Q:B3→Prop}:∀{xs:List l5} {st:B3},xs.any (fun x=>a7K x.op)=false→E9 FN xs st Q→∃(T:Nat→B3) (p:Nat→PV) (ws:Nat→List (Nat×Row)),T 0=st∧Q (T xs.length)∧
 ∀i x,xs[i]?=some x→Res FN x (T i) (p i) (ws i)∧T (i+1)=⟨(T i).loc++[p i],I8 (T i).vars x.var (p i),p8 (T i).heap (ws i)⟩
 | [],st,_,h=>⟨fun _=>st,fun _=>.uu,fun _=>[],rfl,h,fun i x g=>by simp at g⟩
 |x::xs,st,k,h=>by
  simp only[List.any_cons,Bool.or_eq_false_iff]at k;have o:∀f a,x.op≠ .cally f a:=fun f a e=>by rw[e]at k;cases k.1
  have:∃p ws,Res FN x st p ws∧E9 FN xs ⟨st.loc++[p],I8 st.vars x.var p,p8 st.heap ws⟩ Q:=by
   cases d:gdO st.loc st.vars x.guard with
   |none=>simp only[E9,d]at h
   |some c=>
    cases c with
    |false=>simp only[E9,d]at h;exact⟨_,[],.inl ⟨d,rfl,rfl⟩,h⟩
    |true=>
     by_cases l:∃f b ks j,x.op=.call f b ks j
     . obtain⟨f,b,ks,j,g⟩:=l;simp only[E9,d,g]at h;obtain⟨r,q,m,s,h'⟩:=h;exact⟨_,_,.inr ⟨d,.inl ⟨f,b,ks,j,r,g,q,m,s,rfl,rfl⟩⟩,h'⟩
     . by_cases n:∃f b,x.op=.callv f b
       . obtain⟨f,b,g⟩:=n;simp only[E9,d,g]at h;obtain⟨r,ws,m,h'⟩:=h;exact⟨_,_,.inr ⟨d,.inr (.inl ⟨f,b,g,m⟩)⟩,h'⟩
       . obtain⟨p,ws,t,h'⟩:=b8l (fun f b ks j e=>l ⟨f,b,ks,j,e⟩) (fun f b e=>n ⟨f,b,e⟩) o d h;exact⟨p,ws,.inr ⟨d,.inr (.inr ⟨fun f b ks j e=>l ⟨f,b,ks,j,e⟩,fun f b e=>n ⟨f,b,e⟩,o,t⟩)⟩,h'⟩
  obtain⟨u,v,h0,h1⟩:=this;obtain⟨T,p,ws,t1,t2,t3⟩:=b3i k.2 h1;refine⟨fun i=>match i with|0=>st|i+1=>T i,fun i=>match i with|0=>u|i+1=>p i,fun i=>match i with|0=>v|i+1=>ws i,rfl,t2,fun i y w=>?_⟩
  grind
def K0(q:Nat→Bool):Nat→Option Nat
 |0=>none
 |i+1=>if q i then some i else K0 q i
theorem b9r{q:Nat→Bool}:∀{n j:Nat},K0 q n=some j→j<n∧q j=true
 |0,j,h=>by simp[K0]at h
 |n+1,j,h=>by
  simp only[K0]at h;split at h
  . grind
  . obtain⟨h1,a⟩:=b9r h;exact⟨j4,a⟩
theorem a8p{q q':Nat→Bool}:∀{n:Nat},(∀j,j<n→q j=q' j)→K0 q n=K0 q' n
 |0,_=>rfl
 |n+1,h=>by simp only[K0];rw[h n j4,a8p fun j hj=>h j j4]
theorem b3v{q:Nat→Bool}{i:Nat}:∀{n:Nat},i≤n→(∀j,i≤j→j<n→q j=false)→K0 q n=K0 q i
 |0,h,_=>by
  obtain rfl:i=0:=j4;rfl
 |n+1,h,a=>by
  by_cases hi:i=n+1
  . subst hi;rfl
  . simp only[K0];rw[a n j4 j4,if_neg k8];exact b3v j4 fun j h1 b=>a j h1 j4
theorem b2Y(hi:i<n)(hS:S i=false)(a:∀j,j<n→((j<i∧S j=false)∨(i<j∧S j=true))→q j=false):K0 (fun j=>S j&&q j) n=K0 q i:=by
 rw[b3v (a6b hi) fun j h1 b=>?_]
 . refine a8p fun j hj=>?_;cases hs:S j
   . grind
   . rfl
 . grind
theorem b9y(hi:i<n)(a:q i=true)(b:∀j,j<n→i<j→S j=true→q j=false):K0 (fun j=>(S j||j==i)&&q j) n=some i:=by
 rw[b3v (i:=i+1) j4 fun j h1 c=>?_]
 . simp only[K0];simp[a]
 . grind
theorem c1Z(a:q i=false):K0 (fun j=>(S j||j==i)&&q j) n=K0 (fun j=>S j&&q j) n:=by grind
theorem b1V{ops:List Oper}{t:Nat}:∀{i:Nat},a0M ops t i=K0 (fun j=>decide ((ops[j]?).bind (·.dst)=some t)) i
 |0=>rfl
 |i+1=>by simp only[a0M,K0,decide_eq_true_eq];rw[b1V]
theorem b6u:∀{ws:List (Nat×Row)} {h h':Heap} {k:Nat},k∈ws.map (·.1)→h.length=h'.length→(p8 h ws)[k]?=(p8 h' ws)[k]?
 | [],_,_,_,a,_=>by simp at a
 |(b,r)::ws,h,h',k,a,c=>by
  show(p8 (h.set b r) ws)[k]?=(p8 (h'.set b r) ws)[k]?;by_cases hm:k∈ws.map (·.1)
  . exact b6u hm (by simpa using c)
  . have:k=b:=(by simp only[a0s,Y8]at a;exact a.resolve_right hm);subst this;rw[a5S _ _ _ hm,a5S _ _ _ hm,List.getElem?_set_self',List.getElem?_set_self']
    grind
structure Trace(FN:N0)(xs:List l5)(vars:List PV)(h:Heap)(T:Nat→B3)(p:Nat→PV)(ws:Nat→List (Nat×Row)):Prop where
 t0:T 0=⟨[],vars,h⟩
 st:∀i x,xs[i]?=some x→Res FN x (T i) (p i) (ws i)∧T (i+1)=⟨(T i).loc++[p i],I8 (T i).vars x.var (p i),p8 (T i).heap (ws i)⟩
section
variable{FN:N0}{xs:List l5}{vars:List PV}{h:Heap}{T:Nat→B3}{p:Nat→PV}{ws:Nat→List (Nat×Row)}
theorem Trace.next(t:Trace FN xs vars h T p ws)(hi:i<xs.length):T (i+1)=⟨(T i).loc++[p i],I8 (T i).vars (xs[i]).var (p i),p8 (T i).heap (ws i)⟩:=(t.st i _ (l9 hi)).2
theorem Trace.loc(t:Trace FN xs vars h T p ws):∀{i:Nat},i≤xs.length→(T i).loc.length=i∧∀j,j<i→(T i).loc.getD j .uu=p j
 |0,_=>by rw[t.t0];exact⟨rfl,fun j hj=>j4⟩
 |i+1,hi=>by
  obtain⟨h1,a⟩:=t.loc (i:=i) j4;rw[t.next j4]
  grind
theorem Trace.len(t:Trace FN xs vars h T p ws):∀{i:Nat},i≤xs.length→(T i).heap.length=h.length
 |0,_=>by rw[t.t0]
 |i+1,hi=>by rw[t.next j4];simp only[a5v];exact t.len j4
theorem Trace.c7e(t:Trace FN xs vars h T p ws)(hi:i<xs.length)(a:a4C (xs[i]).op=false)(b:k∉I1 (xs[i]).op):M1 ((T (i+1)).heap.getD k (0,.dead)).2=M1 ((T i).heap.getD k (0,.dead)).2:=by
 rw[t.next hi];simp only;have hr:=b7M (t.st i _ (l9 hi)).1 a;rw[B0];cases he:(p8 (T i).heap (ws i))[k]? with
 |none=>
  have:(T i).heap.length≤k:=by have:=List.getElem?_eq_none_iff.1 he;rwa[a5v]at this
  rw[B0,a0i this]
 |some r=>
  simp only[a4L];rcases b6M he with hm|hm
  . grind
  . grind
theorem Trace.kinds(t:Trace FN xs vars h T p ws)(b:∀m (hm:m<xs.length),a4C (xs[m]).op=false){k a:Nat}:∀{n:Nat},a+n≤xs.length→(∀m (hm:m<xs.length),a≤m→m<a+n→k∉I1 (xs[m]).op)→M1 ((T (a+n)).heap.getD k (0,.dead)).2=M1 ((T a).heap.getD k (0,.dead)).2
 |0,_,_=>rfl
 |n+1,d,hm=>by rw[show a+(n+1)=a+n+1 by omega,t.c7e j4 (b _ j4) (hm (a+n) j4 j4 j4)];exact t.kinds b j4 fun m c h1 e=>hm m c h1 j4
def wr(ws:Nat→List (Nat×Row))(k j:Nat):Bool:=((ws j).map (·.1)).contains k
theorem Trace.heap(t:Trace FN xs vars h T p ws)(k:Nat):∀{i:Nat},i≤xs.length→(T i).heap[k]?=match K0 (wr ws k) i with|some j=>(T (j+1)).heap[k]?|none=>h[k]?
 |0,_=>by rw[t.t0];rfl
 |i+1,hi=>by
  simp only[K0];by_cases hw:wr ws k i=true
  . rw[if_pos hw]
  . rw[if_neg hw,←t.heap k (i:=i) j4,t.next j4];exact a5S _ _ _ fun hm=>hw (a0I.2 hm)
theorem Trace.vr(t:Trace FN xs vars h T p ws){q:Nat→Bool}{k:Nat}(c:∀j (hj:j<xs.length),(xs[j]).var=some k→q j=true)(d:∀j (hj:j<xs.length),q j=true→(xs[j]).var=some k):∀{i:Nat},i≤xs.length→(T i).vars.getD k .uu=.uu∨(T i).vars.getD k .uu=match K0 q i with|some j=>p j|none=>vars.getD k .uu
 |0,_=>by rw[t.t0];exact .inr rfl
 |i+1,hi=>by
  simp only[K0];have b:i<xs.length:=j4;rw[t.next b];by_cases a:(xs[i]).var=some k
  . rw[if_pos (c i b a),a];simp only[I8,B0]
    grind
  . rw[if_neg fun e=>a (d i b e)];have:(I8 (T i).vars (xs[i]).var (p i)).getD k .uu=(T i).vars.getD k .uu:=by
     cases f:(xs[i]).var with
     |none=>rfl
     |some g=>
      simp only[I8,B0];rw[F4 fun e=>a (by rw[f,e])]
    rw[this];exact t.vr c d j4
end
end
end
section
variable{P:Program}{B:Nat}{Z0:Nat→Prop}{W0:M8 B}
def b9V(x y:N3):Prop:=y=x∨∃sz a v av,x=.store sz a v∧y=.storeN sz a v av
theorem b4b{ws:List Nat}{xs:List l5}{i:Nat}{x:l5}:b9V x.op (a2A ws xs i x).op∧(a2A ws xs i x).guard=x.guard∧(a2A ws xs i x).var=x.var∧I1 (a2A ws xs i x).op=I1 x.op∧∀k∈a8d ws xs i,k∈(a2A ws xs i x).hide:=by
 unfold a2A;split
 . rename_i h1 b;exact⟨.inr ⟨_,_,_,_,h1,rfl⟩,rfl,rfl,by rw[h1];rfl,fun k a=>a⟩
 . rename_i h1;exact⟨.inl h1.symm,rfl,rfl,by rw[h1],fun k a=>a4M _ a⟩
 . exact⟨.inl rfl,rfl,rfl,rfl,fun k a=>a⟩
structure b7E(P:Program)(vs:List Nat)(N:Nat)(ops:List Oper)(i:Nat)(o:Oper)(x:l5):Prop where
 op:∃k app al x0,a2H P (a6C o (a0l vs ops i)) k app al o.type o.op=some x0∧b9V x0 x.op
 gd:(match o.guard with
     |none=>some none
     |some (j,b)=>match(ops[j]?).bind (·.dst)with
      |some t=>(a0l vs ops i (.tmp t)).map fun d=>some (d,b)
      |none=>none)=some x.guard
 var:x.var=o.dst.bind (vs.idxOf? ·)
 dst:∀t,o.dst=some t→t<N
theorem c0m{vs:List Nat}{N:Nat}{ops:List Oper}{al:Bool}:∀(rest:List Oper) (acc:List l5) (k b:Nat) (xs:List l5),ops.drop acc.length=rest→a5d P vs N ops al acc k rest=some (xs,b)→
 ∃tail,xs=acc++tail∧tail.length=rest.length∧∀(i:Nat) o,rest[i]?=some o→∃x,tail[i]?=some x∧b7E P vs N ops (acc.length+i) o x∧∃k app al,a2H P (a6C o (a0l vs ops (acc.length+i))) k app al o.type o.op=some x.op
 | [],acc,k,b,xs,e,a=>by
  simp only[a5d,s5,s9]at a;exact⟨[],by simp[a.1],rfl,fun i o l=>by simp at l⟩
 |o::rest,acc,k,b,xs,e,a=>by
  have r:ops.drop (acc.length+1)=rest:=by rw[←a2V,e];rfl
  simp only[a5d]at a;split at a
  . cases a
  . rename_i c f;split at a
    . cases a
    . rename_i g m;split at a
      . rename_i h;obtain⟨tail,rfl,h1,n⟩:=c0m rest (acc++[{op:=c,var:=o.dst.bind (vs.idxOf? ·),guard:=g,hide:=[]}]) (k+b4Y c) b xs (by grind) a;refine⟨{op:=c,var:=o.dst.bind (vs.idxOf? ·),guard:=g,hide:=[]}::tail,k8,by simp[h1],fun i y d=>?_⟩;cases i with
        |zero=>
         simp only[List.getElem?_cons_zero,s5]at d;subst d;exact⟨_,rfl,⟨⟨_,_,_,_,f,.inl rfl⟩,m,rfl,fun t p=>by simp only[b2X,p]at h;simpa[a1J]using h⟩,_,_,_,f⟩
        |succ i=>
         obtain⟨x,q,j⟩:=n i y (by simpa using d);refine⟨x,by simpa using q,?_⟩;simp only[Z9,S9,a6U]at j;rw[show acc.length+(i+1)=acc.length+1+i by omega];exact j
      . cases a
theorem c7P{acc:List Nat}{o:Oper}{j:Nat}(h:(waitsFor acc o).testBit j=true):∃e∈o.after.toList,Region.binds .any e=true∧e.on<acc.length∧(j=e.on∨(acc.getD e.on 0).testBit j=true):=by
 unfold waitsFor at h;generalize o.after.toList=l at h
 induction l with
 |nil=>simp at h
 |cons e l b=>
  simp only[List.foldr_cons]at h;split at h
  . rename_i a;simp only[E7,a1J]at a
    grind
  . grind
theorem b5l:∀(rest:List Oper) (acc:List Nat),∃tail,I2 acc rest=acc++tail∧tail.length=rest.length∧∀(i:Nat) o,rest[i]?=some o→tail[i]?=some (waitsFor (acc++tail.take i) o)
 | [],acc=>⟨[],by simp[I2],rfl,fun i o b=>by simp at b⟩
 |o::rest,acc=>by
  obtain⟨tail,h1,c,d⟩:=b5l rest (acc++[waitsFor acc o]);refine⟨waitsFor acc o::tail,by simp[I2,h1],by simp[c],fun i y a=>?_⟩;cases i with
  |zero=>simp only[List.getElem?_cons_zero,s5]at a;subst a;simp
  |succ i=>have:=d i y (by simpa using a);simpa using this
theorem a9z{ops:List Oper}{i j:Nat}{o:Oper}(b:ops[i]?=some o)(h:((I2 [] ops).getD i 0).testBit j=true):∃e∈o.after.toList,Region.binds .any e=true∧e.on<i∧(j=e.on∨((I2 [] ops).getD e.on 0).testBit j=true):=by
 obtain⟨tail,h1,c,a⟩:=b5l ops [];simp only[a4H]at h1 a;rw[h1]at h⊢;have hi:i<tail.length:=by grind
 rw[B0,a i o b,a4L]at h;obtain⟨e,d,f,g,k⟩:=c7P h
 grind
theorem c8U{acc:List Nat}{o:Oper}{e:Edge}(he:e∈o.after.toList)(hb:Region.binds .any e=true)(b:e.on<acc.length){j:Nat}(hj:(acc.getD e.on 0).testBit j=true):(waitsFor acc o).testBit j=true:=by
 unfold waitsFor;generalize o.after.toList=l at he
 induction l with
 |nil=>cases he
 |cons a l c=>
  simp only[List.foldr_cons];rcases Y8.1 he with rfl|he
  . rw[if_pos (by simp[hb,b])]
    grind
  . grind
theorem b8K{ops:List Oper}{m i:Nat}(f:((I2 [] ops).getD m 0).testBit i=true):∀(j:Nat),j<ops.length→((I2 [] ops).getD j 0).testBit m=true→((I2 [] ops).getD j 0).testBit i=true:=by
 intro j
 induction j using Nat.strongRecOn with
 |_ j g=>
  intro hj h1;obtain⟨e,b,c,d,h⟩:=a9z (l9 hj) h1;have a:((I2 [] ops).getD e.on 0).testBit i=true:=by grind
  obtain⟨tail,t1,t2,t3⟩:=b5l ops [];simp only[a4H]at t1 t3;rw[t1]at a⊢;rw[B0,t3 j _ (l9 hj),a4L];refine c8U b c F6 ?_;simp only[B0,a0H,if_pos d]at a⊢;exact a
theorem a9T:∀{ops:List Oper} {k:Nat},a4z k ops=true→∀(i:Nat) o,ops[i]?=some o→∀e∈o.after.toList,Region.binds .any e=true→e.on<k+i
 | [],_,_,i,o,b=>by simp at b
 |o::r,k,h,i,y,a=>by
  simp only[a4z,E7]at h;cases i with
  |zero=>
   simp only[List.getElem?_cons_zero,s5]at a;subst a;intro e he hb;have:=Array.all_eq_true'.1 h.1 e (by simpa using he);rw[hb]at this;simpa[a1J]using this
  |succ i=>
   intro e he hb;have:=a9T h.2 i y (by simpa using a) e he hb;omega
structure a0G(P:Program)(vs:List Nat)(N:Nat)(ops:List Oper)(xs:List l5):Prop where
 len:xs.length=ops.length
 ok:∀i o,ops[i]?=some o→∃x,xs[i]?=some x∧b7E P vs N ops i o x
 un:∀i j x y a b,xs[i]?=some x→xs[j]?=some y→ops[i]?=some a→ops[j]?=some b→P8 (I2 [] ops) i j=true→
  a.apart ops.toArray b=true∧b.apart ops.toArray a=true∧a2r x y=true∧∀k∈I1 y.op,k∈x.hide
 ed:a4z 0 ops=true
 cy:xs.any (fun x=>a7K x.op)=false
 av:∀y∈xs,avV xs y=true
 cv:∀(i j:Nat) (x y:l5),xs[i]?=some x→xs[j]?=some y→a5A x.op=true→a4C y.op=false
theorem a9q{ws:List Nat}{i j:Nat}(h:P8 ws i j=true):P8 ws j i=true:=by
 unfold P8 at*;split at h
 . grind
 . grind
theorem c3f{x y:l5}(h:a2r x y=true):a2r y x=true:=by
 unfold a2r at*;simp only[a1j,E7,decide_eq_true_eq,beq_iff_eq]at*;rcases h with(((((((h|h)|h)|h)|h)|h)|h)|h)
 . omega
 . omega
 . omega
 all_goals grind
theorem b5a{vs:List Nat}{N k w:Nat}{ops:List Oper}{xs:List l5}(h:a5g P vs N k ops true=some (xs,w)):a0G P vs N ops xs:=by
 unfold a5g at h;split at h
 . cases h
 . rename_i c g z;simp only[if_true]at h;split at h
   . rename_i hd;unfold b8P at hd;simp only[E7]at hd;obtain⟨⟨⟨⟨A,B⟩,S⟩,hd⟩,C⟩:=hd;simp only[s5,s9]at h;obtain⟨rfl,rfl⟩:=h;obtain⟨tail,h1,D,s⟩:=c0m ops [] k g c rfl z;simp only[a4H,a6U,V5]at h1 s;subst h1;have t:∀(i:Nat),((c.zipIdx.map fun y=>a2A (I2 [] ops) c y.2 y.1)[i]?)=(c[i]?).map fun x=>a2A (I2 [] ops) c i x:=fun i=>by
      rw[H6,List.getElem?_zipIdx];cases c[i]?<;>simp
     refine⟨by simp[D],fun i o E=>?_,fun i j x y a b n l p hb hu=>?_,C,?_,fun y l=>B5.1 A y l,fun i j x y n l T=>?_⟩
     . obtain⟨x,F,f,m,G,H,I⟩:=s i o E;obtain⟨l1,J,K,_⟩:=b4b (ws:=I2 [] ops) (xs:=c) (i:=i) (x:=x);refine⟨a2A (I2 [] ops) c i x,by rw[t,F];rfl,⟨m,G,H,_,I,l1⟩,by rw[J];exact f.gd,by rw[K];exact f.var,f.dst⟩
     . rw[t]at n l;obtain⟨x0,u,rfl⟩:=C9.1 n;obtain⟨d,q,rfl⟩:=C9.1 l;have L:i<ops.length:=(C0.1 p).1;have M:j<ops.length:=(C0.1 hb).1;have key:∀(i j:Nat) (x0 d:l5) (a b:Oper),i<j→j<ops.length→c[i]?=some x0→c[j]?=some d→ops[i]?=some a→ops[j]?=some b→P8 (I2 [] ops) j i=true→a.apart ops.toArray b=true∧b.apart ops.toArray a=true∧a2r (a2A (I2 [] ops) c i x0) (a2A (I2 [] ops) c j d)=true:=(by grind);have O:i≠j:=fun e=>(by subst e;simp[P8]at hu);have f:∀k∈I1 (a2A (I2 [] ops) c j d).op,k∈(a2A (I2 [] ops) c i x0).hide:=fun k v=>by
        rw[(b4b (ws:=I2 [] ops) (xs:=c) (i:=j) (x:=d)).2.2.2.1]at v;refine(b4b (ws:=I2 [] ops) (xs:=c) (i:=i) (x:=x0)).2.2.2.2 k ?_;unfold a8d;refine List.mem_flatten.2 ⟨I1 d.op,G7.2 ⟨(d,j),a7U.2 ⟨?_,by simpa using hu⟩,rfl⟩,v⟩;exact List.mem_zipIdx_iff_getElem?.2 q
       rcases b1Z O with Q|R
       . obtain⟨g,m,r⟩:=key i j x0 d a b Q M u q p hb (a9q hu);exact⟨g,m,r,f⟩
       . obtain⟨g,m,r⟩:=key j i d x0 b a R L q u hb p hu;exact⟨m,g,c3f r,f⟩
     . simpa using B
     . grind
   . cases h
end
section
variable{x y:l5}{j k t:Nat}{o:Oper}{q:PV}
def dq(ops:List Oper)(t:Nat)(j:Nat):Bool:=decide ((ops[j]?).bind (·.dst)=some t)
structure a1f(P:Program)(B:Nat)(Z0:Nat→Prop)(W0:M8 B)(vs:List Nat)(N:Nat)(ops:List Oper)(vars:List PV)(h:Heap)(T:Nat→B3)(p:Nat→PV)(ws:Nat→List (Nat×Row))(S:Nat→Bool)(G:Gh)(hS:Heap)(a:Act)(w:World):Prop where
 hr:s6 B Z0 G hS w
 len:hS.length=h.length
 hp:∀k:Nat,hS[k]?=match K0 (fun j=>S j&&wr ws k j) ops.length with|some j=>(T (j+1)).heap[k]?|none=>h[k]?
 slw:∀t j,K0 (fun j=>S j&&dq ops t j) ops.length=some j→∃v,a.tmps[t]?=some v∧j9 G hS w D v (p j)
 sl0:∀t,K0 (fun j=>S j&&dq ops t j) ops.length=none→∀k,vs[k]?=some t→∃v,a.tmps[t]?=some v∧j9 G hS w D v (vars.getD k .uu)
 sz:a.tmps.size=N
 df:a0p W0.m a.defers w
 be:W0.psi (W3 vs vars) G hS w
section
variable{P:Program}{B:Nat}{Z0:Nat→Prop}{W0:M8 B}{vs:List Nat}{N:Nat}{ops:List Oper}{xs:List l5}{vars:List PV}{h:Heap}{T:Nat→B3}{p:Nat→PV}{ws:Nat→List (Nat×Row)}{S:Nat→Bool}{G G':Gh}{hS:Heap}{a:Act}{w w':World}
structure Next(ops:List Oper)(S:Nat→Bool)(i:Nat):Prop where
 lt:i<ops.length
 out:S i=false
 down:∀j k,S j=true→j<ops.length→((I2 [] ops).getD j 0).testBit k=true→S k=true
 mine:∀k,((I2 [] ops).getD i 0).testBit k=true→S k=true
theorem Next.a7A{i:Nat}(n:Next ops S i)(hj:j<ops.length)(h:(j<i∧S j=false)∨(i<j∧S j=true)):P8 (I2 [] ops) i j=true:=by
 unfold P8;rcases h with⟨h1,a⟩|⟨h1,a⟩
 . rw[if_pos h1];cases hb:((I2 [] ops).getD i 0).testBit j
   . rfl
   . have:=n.mine j hb;rw[a]at this;cases this
 . rw[if_neg j4,if_pos h1];cases hb:((I2 [] ops).getD j 0).testBit i
   . rfl
   . have:=n.down j i a hj hb;rw[n.out]at this;cases this
theorem a5R(a:ops[j]?=some o):dq ops t j=true↔o.dst=some t:=by unfold dq;rw[a];simp
theorem c6L(d:a0G P vs N ops xs){i:Nat}(n:Next ops S i)(a:ops[i]?=some o)(c:t∈o.looksAt ops.toArray):K0 (fun j=>S j&&dq ops t j) ops.length=a0M ops t i:=by
 rw[b1V];refine b2Y n.lt n.out fun j hj e=>?_;obtain⟨x,f,_⟩:=d.ok i o a;obtain⟨b,hb⟩:∃b,ops[j]?=some b:=⟨_,l9 hj⟩
 obtain⟨y,g,_⟩:=d.ok j b hb;obtain⟨h1,h,_,_⟩:=d.un i j x y o b f g a hb (n.a7A hj e);have:=(Oper.apart_spec h).1;show dq ops t j=false;cases k:dq ops t j
 . rfl
 . exact absurd c (this t ((a5R hb).1 k))
theorem d0p(h:t∈a8z o):t∈o.looksAt ops.toArray:=a4M _ h
theorem b7o(d:a0G P vs N ops xs)(l:Trace (fns P) xs vars h T p ws)(r:a1f P B Z0 W0 vs N ops vars h T p ws S G hS a w){i:Nat}(n:Next ops S i)(u:ops[i]?=some o)(y:t∈o.looksAt ops.toArray){dd:A6}(hd:a0l vs ops i (.tmp t)=some dd):
 ∃v,a.tmps[t]?=some v∧j9 G hS w D v (y9 (T i).loc (T i).vars dd):=by
 have e:=c6L d n u y;simp only[a0l]at hd;split at hd
 . rename_i j hj;cases hd;rw[hj]at e;obtain⟨v,h1,f⟩:=r.slw t j e;refine⟨v,h1,?_⟩;have z:=(b4g hj).1;have:=(l.loc (i:=i) (by rw[d.len];exact a6b n.lt)).2 j z;simp only[y9];rw[this];exact f
 . rename_i hj;obtain⟨k,h1,rfl⟩:=C9.1 hd;rw[hj]at e;obtain⟨v,f,A⟩:=r.sl0 t e k (a0S h1);refine⟨v,f,?_⟩;have m:∀j (c:j<xs.length),∃b,ops[j]?=some b∧(xs[j]).var=b.dst.bind (vs.idxOf? ·):=fun j c=>by
    obtain⟨x,q,C⟩:=d.ok j _ (l9 (d.len▸c));rw[l9 c]at q;cases q;exact⟨_,l9 (d.len▸c),C.var⟩
   have E:∀j (c:j<xs.length),(xs[j]).var=some k→dq ops t j=true:=fun j c s=>by obtain⟨b,hb,g⟩:=m j c;rw[g]at s;obtain⟨F,H,I⟩:=X1.1 s;have:F=t:=U4 ((a0S I).symm.trans (a0S h1));subst this;exact(a5R hb).2 H
   have J:∀j (c:j<xs.length),dq ops t j=true→(xs[j]).var=some k:=fun j c K=>by obtain⟨b,hb,g⟩:=m j c;rw[g,(a5R hb).1 K];exact h1
   rcases l.vr E J (i:=i) (by rw[d.len];exact a6b n.lt)with h4|h4
   . simp only[y9];rw[h4];exact K6
   . rw[show K0 (dq ops t) i=none by rw[←hj,b1V];rfl]at h4;simp only[y9];rw[h4];exact A
theorem c3l(d:a0G P vs N ops xs)(j:Trace (fns P) xs vars h T p ws)(r:a1f P B Z0 W0 vs N ops vars h T p ws S G hS a w){i:Nat}(n:Next ops S i)(k:ops[i]?=some o):
 ∀x dd,a6C o (a0l vs ops i) x=some dd→j9 G hS w D (a.eval x) (y9 (T i).loc (T i).vars dd):=by
 intro x dd l;obtain⟨h1,m⟩:=b8d l;cases x with
 |tmp t=>
  obtain⟨v,b,s⟩:=b7o d j r n k (d0p (m t rfl)) h1;have:a.eval (.tmp t)=v:=by simp[Act.eval,b]
  rw[this];exact s
 |const v=>
  simp only[a0l]at h1;obtain⟨q,b,rfl⟩:=C9.1 h1;exact b8J b
 |func f=>
  simp only[a0l]at h1;cases h1;show j9 G hS w D (.func (.func f) #[] #[]) (.fn (.func f) [] []);unfold D;unfold j9;exact⟨_,_,rfl,⟨rfl,fun i c e=>by simp at e⟩,⟨rfl,fun i c e=>by simp at e⟩⟩
 |global g=>simp[a0l]at h1
theorem b3R(d:a0G P vs N ops xs)(b:Trace (fns P) xs vars h T p ws)(r:a1f P B Z0 W0 vs N ops vars h T p ws S G hS a w){i:Nat}(n:Next ops S i)(c:∀j y,j<ops.length→xs[j]?=some y→P8 (I2 [] ops) i j=true→wr ws k j=false):
 hS[k]?=(T i).heap[k]?:=by
 have e:K0 (fun j=>S j&&wr ws k j) ops.length=K0 (wr ws k) i:=by
  refine b2Y n.lt n.out fun j hj f=>?_;obtain⟨y,g⟩:∃y,xs[j]?=some y:=⟨_,l9 (by rw[d.len];exact hj)⟩
  exact c j y hj g (n.a7A hj f)
 rw[r.hp k,b.heap k (i:=i) (by rw[d.len];exact a6b n.lt),e]
 all_goals rfl
theorem b2D{h h':Heap}{hide:List Nat}(e:hide.contains k=false→h[k]?=h'[k]?):l7 h hide k=l7 h' hide k:=by
 unfold l7
 grind
theorem b2v(d:a0G P vs N ops xs)(c:Trace (fns P) xs vars h T p ws){i:Nat}(b:xs[i]?=some x)(a:xs[j]?=some y)(hu:P8 (I2 [] ops) i j=true)(e:L4 y.op≤2)(n:x.hide.contains k=false):wr ws k j=false:=by
 have f:i<ops.length:=by rw[←d.len];exact(C0.1 b).1
 have g:j<ops.length:=by rw[←d.len];exact(C0.1 a).1
 obtain⟨_,_,_,l⟩:=d.un i j x y _ _ b a (l9 f) (l9 g) hu;cases hw:wr ws k j
 . rfl
 . exfalso;obtain⟨z,m,o⟩:=G7.1 (a0I.1 hw);have:=l _ (a3R (c.st j y a).1 e z m)
   grind
theorem c2b(d:a0G P vs N ops xs)(b:Trace (fns P) xs vars h T p ws)(r:a1f P B Z0 W0 vs N ops vars h T p ws S G hS a w){i:Nat}(n:Next ops S i)(e:xs[i]?=some x)(f:∀j y,j<ops.length→xs[j]?=some y→P8 (I2 [] ops) i j=true→L4 y.op≤2)(g:x.hide.contains k=false):
 hS[k]?=(T i).heap[k]?:=
 b3R d b r n fun j y hj c hu=>b2v d b e c hu (f j y hj c hu) g
def a7c:N3→Bool
 | .load .. =>true
 |_=>false
theorem a3y(a:a6T x y=true):a7c x.op=true:=by
 unfold a6T at a;split at a
 . rename_i h;rw[h];rfl
 . cases a
theorem a6i{op:N3}(h:a7c op=true):L4 op=2∧I1 op=[]:=by cases op<;>(try (cases h;done));exact⟨rfl,rfl⟩
theorem b4t(d:a0G P vs N ops xs){i:Nat}(a:xs[i]?=some x)(b:xs[j]?=some y)(hu:P8 (I2 [] ops) i j=true):a2r x y=true:=by
 have c:i<ops.length:=by rw[←d.len];exact(C0.1 a).1
 have e:j<ops.length:=by rw[←d.len];exact(C0.1 b).1
 exact(d.un i j x y _ _ a b (l9 c) (l9 e) hu).2.2.1
theorem c1s(d:a0G P vs N ops xs)(f:Trace (fns P) xs vars h T p ws)(r:a1f P B Z0 W0 vs N ops vars h T p ws S G hS a w){i:Nat}(n:Next ops S i)(c:xs[i]?=some x)(q:L4 x.op≠0)(g:quiet x.op=false)(s:L4 x.op≠1)(e:a7c x.op=false)(l:a4C x.op=false):
 l7 hS x.hide=l7 (T i).heap x.hide:=by
 funext k;refine b2D fun m=>c2b d f r n c (fun j y hj o hu=>?_) m;have b:=b4t d c o hu;unfold a2r at b;simp only[a1j,E7,decide_eq_true_eq,beq_iff_eq]at b;rcases b with(((((((b|b)|b)|b)|b)|b)|b)|b)
 . omega
 . omega
 . exact b.2
 . rw[a8j b.2];exact p7 _
 . rw[g]at b;cases b.1
 . rcases b with b|b
   . rw[a3y b]at e;cases e
   . rw[(a6i (a3y b)).1];exact p7 _
 . rw[l]at b;cases b.1
 . omega
theorem b9D{FN:N0}{st:B3}{p:PV}{ws:List (Nat×Row)}(h:Res FN x st p ws)(a:a4C x.op=true):a2e x.hide (y9 st.loc st.vars) ws=true∨ws=[]:=by
 rcases h with⟨_,_,rfl⟩|⟨_,⟨f,args,ks,al,r,b,_⟩|⟨f,args,b,d⟩|⟨_,e,_,g⟩⟩
 . exact .inr rfl
 . rw[b]at a;cases a
 . exact .inl (b9U d).2
 . cases c:x.op<;>(try (rw[c]at a;cases a;done));exact absurd c (e _ _)
theorem b4y{FN:N0}{st:B3}{p:PV}{ws:List (Nat×Row)}(h:Res FN x st p ws)(a:a4C x.op=true):∀y∈ws,x.hide.contains y.1=false:=by
 rcases b9D h a with h1|h1
 . exact c2B h1
 grind
theorem b4h(d:a0G P vs N ops xs)(f:Trace (fns P) xs vars h T p ws)(q:a1Q h.length xs=true)(r:a1f P B Z0 W0 vs N ops vars h T p ws S G hS a w){i:Nat}(n:Next ops S i)(e:xs[i]?=some x)(g:L4 x.op=1∨L4 x.op=2)(l:k∈I1 x.op):
 l7 hS x.hide k=l7 (T i).heap x.hide k:=by
 have s:∀{i:Nat} {x:l5},xs[i]?=some x→∀k∈I1 x.op,x.hide.contains k=false:=fun e k g=>by have:=B5.1 (B5.1 q _ (D0 e)) _ g;simp only[E7,a6Y]at this;exact this.2
 refine b2D fun t=>b3R d f r n fun j y hj c hu=>?_;obtain⟨_,_,b,v⟩:=d.un i j x y _ _ e c (l9 n.lt) (l9 hj) hu;obtain⟨_,_,_,A⟩:=d.un j i y x _ _ c e (l9 hj) (l9 n.lt) (a9q hu);by_cases u:L4 y.op≤2
 . exact b2v d f e c hu u t
 . cases hw:wr ws k j
   . rfl
   . exfalso;obtain⟨z,m,C⟩:=G7.1 (a0I.1 hw);have o:y.hide.contains z.1=true:=(by grind);unfold a2r at b;simp only[a1j,E7,decide_eq_true_eq,beq_iff_eq]at b;rcases b with(((((((b|b)|b)|b)|b)|b)|b)|b)
     . omega
     . omega
     . omega
     . have:=a8j b.2;omega
     . have:=b2N (f.st j y c).1 b.2 (s c) z m;rw[o]at this;cases this
     . rcases b with b|b
       . rw[(a6i (a3y b)).2]at l;cases l
       . have:=(a6i (a3y b)).1;omega
     . omega
     . have:=b4y (f.st j y c).1 b.2 z m;rw[o]at this;cases this
theorem c3H(d:a0G P vs N ops xs)(o:Trace (fns P) xs vars h T p ws){i:Nat}(H:xs[i]?=some x)(A:xs[j]?=some y)(c:a6T x y=true){agg:Bool}{sz:Nat}{m:A6}(I:x.op=.load agg sz m){lk:D8}(s:a0o lk agg sz (y9 (T i).loc (T i).vars m)=some q):
 a1X (ws j) (y9 (T i).loc (T i).vars m)=true:=by
 have C:i<xs.length:=(C0.1 H).1;have D:j<xs.length:=(C0.1 A).1;unfold a6T at c;rw[I]at c;simp only[]at c;split at c
 case h_2=>cases c
 rename_i n g;obtain⟨t1,t2⟩:=o.loc (i:=i) (a6b C);obtain⟨t3,t4⟩:=o.loc (i:=j) (a6b D);have R:∀{lk:D8} {v:PV} {agg:Bool} {sz:Nat} {q:PV},a0o lk agg sz v=some q→∀ws:List (Nat×Row),a1X ws .uu=true→a1X ws v=true:=fun _ ws h=>by cases h
 have E:∀t,(∀z∈xs,z.var≠some t)→∀a,a≤xs.length→(T a).vars.getD t .uu=vars.getD t .uu:=fun t J a=>by
  induction a with
  |zero=>intro _;rw[o.t0]
  |succ a K=>
   intro u;have F:a<xs.length:=j4;rw[o.next F,←K j4];simp only;have:=J _ (C4 F);cases B:(xs[a]).var with
   |none=>rfl
   |some t0=>
    simp only[I8,B0];rw[F4 fun e=>this (by rw[B,e])]
 have key:(∀t,n=t+1000000→∀z∈xs,z.var≠some t)→a1X (ws j) (y9 (T j).loc (T j).vars (avO n))=true→a1X (ws j) (y9 (T i).loc (T i).vars m)=true:=fun hw h1=>by
  cases m<;>simp only[avC]at g<;>(try (cases g;done))
  case l S=>
   split at g
   . rename_i L;cases g;rw[show avO n=.l n by unfold avO;rw[if_pos L]]at h1;simp only[y9]at s h1⊢;have M:n<i:=by
      refine Classical.byContradiction fun g=>?_;rw[B0,a0i j4]at s;simp[a0o]at s
     rw[t2 n M];by_cases O:n<j
     . rw[t4 n O]at h1;exact h1
     . grind
   . cases g
  case v t=>
   cases g;rw[show avO (t+1000000)=.v t by unfold avO;rw[if_neg (by rw[a1J];omega)];simp]at h1;simp only[y9]at h1⊢;rw[E t (hw t rfl) i (a6b C)];rw[E t (hw t rfl) j (a6b D)]at h1;exact h1
 have G:ws j=[]→a1X (ws j) (y9 (T i).loc (T i).vars m)=true:=fun e=>by rw[e];cases hp:y9 (T i).loc (T i).vars m<;>rw[hp]at s<;>first|rfl|(simp[a0o]at s;done)
 have w:=d.av y (D0 A);unfold avV at w;split at c
 . rename_i U a v av k;have hw:∀t,n=t+1000000→∀z∈xs,z.var≠some t:=fun t e z Q B=>by
    rw[k]at w;have:=B5.1 w n (a0I.1 c);rw[a1j]at this;rcases this with h1|h1
    . rw[a1J]at h1;omega
    . grind
   rcases(o.st j y A).1 with⟨_,_,h1⟩|⟨_,⟨f,args,ks,al,r,h1,_⟩|⟨f,args,h1,_⟩|⟨_,_,_,u⟩⟩
   . exact G h1
   . rw[k]at h1;cases h1
   . rw[k]at h1;cases h1
   . rw[k]at u;simp only[A9]at u;split at u
     . grind
     . cases u
 . rename_i f b k;have hw:∀t,n=t+1000000→∀z∈xs,z.var≠some t:=fun t e z Q B=>by
    rw[k]at w;have:=B5.1 w n (G7.2 ⟨n+1000000,a0I.1 c,j4⟩);rw[a1j]at this;rcases this with h1|h1
    . rw[a1J]at h1;omega
    . grind
   rcases b9D (o.st j y A).1 (by rw[k];rfl)with h1|h1
   . exact key hw (c5i h1 c)
   . exact G h1
 . cases c
theorem c4v{lk lk':D8}{agg:Bool}{sz:Nat}{v:PV}(h:∀k,(∀ws,a1X ws v=true→(ws.map (·.1)).contains k=false)→lk k=lk' k):a0o lk agg sz v=a0o lk' agg sz v:=by
 cases v<;>simp only[a0o]
 case ptr k g o=>rw[h k fun ws hw=>by simpa[a1X]using hw]
 case eptr k g a s i j=>rw[h k fun ws hw=>by simpa[a1X]using hw]
 case nptr k g ver s i j m l=>rw[h k fun ws hw=>by simpa[a1X]using hw]
theorem c4Y(d:a0G P vs N ops xs)(f:Trace (fns P) xs vars h T p ws)(r:a1f P B Z0 W0 vs N ops vars h T p ws S G hS a w){i:Nat}(n:Next ops S i)(g:xs[i]?=some x)(o:a7c x.op=true){us:List (Nat×Row)}(e:A9 (y9 (T i).loc (T i).vars) (l7 (T i).heap x.hide) x.op=some (q,us)):
 A9 (y9 (T i).loc (T i).vars) (l7 hS x.hide) x.op=some (q,us):=by
 cases c:x.op<;>(try (rw[c]at o;cases o;done))
 case load agg sz m=>
  rw[c]at e;simp only[A9]at e⊢;split at e
  . rename_i v s;rw[←c4v (lk:=l7 (T i).heap x.hide) (lk':=l7 hS x.hide) fun k t=>(b2D fun u=>b3R d f r n fun j y hj l hu=>?_).symm,s]
    . exact e
    . have b:=b4t d g l hu;by_cases z:L4 y.op≤2
      . exact b2v d f g l hu z u
      . unfold a2r at b;simp only[a1j,E7,decide_eq_true_eq,beq_iff_eq]at b;have A:a6T x y=true:=by
         rcases b with(((((((b|b)|b)|b)|b)|b)|b)|b)
         . rw[c]at b;cases b
         . omega
         . omega
         . rw[c]at b;cases b.1
         . rw[c]at b;cases b.1
         . rcases b with b|b
           . exact b
           . have:=(a6i (a3y b)).1;omega
         . rw[c]at b;cases b.1
         . rw[c]at b;cases b.1
        exact t _ (c3H d f g l A c s)
  . cases e
theorem c4L(d:a0G P vs N ops xs)(H:Trace (fns P) xs vars h T p ws){i:Nat}(t:xs[i]?=some x)(o:xs[j]?=some y)(E:a5A x.op=true)(w:isApp y.op=true)(hu:P8 (I2 [] ops) i j=true)(A:M1 (l7 (T i).heap x.hide k).2=true):wr ws k j=false:=by
 have O:i<xs.length:=(C0.1 t).1;have Q:j<xs.length:=(C0.1 o).1;have R:i<ops.length:=by rw[←d.len];exact O
 have S:j<ops.length:=by rw[←d.len];exact Q
 have B:x.hide.contains k=false:=by
  unfold l7 at A;cases I:x.hide.contains k
  . rfl
  . rw[I]at A;cases A
 have ak:M1 ((T i).heap.getD k (0,.dead)).2=true:=by unfold l7 at A;rw[B]at A;exact A
 obtain⟨_,_,_,aa⟩:=d.un i j x y _ _ t o (l9 R) (l9 S) hu;cases hw:wr ws k j
 . rfl
 . exfalso;obtain⟨z,l,U⟩:=G7.1 (a0I.1 hw);have V:k∉I1 y.op:=fun g=>by
    have:=aa k g;rw[a0I.2 this]at B;cases B
   rcases b7M (H.st j y o).1 (d.cv i j x y t o E) z l with h1|⟨h1,J⟩
   . rw[U]at h1;exact V h1
   . rw[U]at h1 J;have ab:M1 z.2.2=false:=by
      rcases(H.st j y o).1 with⟨_,_,hw0⟩|⟨_,⟨f,args,ks,al,r,hyo,_⟩|⟨f,args,hyo,_⟩|⟨_,_,_,c⟩⟩
      . rw[hw0]at l;cases l
      . rw[hyo]at w;cases w
      . rw[hyo]at w;cases w
      . cases C:y.op<;>(try (rw[C]at w;cases w;done))
        case lookupT ac kt sz z0 m ad=>
         rw[C]at c;exact d1p c z l
        case append ac sz b m s ad=>
         rw[C]at c;simp only[A9]at c;split at c
         . rename_i news am ae;split at c
           . split at c
             . rename_i v an af;simp only[s5,s9]at c;obtain⟨_,c⟩:=c;rw[←c]at l;rcases I5.1 l with l|l
               . exact b2Q ae z l
               . exact c0k af z l
             . cases c
           . cases c
         . cases c
     rw[ab]at J;have W:∀a b,a<b→b<xs.length→M1 ((T b).heap.getD k (0,.dead)).2≠M1 ((T a).heap.getD k (0,.dead)).2→∃m,∃hm:m<xs.length,a≤m∧m<b∧k∈I1 (xs[m]).op:=fun a b X hb K=>by apply Classical.byContradiction;intro ag;refine K ?_;have:=H.kinds (fun m hm=>d.cv i m x _ t (l9 hm) E) (k:=k) (a:=a) (n:=b-a) j4 fun m hm h1 J g=>ag ⟨m,hm,h1,j4,g⟩;rwa[show a+(b-a)=b by omega]at this
     have ah:I1 x.op=[]:=(by cases C:x.op<;>(try (rw[C]at E;cases E;done))<;>rfl);have F:∀{q:Nat} {z:l5} (u:xs[q]?=some z) (I:z.hide.contains k=false) {m:Nat} (hm:m<xs.length),k∈I1 (xs[m]).op→P8 (I2 [] ops) q m=false:=fun{q z} u I {m} hm g=>by
      cases ai:P8 (I2 [] ops) q m
      . rfl
      . have aj:q<ops.length:=(by rw[←d.len];exact(C0.1 u).1);obtain⟨_,_,_,ao⟩:=d.un q m z _ _ _ u (l9 hm) (l9 aj) (l9 (by rw[←d.len];exact hm)) ai
        grind
     have K:i≠j:=fun e=>(by subst e;simp[P8]at hu);have G:∀{a b:Nat},a<b→P8 (I2 [] ops) a b=false→((I2 [] ops).getD b 0).testBit a=true:=fun{a b} X h=>by unfold P8 at h;rw[if_neg j4,if_pos X]at h;simpa using h
     rcases b1Z K with Y|Z
     . obtain⟨m,hm,m1,m2,g⟩:=W i j Y Q (by grind);have ap:i≠m:=fun e=>(by subst e;rw[l9 hm]at t;cases t;rw[ah]at g;cases g);have L:=G (show i<m by omega) (F t B hm g);have D:=F o h1 hm g;rw[show P8 (I2 [] ops) j m=P8 (I2 [] ops) m j from by
        cases u:P8 (I2 [] ops) m j
        . omega
        . exact a9q u]at D
       have M:=b8K L j S (G m2 D);unfold P8 at hu;rw[if_neg j4,if_pos Y,M]at hu;cases hu
     . obtain⟨m,hm,m1,m2,g⟩:=W j i Z O (by grind);have aq:j≠m:=fun e=>(by subst e;rw[l9 hm]at o;cases o;exact V g);have L:=G (show j<m by omega) (F o h1 hm g);have D:=F t B hm g;rw[show P8 (I2 [] ops) i m=P8 (I2 [] ops) m i from by
        cases u:P8 (I2 [] ops) m i
        . omega
        . exact a9q u]at D
       have M:=b8K L i R (G m2 D);unfold P8 at hu;rw[if_pos Z,M]at hu;cases hu
theorem c3d(d:a0G P vs N ops xs)(f:Trace (fns P) xs vars h T p ws)(r:a1f P B Z0 W0 vs N ops vars h T p ws S G hS a w){i:Nat}(n:Next ops S i)(s:xs[i]?=some x)(l:a5A x.op=true){us:List (Nat×Row)}(c:A9 (y9 (T i).loc (T i).vars) (l7 (T i).heap x.hide) x.op=some (q,us)):
 A9 (y9 (T i).loc (T i).vars) (l7 hS x.hide) x.op=some (q,us):=by
 cases e:x.op<;>(try (rw[e]at l;cases l;done))
 case loadV agg sz a=>
  rw[e]at c;simp only[A9]at c⊢;cases t:y9 (T i).loc (T i).vars a<;>(try (rw[t]at c;cases c;done))
  case ptr k g o=>
   rw[t]at c;have v:M1 (l7 (T i).heap x.hide k).2=true:=by
    simp only[a0o]at c;cases A:l7 (T i).heap x.hide k with
    |mk K ob=>cases ob<;>rw[A]at c<;>first|rfl|(cases c;done)
   have C:l7 hS x.hide k=l7 (T i).heap x.hide k:=by
    unfold l7;split
    . rfl
    . rename_i D;have E:K0 (fun j=>S j&&wr ws k j) ops.length=K0 (wr ws k) i:=by
       refine b2Y n.lt n.out fun j hj u=>?_;obtain⟨y,m⟩:∃y,xs[j]?=some y:=⟨_,l9 (by rw[d.len];exact hj)⟩
       obtain⟨_,_,b,F⟩:=d.un i j x y _ _ s m (l9 n.lt) (l9 hj) (n.a7A hj u);by_cases H:L4 y.op≤2
       . cases hw:wr ws k j
         . rfl
         . exfalso;obtain⟨z,I,J⟩:=G7.1 (a0I.1 hw);have:=F _ (a3R (f.st j y m).1 H z I);rw[J]at this;exact D (a0I.2 this)
       . refine c4L d f s m l ?_ (n.a7A hj u) v;unfold a2r at b;simp only[a1j,E7,decide_eq_true_eq,beq_iff_eq]at b;rcases b with(((((((b|b)|b)|b)|b)|b)|b)|b)
         . rw[e]at b;cases b
         . omega
         . omega
         . have:=a8j b.2;omega
         . exact b.2
         . rcases b with b|b
           . have:=a3y b;rw[e]at this;cases this
           . have:=(a6i (a3y b)).1;omega
         . rw[e]at b;cases b.1
         . rw[e]at b;cases b.1
      rw[B0,B0,r.hp k,f.heap k (i:=i) (by grind),E]
      all_goals rfl
   simp only[a0o]at c⊢;rw[C];exact c
theorem d0c(al:vs.Nodup)(d:a0G P vs N ops xs)(f:Trace (fns P) xs vars h T p ws)(ab:a1Q h.length xs=true)(r:a1f P B Z0 W0 vs N ops vars h T p ws S G hS a w){i:Nat}(n:Next ops S i)(J:ops[i]?=some o){v:Value}
 (ac:s6 B Z0 G' (p8 hS (ws i)) w') (x:Ext G hS w G' (p8 hS (ws i)) w') (ad:j9 G' (p8 hS (ws i)) w' D v (p i)) (hb:Bl B w w'):
 a1f P B Z0 W0 vs N ops vars h T p ws (fun j=>S j||j==i) G' (p8 hS (ws i)) (a.put o.dst v) w':=by
 obtain⟨g,l,ae⟩:=d.ok i o J;have hd:∀t,o.dst=some t→t<a.tmps.size:=fun t e=>by rw[r.sz];exact ae.dst t e
 have X:∀j,j<ops.length→i<j→S j=true→∃b y,ops[j]?=some b∧xs[j]?=some y∧o.apart ops.toArray b=true∧b.apart ops.toArray o=true∧a2r g y=true∧(∀k∈I1 y.op,k∈g.hide)∧∀k∈I1 g.op,k∈y.hide:=fun j hj F hs=>by
  obtain⟨b,hb⟩:∃b,ops[j]?=some b:=⟨_,l9 hj⟩
  obtain⟨y,q,_⟩:=d.ok j b hb;obtain⟨h1,H,c,K⟩:=d.un i j g y o b l q J hb (n.a7A hj (.inr ⟨F,hs⟩));obtain⟨_,_,_,Q⟩:=d.un j i y g b o q l hb J (a9q (n.a7A hj (.inr ⟨F,hs⟩)));exact⟨b,y,hb,q,h1,H,c,K,Q⟩
 have R:∀{i:Nat} {x:l5},xs[i]?=some x→∀k∈I1 x.op,x.hide.contains k=false:=fun af k U=>by have:=B5.1 (B5.1 ab _ (D0 af)) _ U;simp only[E7,a6Y]at this;exact this.2
 have Y:∀t,o.dst=some t→K0 (fun j=>(S j||j==i)&&dq ops t j) ops.length=some i:=fun t e=>
  b9y n.lt ((a5R J).2 e) fun j hj F hs=>by
   obtain⟨b,y,hb,_,h1,_⟩:=X j hj F hs;cases L:dq ops t j
   . rfl
   . exact absurd ((a5R hb).1 L) ((Oper.apart_spec h1).2.1 t e)
 have Z:∀t,o.dst≠some t→K0 (fun j=>(S j||j==i)&&dq ops t j) ops.length=K0 (fun j=>S j&&dq ops t j) ops.length:=fun t e=>
  c1Z (by cases L:dq ops t i;rfl;exact absurd ((a5R J).1 L) e)
 refine⟨ac,by rw[a5v];exact r.len,fun k=>?_,fun t j hj=>?_,fun t hj k U=>?_,by rw[a8Q];exact r.sz,by rw[b2G];exact r.df.step hb,W0.step r.be x hb⟩
 . by_cases hw:wr ws k i=true
   . have ag:K0 (fun j=>(S j||j==i)&&wr ws k j) ops.length=some i:=b9y n.lt hw fun j hj F hs=>by
      obtain⟨b,y,hb,q,h1,H,c,K,Q⟩:=X j hj F hs;cases L:wr ws k j
      . rfl
      . exfalso;obtain⟨z,s,M⟩:=G7.1 (a0I.1 hw);obtain⟨A,C,O⟩:=G7.1 (a0I.1 L);have ah:L4 g.op≤2→L4 y.op≤2→False:=fun ai aj=>by
         have g5:=a3R (f.st i g l).1 ai z s;have g6:=K _ (a3R (f.st j y q).1 aj A C);have g7:=R l _ g5;rw[M,←O,a0I.2 g6]at g7;cases g7
        have aa:∀{u:l5} {m:Nat},xs[m]?=some u→a7c u.op=true→∀z∈ws m,False:=fun hu V z W=>by obtain⟨l1,ak⟩:=a6i V;have:=a3R (f.st _ _ hu).1 j4 z W;rw[ak]at this;cases this
        have hzero:∀{u:l5} {m:Nat},xs[m]?=some u→L4 u.op=0→∀z∈ws m,False:=fun hu V z W=>by have:=a3R (f.st _ _ hu).1 j4 z W;rw[c7v V]at this;cases this
        unfold a2r at c;simp only[a1j,E7,decide_eq_true_eq,beq_iff_eq]at c;rcases c with(((((((c|c)|c)|⟨c,I⟩)|⟨c,I⟩)|c)|⟨c,I⟩)|⟨c,I⟩)
        . exact hzero l c z s
        . exact hzero q c A C
        . exact ah c.1 c.2
        . have:=b2N (f.st i g l).1 c (R l) z s;have E:=K _ (a3R (f.st j y q).1 (by rw[a8j I];exact p7 _) A C);rw[M,←O,a0I.2 E]at this;cases this
        . have:=b2N (f.st j y q).1 I (R q) A C;have E:=Q _ (a3R (f.st i g l).1 (by rw[a8j c];exact p7 _) z s);rw[O,←M,a0I.2 E]at this;cases this
        . rcases c with c|c
          . exact aa l (a3y c) z s
          . exact aa q (a3y c) A C
        . have:=b4y (f.st i g l).1 c z s;have E:=K _ (a3R (f.st j y q).1 j4 A C);rw[M,←O,a0I.2 E]at this;cases this
        . have:=b4y (f.st j y q).1 I A C;have E:=Q _ (a3R (f.st i g l).1 j4 z s);rw[O,←M,a0I.2 E]at this;cases this
     rw[ag];simp only;rw[(f.st i g l).2];exact b6u (a0I.1 hw) (by rw[r.len,f.len (by grind)])
   . rw[c1Z (by simpa using hw),←r.hp k];exact a5S _ _ _ fun hm=>hw (a0I.2 hm)
 . by_cases e:o.dst=some t
   . rw[Y t e]at hj;cases hj;rw[e];exact⟨v,b2t (hd t e),ad⟩
   . rw[Z t e]at hj;obtain⟨u,h1,H⟩:=r.slw t j hj;exact⟨u,by rw[b0e e];exact h1,H.ext x⟩
 . by_cases e:o.dst=some t
   . rw[Y t e]at hj;cases hj
   . rw[Z t e]at hj;obtain⟨u,h1,H⟩:=r.sl0 t hj k U;exact⟨u,by rw[b0e e];exact h1,H.ext x⟩
end
end
def N5(B:Nat)(Z0:Nat→Prop)(W0:M8 B)(vs:List Nat)(N:Nat)(vars:List PV)(h:Heap)(a:Act)(w:World):Prop:=
 ∃G,s6 B Z0 G h w∧V9 G h w vs vars a∧a.tmps.size=N∧a0p W0.m a.defers w∧W0.psi (W3 vs vars) G h w
section
variable{P:Program}{B:Nat}{Z0:Nat→Prop}{W0:M8 B}{ρ:Option Nat}{nn:Nat}{vs:List Nat}{N:Nat}{ops:List Oper}{xs:List l5}{vars:List PV}{h:Heap}{T:Nat→B3}{p:Nat→PV}{ws:Nat→List (Nat×Row)}{S:Nat→Bool}{G G':Gh}{hS:Heap}{a:Act}{w w':World}
theorem c4I{i:Nat}{loc vars:List PV}{o:Oper}(m:∀j b t d,o.guard=some (j,b)→(ops[j]?).bind (·.dst)=some t→a0l vs ops i (.tmp t)=some d→∃v,a.tmps[t]?=some v∧j9 G h w D v (y9 loc vars d)){g:Option (A6×Bool)}
 (e:(match o.guard with
  |none=>some none
  |some (j,b)=>match(ops[j]?).bind (·.dst)with
   |some t=>(a0l vs ops i (.tmp t)).map fun d=>some (d,b)
   |none=>none)=some g) {c:Bool} (f:gdO loc vars g=some c):Region.wanted o (yielded ops.toArray a.tmps)=c:=by
 unfold Region.wanted;cases k:o.guard with
 |none=>
  rw[k]at e;simp at e;subst e;simpa[gdO]using f
 |some n=>
  obtain⟨j,b⟩:=n;rw[k]at e;simp only at e;split at e
  . rename_i t l;obtain⟨d,h1,rfl⟩:=C9.1 e;obtain⟨v,p,hr⟩:=m j b t d k l h1;simp only[gdO]at f;have q:yielded ops.toArray a.tmps j=(match a.tmps[t]? with|some (.bool b)=>some b|_=>none):=by
     unfold yielded;rw[show ops.toArray[j]?=ops[j]? by simp,l];rfl
    show(yielded ops.toArray a.tmps j==some b)=c;rw[q,p];split at f
    . rename_i c0 he;cases f;rw[he]at hr;rw[a0X hr];cases c0<;>cases b<;>rfl
    . rename_i he;cases f;rw[he]at hr;obtain⟨us,hb,hs⟩:=a9j hr;rw[hb];cases b<;>rfl
    . cases f
  . cases e
theorem c4E(aw:vs.Nodup)(d:a0G P vs N ops xs)(A:Trace (fns P) xs vars h T p ws)(J:a1Q h.length xs=true)(r:a1f P B Z0 W0 vs N ops vars h T p ws S G hS a w){i:Nat}(n:Next ops S i){Q:Exit→Act→World→Prop}{K:Act→World→Prop}
 (ax:∀G' ay ai w',a1f P B Z0 W0 vs N ops vars h T p ws (fun j=>S j||j==i) G' ay ai w'→K ai w'):wpOpIn (fz ρ) nn P ops.toArray Q i K a w:=by
 obtain⟨o,L⟩:∃o,ops[i]?=some o:=⟨_,l9 n.lt⟩
 obtain⟨x,C,aj⟩:=d.ok i o L;have X:∀j,j∈I1 x.op→j<hS.length∧x.hide.contains j=false:=fun j hj=>by have:=B5.1 (B5.1 J x (D0 C)) j hj;rw[r.len];simpa[a1J]using this
 have hlen:(T i).heap.length=hS.length:=by rw[r.len];exact A.len (by grind)
 have Y:=c3l d A r n L;have M:∀{v w' G'},s6 B Z0 G' (p8 hS (ws i)) w'→Ext G hS w G' (p8 hS (ws i)) w'→j9 G' (p8 hS (ws i)) w' D v (p i)→Bl B w w'→K (a.put o.dst v) w':=fun{v w' G'} r1 r2 r3 r4=>
  ax _ _ _ _ (d0c aw d A J r n L r1 r2 r3 r4)
 have ak:∀c,gdO (T i).loc (T i).vars x.guard=some c→Region.wanted o (yielded ops.toArray a.tmps)=c:=fun c Z=>
  c4I (fun j b t dd U aN hd=>b7o d A r n L (a7V _ (by grind)) hd) aj.gd Z
 unfold wpOpIn;rw[show ops.toArray[i]?=some o by simpa using L];simp only;obtain⟨k,app,al,x0,l,aa⟩:=aj.op;have am:(∀sz a v av,x.op≠ .storeN sz a v av)→x0=x.op:=fun az=>by
  rcases aa with e|⟨sz,a,v,av,_,e⟩
  . exact e.symm
  . exact absurd e (az _ _ _ _)
 rcases(A.st i x C).1 with⟨U,hp,hw⟩|⟨U,hcase⟩
 . rw[ak _ U,if_neg k8];refine⟨fun _ _=>trivial,M (G':=G) ?_ ?_ ?_ (Bl.refl _ _)⟩
   . rw[hw];exact r.hr
   . rw[hw];exact Ext.refl
   . rw[hp];exact b6H
 . rw[ak _ U,if_pos rfl];refine⟨fun _ _=>trivial,?_⟩;rw[show o.semAt (fz ρ).round a.eval=execOp a.eval o from Oper.semAt_eq _ _ _ (c1y l)];rcases hcase with⟨f,b,ks,aO,q,z,aP,O,ab,hp,hw⟩|⟨fd,b,z,O⟩|⟨aA,aB,_,u⟩
   . have ac:=am (by grind);subst ac;have V:L4 x.op≠0:=(by rw[z];simp[L4]);have I:∀k∈I1 x.op,l7 hS x.hide k=l7 (T i).heap x.hide k:=fun k ad=>b4h d A J r n C (.inr (by rw[z];rfl)) ad;have an:(b.map fun a=>fzV (l7 (T i).heap x.hide) (y9 (T i).loc (T i).vars a))=(b.map fun a=>fzV (l7 hS x.hide) (y9 (T i).loc (T i).vars a))∧
      (b.map (y9 (T i).loc (T i).vars)).any (a1K (l7 (T i).heap x.hide))=(b.map (y9 (T i).loc (T i).vars)).any (a1K (l7 hS x.hide)):=by
      cases H:a8m x.op
      . rw[c1s d A r n C V (by unfold quiet;rw[H,z];rfl) (by rw[z];simp[L4]) (by rw[z];rfl) (by rw[z];rfl)];exact⟨rfl,rfl⟩
      . rw[z]at H;have ao:∀a∈b,a2K (y9 (T i).loc (T i).vars a)=true:=fun a u=>by
         simp only[a8m,a1j,B5]at H;rcases H with H|H
         . grind
         . have:=H a u;cases a<;>first|exact this|(simp at this;done)
        refine⟨O1 fun a u=>c5l (ao a u),?_⟩;have ap:∀lk,(b.map (y9 (T i).loc (T i).vars)).any (a1K lk)=false:=fun lk=>by rw[List.any_eq_false];intro c Z;obtain⟨a,u,rfl⟩:=G7.1 Z;rw[d0g (ao a u)];simp
        rw[ap,ap]
     have aq:∀j es,(B4 q)[j]?=some (.uslc es)→U0 (l7 (T i).heap x.hide) (M7 ks j).1=U0 (l7 hS x.hide) (M7 ks j).1:=fun j es hj=>by have:=I (M7 ks j).1 (by rw[z];exact d1o ab hj);unfold U0;rw[this]
     rw[z]at l X;obtain⟨args,ats,R,ae⟩:=b7Q l;obtain⟨dst,op,type,pos,after,guard⟩:=o;simp only at R;subst R;rw[an.1]at O;rw[an.2,hlen]at ab;rw[c5n aq]at hp;have aC:I3 (M7 ks) (U0 (l7 (T i).heap x.hide)) 0 (B4 q)=I3 (M7 ks) (U0 (l7 hS x.hide)) 0 (B4 q):=c1C fun j es hj=>by have:=aq j es hj;rwa[show(0:Nat)+j=j by omega]
     rw[aC]at hw;have af:=b5S (P:=P) (w:=w) (ρ:=a.eval) (dst:=dst) (args:=args) (ats:=ats) (type:=type) (pos:=pos) (after:=after) (guard:=guard) O.1 rfl;rw[af];refine⟨fun e=>(by cases e),a3V.2 ?_⟩;refine b7t r.hr Y ae O ab (fun j hj=>(X j hj).2) fun v w' G' r1 r2 r3 r4=>?_;rw[←hw]at r1 r2 r3;rw[←hp]at r3;exact M r1 r2 r3 r4
   . have ac:=am (by grind);subst ac;have aD:agr x.hide (T i).heap hS:=⟨hlen.symm,fun k aE=>c2b d A r n C (fun j y hj aF hu=>by
      have g:=b4t d C aF hu;unfold a2r at g;simp only[a1j,E7,decide_eq_true_eq,beq_iff_eq]at g;rcases g with(((((((g|g)|g)|g)|g)|g)|g)|g)
      . rw[z]at g;cases g
      . omega
      . rw[z]at g;simp[L4]at g
      . rw[z]at g;cases g.1
      . rw[z]at g;simp[quiet,a8m,a5A,isLit]at g
      . rcases g with g|g
        . have:=a3y g;rw[z]at this;cases this
        . rw[(a6i (a3y g)).1];exact p7 _
      . omega
      . rw[z]at g;simp[L4]at g) aE⟩
     rw[z]at l;obtain⟨aQ,args,ats,R,aG,ae⟩:=c1J l;obtain⟨dst,op,type,pos,after,guard⟩:=o;simp only at R;subst R;have aH:FI P (y9 (T i).loc (T i).vars fd) (b.map (y9 (T i).loc (T i).vars)) hS (p i) (ws i):=(b9U O).1 hS aD;obtain⟨f,aR,aS,aI,aJ,aK⟩:=c0M r.hr Y aG ae aH;have af:=b3C (P:=P) (w:=w) (ρ:=a.eval) (dst:=dst) (args:=args) (ats:=ats) (type:=type) (pos:=pos) (after:=after) (guard:=guard) aI aJ;rw[af];exact⟨fun e=>(by cases e),a3V.2 (aK _ fun v w' G' r1 r2 r3 r4=>M r1 r2 r3 r4)⟩
   . have F:A9 (y9 (T i).loc (T i).vars) (l7 hS x.hide) x.op=some (p i,ws i):=by
      by_cases V:L4 x.op=0
      . rw[←u];exact d0j V
      . cases ag:a5A x.op
        . cases W:isLit x.op
          . cases ar:a7c x.op
            . by_cases E:L4 x.op=1
              . have I:∀k∈I1 x.op,l7 hS x.hide k=l7 (T i).heap x.hide k:=fun k ad=>b4h d A J r n C (.inl E) ad;cases l:x.op<;>(try (rw[l]at E;simp[L4]at E;done))<;>rw[l]at u I<;>(try (simp only[A9]at u⊢;rw[I _ (by simp[I1])];exact u));rename_i kk sz aT m s x;simp only[L4]at E;rw[l]at E;simp only[L4]at E;split at E<;>cases E
              . rw[c1s d A r n C V (by
                 cases l:x.op<;>first|rfl|exact absurd l (aA _ _ _ _)|(rw[l]at W;cases W;done)|(rw[l]at ag;cases ag;done)) E ar (by
                 cases l:x.op<;>first|rfl|exact absurd l (aB _ _))];exact u
            . exact c4Y d A r n C ar u
          . cases l:x.op<;>(try (rw[l]at W;cases W;done))
            case lit=>rw[l]at u;simp only[A9]at u⊢;exact u
            case mkarr kk sz zs parts=>
             have I:l7 hS x.hide kk=l7 (T i).heap x.hide kk:=b4h d A J r n C (.inr (by rw[l];rfl)) (by rw[l];simp[I1]);rw[l]at u;simp only[A9]at u⊢;rw[I];exact u
        . exact c3d d A r n C ag u
     have aL:A9 (y9 (T i).loc (T i).vars) (l7 hS x.hide) x0=some (p i,ws i):=by
      rcases aa with e|⟨sz,a,v,av,ah,au⟩
      . rw[←e];exact F
      . rw[au]at F;rw[ah];simp only[A9]at F⊢;split at F
        . split at F
          . exact F
          . cases F
        . cases F
     have aM:∀j,j∈I1 x0→j<hS.length∧x.hide.contains j=false:=fun j hj=>X j (by
      rcases aa with e|⟨sz,a,v,av,ah,au⟩
      . rw[e];exact hj
      . rw[ah]at hj;simp[I1]at hj)
     obtain⟨nx,v,w',G',g1,g2,g3,g4,g5,g6⟩:=b8u r.hr Y l aM aL;rw[g1];rcases g2 with rfl|⟨rfl,rfl⟩
     . exact M g3 g4 g5 g6
     . exact M g3 g4 g5 g6
def a3e(S:Nat→Bool):Nat→Nat
 |0=>0
 |n+1=>a3e S n+if S n then 0 else 1
theorem b8h{S S':Nat→Bool}(hs:∀j,S j=true→S' j=true):∀n,a3e S' n≤a3e S n
 |0=>p7 _
 |n+1=>by
  have:=b8h hs n;simp only[a3e]
  grind
theorem b7S{S:Nat→Bool}{i:Nat}(hi:S i=false):∀{n:Nat},i<n→a3e (fun j=>S j||j==i) n<a3e S n
 |0,h=>by omega
 |n+1,h=>by
  simp only[a3e];by_cases a:i=n
  . subst a;have:=b8h (S:=S) (S':=fun j=>S j||j==i) (fun j hj=>by simp[hj]) i;simp[hi];omega
  . have:=b7S hi (n:=n) j4
    grind
theorem c1r{S:Nat→Bool}:∀{n:Nat},a3e S n=0→∀j,j<n→S j=true
 |0,_,j,h=>by omega
 |n+1,h,j,hj=>by
  simp only[a3e]at h;cases hs:S n
  . rw[hs]at h;simp at h
  . by_cases a:j=n
    . subst a;exact hs
    . exact c1r (n:=n) j4 j j4
theorem b5g(S:Nat→Bool):∀n,a3e S n≤n
 |0=>p7 _
 |n+1=>by have:=b5g S n;simp only[a3e];split<;>omega
theorem b7R(E:vs.Nodup)(d:a0G P vs N ops xs)(l:Trace (fns P) xs vars h T p ws)(r:a1f P B Z0 W0 vs N ops vars h T p ws S G hS a w)(F:∀j,j<ops.length→S j=true):s6 B Z0 G (T xs.length).heap w∧V9 G (T xs.length).heap w vs (T xs.length).vars a∧a.tmps.size=N∧a0p W0.m a.defers w∧W0.psi (W3 vs (T xs.length).vars) G (T xs.length).heap w:=by
 have n:∀q:Nat→Bool,K0 (fun j=>S j&&q j) ops.length=K0 q xs.length:=fun q=>by rw[d.len];exact a8p fun j hj=>by rw[F j hj];rfl
 have o:hS=(T xs.length).heap:=a4g fun k=>by
  rw[r.hp k,l.heap k (p7 _),n]
  all_goals rfl
 have H:∀i,i≤xs.length→W3 vs (T i).vars=W3 vs vars:=fun i=>by
  induction i with
  |zero=>intro _;rw[l.t0]
  |succ i I=>
   intro hi;have s:i<xs.length:=j4;obtain⟨x,g,u⟩:=d.ok i _ (l9 (d.len▸s));rw[l9 s]at g;cases g;rw[l.next s,←I j4];simp only;rw[u.var];exact b2U
 refine⟨o▸r.hr,fun k t m=>?_,r.sz,r.df,by rw[H _ (p7 _)];exact o▸r.be⟩;have J:vs.idxOf? t=some k:=by
  cases hi:vs.idxOf? t with
  |none=>exact absurd m (b6y hi)
  |some U=>rw[b5d E (a0S hi) m]
 have A:∀j (c:j<xs.length),∃b,ops[j]?=some b∧(xs[j]).var=b.dst.bind (vs.idxOf? ·):=fun j c=>by obtain⟨x,g,u⟩:=d.ok j _ (l9 (d.len▸c));rw[l9 c]at g;cases g;exact⟨_,l9 (d.len▸c),u.var⟩
 have K:∀j (c:j<xs.length),(xs[j]).var=some k→dq ops t j=true:=fun j c C=>by obtain⟨b,hb,y⟩:=A j c;rw[y]at C;obtain⟨L,M,O⟩:=X1.1 C;have:L=t:=U4 ((a0S O).symm.trans m);subst this;exact(a5R hb).2 M
 have Q:∀j (c:j<xs.length),dq ops t j=true→(xs[j]).var=some k:=fun j c R=>by obtain⟨b,hb,y⟩:=A j c;rw[y,(a5R hb).1 R];exact J
 rw[←o];have D:=l.vr K Q (p7 _);cases f:K0 (fun j=>S j&&dq ops t j) ops.length with
 |some j=>
  obtain⟨v,h1,z⟩:=r.slw t j f;refine⟨v,h1,?_⟩;rw[n]at f;rcases D with e|e
  . rw[e];exact K6
  . rw[e,f];exact z
 |none=>
  obtain⟨v,h1,z⟩:=r.sl0 t f k m;refine⟨v,h1,?_⟩;rw[n]at f;rcases D with e|e
  . rw[e];exact K6
  . rw[e,f];exact z
theorem c6x(b:vs.Nodup)(d:a0G P vs N ops xs)(c:Trace (fns P) xs vars h T p ws)(r:a1f P B Z0 W0 vs N ops vars h T p ws S G hS a w)(e:∀j,j<ops.length→S j=true):N5 B Z0 W0 vs N (T xs.length).vars (T xs.length).heap a w:=⟨G,b7R b d c r e⟩
theorem c1V(y:vs.Nodup)(d:a0G P vs N ops xs)(z:Trace (fns P) xs vars h T p ws)(A:a1Q h.length xs=true){Q:Exit→Act→World→Prop}(t:∀S G hS a w,a1f P B Z0 W0 vs N ops vars h T p ws S G hS a w→(∀j,j<ops.length→S j=true)→Q .normal a w):
 ∀(fuel:Nat) (listed:Array Bool) (a:Act) (w:World) (G:Gh) (hS:Heap),listed.size=ops.length→a3e (fun j=>listed.getD j false) ops.length≤fuel→
  (∀j k,listed.getD j false=true→j<ops.length→((I2 [] ops).getD j 0).testBit k=true→listed.getD k false=true)→
  a1f P B Z0 W0 vs N ops vars h T p ws (fun j=>listed.getD j false) G hS a w→wpAnyIn (fz ρ) nn P .any ops.toArray Q fuel listed a w:=by
 have g:∀(listed:Array Bool) (i:Nat),listed.size=ops.length→(i∈Region.ready .any ops.toArray listed↔i<ops.length∧listed.getD i false=false∧∃o,ops[i]?=some o∧∀e∈o.after.toList,Region.binds .any e=true→listed.getD e.on false=true):=by
  intro listed i b;unfold Region.ready;rw[a7U,a2p];simp only[a5Y,a5Z,E7,a6Y];constructor
  . rintro⟨h1,c,f⟩;refine⟨h1,?_,ops[i],l9 h1,fun e he hb=>?_⟩
    . grind
    . rw[l9 h1]at f;simp only[a2Y,a4L]at f;have:=Array.all_eq_true'.1 f e (by simpa using he);rw[hb]at this;simpa using this
  . grind
 have C:∀(listed:Array Bool),listed.size=ops.length→Region.ready .any ops.toArray listed=[]→∀j,j<ops.length→listed.getD j false=true:=by
  intro listed b hr j
  induction j using Nat.strongRecOn with
  |_ j l=>
   intro hj;cases hs:listed.getD j false
   . exfalso;have:j∈Region.ready .any ops.toArray listed:=(g listed j b).2 ⟨hj,hs,ops[j],l9 hj,fun e he hb=>by
      have:=a9T d.ed j _ (l9 hj) e he hb;exact l e.on j4 j4⟩
     rw[hr]at this;simp at this
   . rfl
 intro fuel
 induction fuel with
 |zero=>
  intro listed a w G hS b u m r;have v:=c1r (Nat.le_zero.1 u);unfold wpAnyIn;refine⟨?_,t _ _ _ _ _ r v⟩;refine c2l.2 fun i hi=>?_;obtain⟨h1,c,_⟩:=(g listed i b).1 hi;rw[v i h1]at c;cases c
 |succ fuel l=>
  intro listed a w G hS b u m r;unfold wpAnyIn;refine⟨fun hr=>t _ _ _ _ _ r (C listed b hr),fun i hi=>?_⟩;obtain⟨h1,c,o,f,D⟩:=(g listed i b).1 hi;have E:∀k,((I2 [] ops).getD i 0).testBit k=true→listed.getD k false=true:=fun k F=>by
   obtain⟨e,n,q,K,x⟩:=a9z f F;rcases x with rfl|x
   . exact D e n q
   . grind
  have s:(fun j=>(listed.setIfInBounds i true).getD j false)=fun j=>(listed.getD j false||j==i):=by
   funext j;simp only[a4j];by_cases L:j=i
   . grind
   . grind
  refine c4E y d z A r ⟨h1,c,m,E⟩ fun G' H I w' M=>?_;refine l _ I w' G' H (by simpa using b) ?_ ?_ (by grind)
  . rw[s];have:=b7S (S:=fun j=>listed.getD j false) c h1;omega
  . intro j k hj J hb;have n:=congrFun s j;have q:=congrFun s k;rw[n]at hj;rw[q];rw[a1j]at hj⊢;rcases hj with hj|hj
    . exact .inl (m j k hj J hb)
    . grind
theorem c8u{ops:List Oper}{h:Heap}{G:Gh}{a:Act}{w:World}(b:s6 B Z0 G h w)(i2:V9 G h w vs vars a)(i3:a.tmps.size=N)(i4:a0p W0.m a.defers w)(i5:W0.psi (W3 vs vars) G h w):
 a1f P B Z0 W0 vs N ops vars h T p ws (fun j=>(Array.replicate ops.length false).getD j false) G h a {w with drawn:=w.drawn+1}:=by
 have d:∀q:Nat→Bool,K0 (fun j=>(Array.replicate ops.length false).getD j false&&q j) ops.length=none:=fun q=>by
  have e:∀n,K0 (fun j=>(Array.replicate ops.length false).getD j false&&q j) n=none:=fun n=>by
   induction n with
   |zero=>rfl
   |succ n f=>
    simp only[K0];rw[f,if_neg];simp only[a4j,a7W];split<;>simp
  exact e _
 have i:Bl B w {w with drawn:=w.drawn+1}:=Bl.drew (Bl.refl _ _);have c:Ext G h w G h {w with drawn:=w.drawn+1}:=⟨fun _ x=>x,fun _ _=>rfl,Ext.refl.kp (w:=w)⟩
 refine⟨?_,rfl,fun k=>?_,fun t j hj=>?_,fun t _ k l=>?_,i3,i4,W0.step i5 c i⟩
 . exact⟨b.base,b.zo,b.zb,b.lv,b.nz,b.fz,b.inj,fun k g o m=>(b.ob k g o m).ext c (fun y=>C8.refl _ _) fun y _=>rfl⟩
 . rw[d]
 . rw[d]at hj;cases hj
 . obtain⟨v,h1,r⟩:=i2 k t l;exact⟨v,h1,r.ext c⟩
theorem c6e(hm:P.follows .mixedOrders=true)(e:vs.Nodup){id k l:Nat}{ops:List Oper}{xs:List l5}(m:a5g P vs N k ops true=some (xs,l))(s:a1Q h.length xs=true){Q':B3→Prop}(u:E9 (fns P) xs ⟨[],vars,h⟩ Q')
 {Q:Exit→Act→World→Prop} (z:∀st a w,N5 B Z0 W0 vs N st.vars st.heap a w→Q' st→Q .normal a w) (hi:N5 B Z0 W0 vs N vars h a w):(Code.region id ops.toArray true).wpIn (fz ρ) nn P Q a w:=by
 have d:=b5a m;obtain⟨T,p,ws,t0,A,C⟩:=b3i d.cy u;have f:Trace (fns P) xs vars h T p ws:=⟨t0,C⟩
 obtain⟨G,b,i2,i3,i4,i5⟩:=hi;refine wpIn_region_any hm ?_;have i:∀q:Nat→Bool,K0 (fun j=>(Array.replicate ops.length false).getD j false&&q j) ops.length=none:=fun q=>by
  have D:∀n,K0 (fun j=>(Array.replicate ops.length false).getD j false&&q j) n=none:=fun n=>by
   induction n with
   |zero=>rfl
   |succ n E=>
    simp only[K0];rw[E,if_neg];simp only[a4j,a7W];split<;>simp
  exact D _
 have F:Bl B w {w with drawn:=w.drawn+1}:=Bl.drew (Bl.refl _ _);refine c1V (B:=B) (Z0:=Z0) (W0:=W0) (p:=p) (ws:=ws) e d f s (fun S G hS a w r H=>z _ a w (c6x e d f r H) A) _ _ _ _ G h k8 (by simpa using b5g _ _) ?_ ?_
 . intro j k hj;exfalso;revert hj;simp only[a4j,a7W];split<;>simp
 . have c:Ext G h w G h {w with drawn:=w.drawn+1}:=⟨fun _ x=>x,fun _ _=>rfl,Ext.refl.kp (w:=w)⟩
   refine⟨?_,rfl,fun k=>?_,fun t j hj=>?_,fun t _ k I=>?_,i3,i4,W0.step i5 c F⟩
   . exact⟨b.base,b.zo,b.zb,b.lv,b.nz,b.fz,b.inj,fun k g o J=>(b.ob k g o J).ext c (fun y=>C8.refl _ _) fun y _=>rfl⟩
   . rw[show ops.toArray.size=ops.length by simp]at*;rw[i]
   . rw[show ops.toArray.size=ops.length by simp]at*;rw[i]at hj;cases hj
   . obtain⟨v,h1,K⟩:=i2 k t I;exact⟨v,h1,K.ext c⟩
end
section
variable{F:Fence}{n:Nat}{P:Program}{Q Q1:Exit→Act→World→Prop}{K K1:Act→World→Prop}{a:Act}{w:World}
theorem c7f{o:Oper}(c:∀a w,K1 a w→K a w)(d:∀e a w,e≠ .normal→¬Q1 e a w)(b:o.wpIn F n P a w K1 Q1):o.wpIn F n P a w K Q:=by
 unfold Oper.wpIn at*;refine⟨b.1,?_⟩;have b:=b.2;generalize(o.semAt F.round a.eval).run P w=r at*;have f:¬LetsOut Q1:=fun⟨a,w,h⟩=>d _ _ _ (fun e=>by cases e) h;cases r with
 |ok x w'=>
  cases x<;>simp only[Oper.uponIn]at b⊢ <;>
   first
    |exact c _ _ b
    |exact⟨b.1,CallsIn.mono b.2 (fun e g he=>by cases e<;>first|exact c _ _ he|exact absurd he (d _ _ _ (fun e=>by cases e))|exact absurd he f)⟩
    |exact⟨b.1,RowsIn.mono b.2 (fun _ _ he=>c _ _ he)⟩
    |exact⟨b.1,RoundIn.mono b.2 (fun e g he=>by cases e<;>first|exact c _ _ he|exact absurd he (d _ _ _ (fun e=>by cases e))|exact absurd he f)⟩
 |halt x w'=>cases x<;>simp only[Oper.uponIn]at b⊢ <;>first|exact b.elim|exact absurd b (d _ _ _ (fun e=>by cases e))
theorem c5V{ops1 ops:Array Oper}{i:Nat}(g:ops1[i]?=ops[i]?)(k:∀o j b,ops[i]?=some o→o.guard=some (j,b)→ops1[j]?=ops[j]?)(l:∀e a w,e≠ .normal→¬Q1 e a w)(c:∀a w,K1 a w→K a w)
 (h:wpOpIn F n P ops1 Q1 i K1 a w):wpOpIn F n P ops Q i K a w:=by
 unfold wpOpIn at*;rw[g]at h;cases d:ops[i]? with
 |none=>rw[d]at h;exact c _ _ h
 |some o=>
  rw[d]at h;simp only at h⊢;have hw:Region.wanted o (yielded ops1 a.tmps)=Region.wanted o (yielded ops a.tmps):=by
   unfold Region.wanted;cases m:o.guard with
   |none=>rfl
   |some p=>
    obtain⟨j,b⟩:=p;simp only;have:yielded ops1 a.tmps j=yielded ops a.tmps j:=(by unfold yielded;rw[k o j b d m]);rw[this]
  rw[hw]at h;split at h
  . rename_i f;rw[if_pos f];exact c7f c l h
  . rename_i f;rw[if_neg f];exact⟨h.1,c _ _ h.2⟩
theorem a6y(ops:List Oper)(listed:Array Bool)(i:Nat)(c:listed.size=ops.length):i∈Region.ready .any ops.toArray listed↔i<ops.length∧listed.getD i false=false∧∃o,ops[i]?=some o∧∀e∈o.after.toList,Region.binds .any e=true→listed.getD e.on false=true:=by
 unfold Region.ready;rw[a7U,a2p];simp only[a5Y,a5Z,E7,a6Y];constructor
 . rintro⟨h1,b,a⟩;refine⟨h1,?_,ops[i],l9 h1,fun e he hb=>?_⟩
   . rw[←b];simp only[a4j]
     grind
   . rw[l9 h1]at a;simp only[a2Y,a4L]at a;have:=Array.all_eq_true'.1 a e (by simpa using he)
     grind
 grind
theorem b3w{ops:List Oper}(a:a4z 0 ops=true)(listed:Array Bool)(b:listed.size=ops.length)(hr:Region.ready .any ops.toArray listed=[]):∀j,j<ops.length→listed.getD j false=true:=by
 intro j
 induction j using Nat.strongRecOn with
 |_ j c=>
  intro hj;cases hs:listed.getD j false
  . exfalso;have:j∈Region.ready .any ops.toArray listed:=(a6y ops listed j b).2 ⟨hj,hs,ops[j],l9 hj,fun e he hb=>by
     have:=a9T a j _ (l9 hj) e he hb;exact c e.on j4 j4⟩
    grind
  . rfl
theorem c9m{ops:List Oper}:∀(i:Nat) {j:Nat},i<ops.length→((I2 [] ops).getD i 0).testBit j=true→j<i:=by
 intro i
 induction i using Nat.strongRecOn with
 |_ i c=>
  intro j hi h;obtain⟨e,_,_,b,a⟩:=a9z (l9 hi) h;rcases a with rfl|a
  . exact b
  . have:=c e.on b j4 a;omega
theorem a9D{listed:Array Bool}{i:Nat}(h:i<listed.size)(j:Nat):(listed.setIfInBounds i true).getD j false=(listed.getD j false||j==i):=by
 simp only[a4j]
 grind
theorem c9d{ops:List Oper}{m:Nat}(p:∀i,m≤i→i<ops.length→∀j,j<i→((I2 [] ops).getD i 0).testBit j=true)(q:a4z 0 ops=true):
 ∀(fuel i:Nat) (listed:Array Bool) (a:Act) (w:World),m≤i→i≤ops.length→ops.length-i≤fuel→listed.size=ops.length→(∀j,j<ops.length→(listed.getD j false=true↔j<i))→wpOpsIn F n P ops.toArray Q (List.range' i (ops.length-i)) a w→wpAnyIn F n P .any ops.toArray Q fuel listed a w:=by
 intro fuel
 induction fuel with
 |zero=>
  intro i listed a w r s t f d h;obtain rfl:i=ops.length:=j4;rw[a6a]at h;unfold wpAnyIn;refine⟨c2l.2 fun i hi=>?_,h⟩;obtain⟨h1,c,_⟩:=(a6y ops listed i f).1 hi;rw[(d i h1).2 h1]at c;cases c
 |succ fuel u=>
  intro i listed a w r s t f d h;unfold wpAnyIn;by_cases hi:i=ops.length
  . subst hi;rw[a6a]at h;refine⟨fun _=>h,fun i hi=>?_⟩;obtain⟨h1,c,_⟩:=(a6y ops listed i f).1 hi;rw[(d i h1).2 h1]at c;cases c
  . have l:i<ops.length:=j4;have v:listed.getD i false=false:=by
     cases hs:listed.getD i false
     . rfl
     . have:=(d i l).1 hs;omega
    refine⟨fun hr=>?_,fun b x=>?_⟩
    . have:=b3w q listed f hr i l;rw[v]at this;cases this
    . obtain⟨h1,c,o,y,z⟩:=(a6y ops listed b f).1 x;have E:¬b<i:=fun k=>(by rw[(d b h1).2 k]at c;cases c);have A:b=i:=by
       rcases a4N i b with k|hle
       . exfalso;obtain⟨e,B,C,G,g⟩:=a9z y (p b j4 h1 i k);have he:=(d e.on j4).1 (z e B C);rcases g with g|g
         . omega
         . have:=c9m e.on j4 g;omega
       . omega
      subst A;rw[show ops.length-b=(ops.length-(b+1))+1 by omega,List.range'_succ,wpOpsIn_cons]at h;refine wpOpIn_mono (fun a w D=>?_) h;refine u (b+1) _ a w j4 j4 j4 (by simpa using f) (fun j hj=>?_) D;rw[a9D j4,a1j,d j hj];simp only[beq_iff_eq];omega
theorem c2K{ops:List Oper}{m:Nat}(hm:m≤ops.length)(y:∀i,m≤i→i<ops.length→∀j,j<i→((I2 [] ops).getD i 0).testBit j=true)(r:a4z 0 ops=true)(H:a4z 0 (ops.take m)=true)
 (I:∀i o j b,i<m→ops[i]?=some o→o.guard=some (j,b)→j<m) (J:∀e a w,e≠ .normal→¬Q1 e a w) (K:∀a w,Q1 .normal a w→wpOpsIn F n P ops.toArray Q (List.range' m (ops.length-m)) a w):
 ∀(fuel:Nat) (c listed:Array Bool) (a:Act) (w:World),c.size=m→listed.size=ops.length→(∀j,j<m→listed.getD j false=c.getD j false)→(∀j,m≤j→j<ops.length→listed.getD j false=false)→
  (∀j k,listed.getD j false=true→j<ops.length→((I2 [] ops).getD j 0).testBit k=true→listed.getD k false=true)→
  wpAnyIn F n P .any (ops.take m).toArray Q1 fuel c a w→wpAnyIn F n P .any ops.toArray Q (fuel+(ops.length-m)) listed a w:=by
 have hlen:(ops.take m).length=m:=by rw[a1V];omega
 have s:∀i,i<m→(ops.take m)[i]?=ops[i]?:=fun i hi=>by rw[a0H,if_pos hi]
 have z:∀(fuel:Nat) (c listed:Array Bool) (a:Act) (w:World),ops.length-m≤fuel→listed.size=ops.length→(∀j,j<m→listed.getD j false=c.getD j false)→(∀j,m≤j→j<ops.length→listed.getD j false=false)→(∀j,j<m→c.getD j false=true)→Q1 .normal a w→wpAnyIn F n P .any ops.toArray Q fuel listed a w:=fun fuel c listed a w L d h1 f A l=>
  c9d y r fuel m listed a w (p7 _) hm L d (fun j hj=>by
   by_cases p:j<m
   . rw[h1 j p,A j p];simp[p]
   . rw[f j j4 hj];simp[p]) (K _ _ l)
 intro fuel
 induction fuel with
 |zero=>
  intro c listed a w B d h1 f t h;unfold wpAnyIn at h;exact z _ c listed a w j4 d h1 f (fun j hj=>b3w H c j4 h.1 j j4) h.2
 |succ fuel M=>
  intro c listed a w B d h1 f t h;unfold wpAnyIn at h;by_cases hd:∀j,j<m→c.getD j false=true
  . refine z _ c listed a w j4 d h1 f hd (h.1 (c2l.2 fun i hi=>?_));obtain⟨A,l,_⟩:=(a6y _ c i j4).1 hi;rw[hd i j4]at l;cases l
  . rw[show fuel+1+(ops.length-m)=(fuel+(ops.length-m))+1 by omega];unfold wpAnyIn;obtain⟨g,N⟩:=Classical.not_forall.1 hd;obtain⟨O,R⟩:=Classical.not_imp.1 N;have C:¬listed.getD g false=true:=(by rw[h1 g O];exact R);refine⟨fun hr=>absurd (b3w r listed d hr g j4) C,fun i hi=>?_⟩;obtain⟨S,i2,o,i3,i4⟩:=(a6y ops listed i d).1 hi;have D:∀k,((I2 [] ops).getD i 0).testBit k=true→listed.getD k false=true:=fun k u=>by
     obtain⟨e,E,G,Y,v⟩:=a9z i3 u;rcases v with rfl|v
     . exact i4 e E G
     . exact t e.on k (i4 e E G) j4 v
    have q:i<m:=by
     rcases a4N i m with T|U
     . exact T
     . exact absurd (D g (y i U S g j4)) C
    have V:i∈Region.ready .any (ops.take m).toArray c:=(a6y _ c i j4).2 ⟨j4,by rw[←h1 i q];exact i2,o,by rw[s i q];exact i3,fun e he hb=>by have:=a9T r i o i3 e he hb;rw[←h1 e.on j4];exact i4 e he hb⟩
    refine c5V (ops1:=(ops.take m).toArray) (by simpa using s i q) (fun o j b W X=>by have:=I i o j b q (by simpa using W) X;simpa using s j this) J (fun a w u=>?_) (h.2 i V)
    refine M _ _ a w (by simpa using B) (by simpa using d) (fun j hj=>?_) (fun j hj x=>?_) (fun j k hj x hb=>?_) u
    . rw[a9D j4,a9D j4,h1 j hj]
    . rw[a9D j4,f j hj x];have:(j==i)=false:=F6;rw[this];rfl
    . rw[a9D j4,a1j]at hj⊢;rcases hj with hj|hj
      . exact .inl (t j k hj x hb)
      . obtain rfl:j=i:=(by simpa using hj);exact .inl (D k hb)
theorem a9g{FN:N0}{Q:B3→Prop}{g:List l5}:∀{xs:List l5} {st:B3},xs.any (fun x=>a7K x.op)=false→E9 FN (xs++g) st Q→E9 FN xs st fun st=>E9 FN g st Q
 | [],st,_,h=>h
 |x::xs,st,a,h=>by
  simp only[List.any_cons,Bool.or_eq_false_iff]at a;rw[a6X]at h;cases b:gdO st.loc st.vars x.guard with
  |none=>simp only[E9,b]at h
  |some c=>
   cases c with
   |false=>simp only[E9,b]at h⊢;exact a9g a.2 h
   |true=>
    cases d:x.op
    case call f args ks al=>
     simp only[E9,b,d]at h⊢;obtain⟨r,h0,h1,e,i⟩:=h;exact⟨r,h0,h1,e,a9g a.2 i⟩
    case callv f args=>
     simp only[E9,b,d]at h⊢;obtain⟨r,ws,h1,e⟩:=h;exact⟨r,ws,h1,a9g a.2 e⟩
    case cally f args=>rw[d]at a;simp[a7K]at a
    all_goals
     simp only[E9,b,d]at h⊢;split at h
     . exact a9g a.2 h
     . exact h.elim
end
section
variable{P:Program}{B:Nat}{Z0:Nat→Prop}{W0:M8 B}{ρ:Option Nat}{nn:Nat}{vs:List Nat}{N:Nat}{ops:List Oper}{xs:List l5}{vars:List PV}{h:Heap}{T:Nat→B3}{p:Nat→PV}{ws:Nat→List (Nat×Row)}{S:Nat→Bool}{G:Gh}{hS:Heap}{a:Act}{w:World}
theorem c2S(i:vs.Nodup)(d:a0G P vs N ops xs)(c:Trace (fns P) xs vars h T p ws)(r:a1f P B Z0 W0 vs N ops vars h T p ws S G hS a w)(e:∀j,j<ops.length→S j=true):a4w G hS w ops ops.length (T xs.length).loc a:=fun t j hj=>by
 have b:K0 (fun j=>S j&&dq ops t j) ops.length=some j:=by rw[b1V]at hj;rw[←hj];exact a8p fun j hj=>by rw[e j hj];rfl
 obtain⟨v,h1,f⟩:=r.slw t j b;refine⟨v,h1,?_⟩;have g:=(b9r b).1;rw[(c.loc (p7 xs.length)).2 j (by rw[d.len];exact g)];exact f
theorem c5e(d:a0G P vs N ops xs)(b:Trace (fns P) xs vars h T p ws)(r:a1f P B Z0 W0 vs N ops vars h T p ws S G hS a w)(c:∀j,j<ops.length→S j=true):hS=(T xs.length).heap:=a4g fun k=>by
 have e:∀q:Nat→Bool,K0 (fun j=>S j&&q j) ops.length=K0 q xs.length:=fun q=>by rw[d.len];exact a8p fun j hj=>by rw[c j hj];rfl
 rw[r.hp k,b.heap k (p7 _),e]
 all_goals rfl
theorem c1t{ops:List Oper}{t m:Nat}:∀{i:Nat},i≤m→a0M (ops.take m) t i=a0M ops t i
 |0,_=>rfl
 |i+1,h=>by
  have h1:i<m:=j4;have a:=c1t (ops:=ops) (t:=t) (m:=m) (i:=i) j4;simp only[a0M]
  grind
end
theorem b3u{P:Program}{F:Fence}{n:Nat}{Q:Exit→Act→World→Prop}{a:Act}{w:World}{c:Code}(h:c.wpIn F n P (Exit.noGoto Q) a w):(Code.scope c).wpIn F n P Q a w:=by
 intro b k cs m hb hr;have h0:(lone (b.atR a (.code (.scope c)::k)) cs w).fenced P F:=fenced_calm hb hr rfl;have hs:step P (lone (b.atR a (.code (.scope c)::k)) cs w)=.next (lone (b.atR a (.code c::.inScope c::k)) cs w):=
  step_lone_go (by simp[stepG,stepG.exec,Frame.atR])
 have o:∀a w,step P (lone (b.atR a (.inScope c::k)) cs w)=.next (lone (b.atR a k) cs w):=fun a w=>
  step_lone_go (by simp[stepG,stepG.exec,Frame.atR])
 obtain⟨e,g,i,d,f⟩:=h b (.inScope c::k) cs m hb hr;cases e with
 |normal=>exact⟨.normal,g,i,d,.head h0 hs (StepsIn.trans f (.one (fenced_calm hb hr rfl) (o _ _)))⟩
 |exit id=>exact⟨.exit id,g,i,d,fun p j=>.head h0 hs (f.1 p (by simp[exitTo,j])),fun q j=>let⟨k₁,h1,h2⟩:=f.2 q (by simp[exitTo,j]);⟨k₁,h1,.head h0 hs h2⟩⟩
 |goto l=>exact d.elim
 |ret=>exact⟨_,g,i,d,.of_steps (.one h0 hs) f⟩
 |panic r=>exact⟨_,g,i,d,.of_steps (.one h0 hs) f⟩
 |outgrown=>exact⟨_,g,i,d,.of_steps (.one h0 hs) f⟩
def exOf:O4→Exit
 | .normal=>.normal
 | .exit id=>.exit id
 | .ret=>.ret
section
variable{P:Program}{B:Nat}{Z0:Nat→Prop}{W0:M8 B}{ρ:Option Nat}{nn:Nat}{vs:List Nat}{N:Nat}{vars:List PV}{h:Heap}{a:Act}{w:World}
def b0G(B:Nat)(Z0:Nat→Prop)(W0:M8 B)(vs:List Nat)(N:Nat)(Q':J0)(Q:Exit→Act→World→Prop):Prop:=∀e vars h a w,N5 B Z0 W0 vs N vars h a w→Q' e vars h→Q (exOf e) a w
theorem b3E{FN:N0}(e:FN.fn=Fn P)(f:FN.fi=FI P)(g:a7h P B Z0 W0 ρ vs FN.fy)(l:vs.Nodup){id k d:Nat}{ops:List Oper}{xs:List l5}(b:b0U P vs N k ops false=some (xs,d))(m:a1Q h.length xs=true){Q':B3→Prop}(n:E9 FN xs ⟨[],vars,h⟩ Q')
 {Q:Exit→Act→World→Prop} (o:∀st a w,N5 B Z0 W0 vs N st.vars st.heap a w→Q' st→Q .normal a w) (hi:N5 B Z0 W0 vs N vars h a w):(Code.region id ops.toArray false).wpIn (fz ρ) nn P Q a w:=by
 have b:a5g P vs N k ops false=some (xs,d):=b;unfold a5g at b;split at b
 . cases b
 . rename_i p q r;simp only[a4c,if_false,s5,s9]at b;obtain⟨rfl,rfl⟩:=b;obtain⟨tail,h1,s⟩:=b2u (B:=B) (Z0:=Z0) (W0:=W0) e f g l (Q:=Q) (Q':=Q') (fun i st a w hinv u=>by
    obtain⟨G,c,i2,_,_,i5,v,x⟩:=hinv;exact o st a w ⟨G,c,i2,i5,v,x⟩ u) ops [] k q p rfl r
   simp only[a4H]at h1;subst h1;obtain⟨G,c,i2,i3,i4,i5⟩:=hi;have:=s ⟨[],vars,h⟩ a w ⟨G,c,i2,fun t j hj=>by simp[a0M]at hj,rfl,i3,i4,i5⟩ m n;exact wpIn_region (by simpa[List.range_eq_range']using this)
theorem b1R{c:Operand}{d:A6}(hd:a0l vs [] 0 c=some d){G:Gh}(b:V9 G h w vs vars a):j9 G h w D (a.eval c) (y9 [] vars d):=
 b3g b (ops:=[]) (i:=0) (loc:=[]) (fun t j hj=>by simp[a0M]at hj) c d hd
theorem a7w{FN:N0}(b:FN.fn=Fn P)(d:FN.fi=FI P){Q:B3→Prop}:∀{xs:List l5} {st:B3},xs.any (fun x=>a7K x.op)=false→E9 FN xs st Q→E9 (fns P) xs st Q
 | [],st,_,h=>h
 |x::xs,st,a,h=>by
  simp only[List.any_cons,Bool.or_eq_false_iff]at a;cases e:gdO st.loc st.vars x.guard with
  |none=>simp only[E9,e]at h
  |some c=>
   cases c with
   |false=>simp only[E9,e]at h⊢;exact a7w b d a.2 h
   |true=>
    cases g:x.op
    case call f args ks al=>
     simp only[E9,e,g]at h⊢;obtain⟨r,h0,h1,i,j⟩:=h;exact⟨r,h0,b▸h1,i,a7w b d a.2 j⟩
    case callv f args=>
     simp only[E9,e,g]at h⊢;obtain⟨r,ws,h1,i⟩:=h;exact⟨r,ws,d▸h1,a7w b d a.2 i⟩
    case cally f args=>rw[g]at a;cases a.1
    all_goals
     simp only[E9,e,g]at h⊢;split at h
     . exact a7w b d a.2 h
     . exact h.elim
theorem b4I{FN:N0}(hm:P.follows .mixedOrders=true)(z:FN.fn=Fn P)(A:FN.fi=FI P)(R:a7h P B Z0 W0 ρ vs FN.fy)(l:vs.Nodup){id k C:Nat}{ops:List Oper}{xs:List l5}(c:b0U P vs N k ops true=some (xs,C)){vars:List PV}{h:Heap}(u:a1Q h.length xs=true){Q':B3→Prop}(I:E9 FN xs ⟨[],vars,h⟩ Q')
 {Q:Exit→Act→World→Prop} (J:∀st a w,N5 B Z0 W0 vs N st.vars st.heap a w→Q' st→Q .normal a w) {a:Act} {w:World} (hi:N5 B Z0 W0 vs N vars h a w):(Code.region id ops.toArray true).wpIn (fz ρ) nn P Q a w:=by
 have hold:a5g P vs N k ops true=some (xs,C)→(Code.region id ops.toArray true).wpIn (fz ρ) nn P Q a w:=fun c=>c6e hm l c u (a7w z A (b5a c).cy I) J hi;unfold b0U at c;split at c
 . rename_i m h0 ao;split at c
   . rename_i r hr;cases c;unfold b9A at hr;split at hr
     . rename_i q;simp only[E7]at q;obtain⟨⟨q,U⟩,V⟩:=q;have W:m<ops.length:=(by simpa[a1J]using V);split at hr
       . rename_i s X Y;have d:=b5a Y;have K:(ops.take m).length=m:=(by rw[a1V];omega);have D:s.length=m:=(by rw[d.len,K]);obtain⟨tail,rfl,Z⟩:=b2u (nn:=nn) (B:=B) (Z0:=Z0) (W0:=W0) (ρ:=ρ) z A R l (ops:=ops) (al:=true) (Q:=Q) (Q':=Q') (fun i st a w hinv aa=>by
          obtain⟨G,ab,ac,_,_,ad,ae,af⟩:=hinv;exact J st a w ⟨G,ab,ac,ad,ae,af⟩ aa) (ops.drop m) s X C xs (by rw[D]) hr
         have L:a1Q h.length s=true∧a1Q h.length tail=true:=by unfold a1Q at u⊢;rw[List.all_append,E7]at u;exact u
         obtain⟨T,p,ws,t0,ag,ah⟩:=b3i d.cy (a7w z A d.cy (a9g d.cy I));have g:Trace (fns P) s vars h T p ws:=⟨t0,ah⟩
         obtain⟨G,ai,i2,i3,i4,i5⟩:=hi;have aj:∀i,m≤i→i<ops.length→∀j,j<i→((I2 [] ops).getD i 0).testBit j=true:=fun i ap aq j hj=>by unfold b5Q at q;have h1:=B5.1 q (i-m) (a2p.2 j4);rw[show m+(i-m)=i by omega]at h1;exact B5.1 h1 j (a2p.2 hj)
         refine wpIn_region_any hm ?_;have M:ops.toArray.size=m+(ops.length-m):=F6;have ar:ops.toArray.size=ops.length:=k8;have h1:=c1V (nn:=nn) (ρ:=ρ) l d g L.1 (Q:=fun e a w=>e=.normal∧wpOpsIn (fz ρ) nn P ops.toArray Q (List.range' m (ops.length-m)) a w) (fun S G hS a w r E=>⟨rfl,by
          have f:=b7R l d g r E;have F:=c2S l d g r E;rw[c5e d g r E,K]at F;have:=Z (T s.length) a w ⟨G,f.1,f.2.1,by rw[D]at F⊢;exact fun t j hj=>F t j (by rw[c1t (p7 _)];exact hj),(g.loc (p7 _)).1,f.2.2.1,f.2.2.2.1,f.2.2.2.2⟩ (by rw[g.len (p7 _)];exact L.2) ag;rw[D,a4O]at this;exact this⟩) m (Array.replicate (ops.take m).length false) a {w with drawn:=w.drawn+1} G h k8 (by have:=b5g (fun j=>(Array.replicate (ops.take m).length false).getD j false) (ops.take m).length;omega) (fun j k hj=>by exfalso;revert hj;simp only[a4j,a7W];split<;>simp) (c8u ai i2 i3 i4 i5)
         have v:∀(n j:Nat),(Array.replicate n false).getD j false=false:=fun n j=>by simp only[a4j,a7W];split<;>simp
         have O:=c2K (a6b W) aj U d.ed (Q:=Q) (fun i o j b ak am f=>by
          obtain⟨x,_,an⟩:=d.ok i o (by rw[a0H,if_pos ak];exact am);have y:=an.gd;rw[f]at y;simp only at y;rcases a4N j m with h|h
          . exact h
          . rw[a0H,if_neg j4]at y;simp at y) (fun e a w he H=>he H.1) (fun a w H=>H.2) m _ (Array.replicate ops.toArray.size false) a {w with drawn:=w.drawn+1} F6 k8 (fun j hj=>by rw[v,v]) (fun j _ _=>v _ _) (fun j k hj=>by rw[v]at hj;cases hj) h1
         rw[M];rw[M]at O;exact O
       . cases hr
     . cases hr
   . exact hold c
 . exact hold c
end
section
variable{x b:C6}{k g j id ver sz i:Nat}{c e:PV}{u:Value}{es ks cs:List PV}{FN:N0}
section
variable{P:Program}{B:Nat}{Z0:Nat→Prop}{W0:M8 B}{vs:List Nat}{N:Nat}
theorem b3P{G:Gh}{h:Heap}{w:World}(hr:s6 B Z0 G h w){a s':Nat}(b:h[k]?=some (a,.arr s' ver true es))(hp:es.all D9=true)(c:j9 G h w D u (.own k a es.length s' 0 es.length)):j9 G h w D u (.slc (es.map B6)):=by have:=c1G hr (Z':=G.Z) (fun _ x=>x) b rfl j4 hp (hr.fz k a _ b rfl) c;rw[List.drop_zero,K8]at this;exact a0N this
theorem b8Q{G:Gh}{h:Heap}{w:World}(hr:s6 B Z0 G h w)(d:h[k]?=some (g,.mp true ks cs))(hp:cs.all (fun c=>A7 c||fn0 c)=true)(q:j9 G h w D u (.mapv k g)):PR G.Z w u (.M6 ks cs):=by
 obtain⟨rfl,z,es,A,hb,C,f⟩:=a8h hr d q;have o:=hr.ob k g _ d;unfold F7 at o;have E:G.Z (G.β (root k)):=hr.fz k g _ d rfl none o.1;have h1:∀i,i<cs.length→∃N,∀c,cs[i]?=some c→∃e,es[i]?=some e∧J1 G.Z w N e.val c:=fun i hi=>by
  obtain⟨e,r,b⟩:=f i _ (l9 hi);have a:=B5.1 hp _ (C4 hi);have:∃N,J1 G.Z w N e.val cs[i]:=by
   generalize cs[i]=c at a b;by_cases j:A7 c=true
   . exact a4D j ((a4T (fun ns e=>by subst e;simp[A7]at j)).1 b)
   . have l:fn0 c=true:=(by simpa[j]using a);unfold fn0 at l;split at l
     . unfold a0c at b;obtain⟨vs,us,h1,s,t⟩:=a8C b;refine⟨1,?_⟩;unfold J1;have f:vs= #[]:=b2b s.1;have v:us= #[]:=b2b t.1;rw[h1,f,v]
     . cases l
  obtain⟨N,p⟩:=this;exact⟨N,fun c a=>by rw[l9 hi]at a;cases a;exact⟨e,r,p⟩⟩
 obtain⟨N,p⟩:=a8k (Q:=fun i N=>∀c,cs[i]?=some c→∃e,es[i]?=some e∧J1 G.Z w N e.val c) (fun i n m x y c a=>by obtain⟨e,g1,g2⟩:=y c a;exact⟨e,g1,g2.le x⟩) cs.length h1
 refine⟨N+1,?_⟩;unfold J1
 grind
theorem a7m{G:Gh}{h:Heap}{w:World}(hr:s6 B Z0 G h w)(b:one c=true)(a:j9 G h w D u c):one (Z7 h c)=true∧j9 G h w D u (Z7 h c):=by
 by_cases n:∃k g f s o l,c=.own k g f s o l
 . obtain⟨k,g,f,s,o,l,rfl⟩:=n;simp only[Z7];split
   . rename_i i s' ver fr es j;split
     . rename_i m;obtain⟨rfl,rfl,rfl,rfl,rfl,rfl,hp⟩:=m;have d:h[k]?=some (i,.arr s' ver true es):=by
        rw[B0]at j
        grind
       exact⟨rfl,b3P hr d hp a⟩
     . exact⟨b,a⟩
   . exact⟨b,a⟩
 by_cases p:∃k g f s o l,c=.osl k g f s o l
 . obtain⟨k,g,f,s,o,l,rfl⟩:=p;simp only[Z7];split
   . rename_i i s' ver fr es j;split
     . rename_i m;obtain⟨rfl,rfl,rfl,q,rfl,hp⟩:=m;have d:h[k]?=some (i,.arr s' ver true es):=by
        rw[B0]at j
        grind
       exact⟨rfl,a0N (b1t hr (fun _ y=>y) d rfl q hp (fun y r=>hr.fz k _ _ d rfl y r) a)⟩
     . exact⟨b,a⟩
   . exact⟨b,a⟩
 by_cases hm:∃k g,c=.mapv k g
 . obtain⟨k,g,rfl⟩:=hm;simp only[Z7];split
   . rename_i i fr ks cs j;split
     . rename_i m;obtain⟨rfl,rfl,hp⟩:=m;have d:h[k]?=some (i,.mp true ks cs):=by
        rw[B0]at j
        grind
       exact⟨rfl,a7M (b8Q hr d hp a)⟩
     . exact⟨b,a⟩
   . exact⟨b,a⟩
 . have e:Z7 h c=c:=by
    cases c<;>first|rfl|exact absurd ⟨_,_,_,_,_,_,rfl⟩ n|exact absurd ⟨_,_,_,_,_,_,rfl⟩ p|exact absurd ⟨_,_,rfl⟩ hm
   rw[e];exact⟨b,a⟩
theorem c9z{G:Gh}{h:Heap}{w:World}(hr:s6 B Z0 G h w)(b:j9 G h w D u c):j9 G h w D u (Z7 h c):=by
 by_cases d:∃k g a s o l,c=.own k g a s o l
 . obtain⟨k,g,a,s,o,l,rfl⟩:=d;exact(a7m hr rfl b).2
 by_cases f:∃k g a s o l,c=.osl k g a s o l
 . obtain⟨k,g,a,s,o,l,rfl⟩:=f;exact(a7m hr rfl b).2
 by_cases hm:∃k g,c=.mapv k g
 . obtain⟨k,g,rfl⟩:=hm;exact(a7m hr rfl b).2
 . have e:Z7 h c=c:=by
    cases c<;>first|rfl|exact absurd ⟨_,_,_,_,_,_,rfl⟩ d|exact absurd ⟨_,_,_,_,_,_,rfl⟩ f|exact absurd ⟨_,_,rfl⟩ hm
   rw[e];exact b
theorem c4Q{G:Gh}{h:Heap}{w:World}(hr:s6 B Z0 G h w)(a:h[k]?=some (g,.var cs)):
 s6 B Z0 G (h.set k (g,.var (cs.map (Z7 h)))) w∧Ext G h w G (h.set k (g,.var (cs.map (Z7 h)))) w:=by
 have o:k<h.length:=(C0.1 a).1;have p:=hr.ob k g _ a;unfold F7 at p;obtain⟨s,us,T,hb,hu⟩:=p;have x:Ext G h w G (h.set k (g,.var (cs.map (Z7 h)))) w:=by
  refine⟨fun _ y=>y,fun _ _=>rfl,fun m gn ob e=>?_⟩;by_cases d:m=k
  . subst d;rw[a]at e;cases e;refine⟨g,.var _,E8 o,p7 _,fun _=>⟨fun _ _ _ _ f=>?_,fun H f=>⟨cs,rfl,C8.refl _ _⟩,fun _ _ _ f=>(by cases f)⟩⟩;cases f
  . exact⟨gn,ob,by rw[F4 (Ne.symm d)];exact e,p7 _,fun _=>K7.refl m ob (C8.refl _ _) fun i j=>C8.refl _ _⟩
 refine⟨hr.update k g _ o x (fun _ _ _=>.inl (C8.refl _ _)) (fun _ _ _ _=>rfl) (p7 _) (fun b t=>hr.zb b t) (fun b hb=>.inl hb) (fun _ _ _ _ u=>u) (fun y l=>?_) (fun e=>by cases e) ?_,x⟩
 . obtain⟨z,A⟩:=hr.lv _ l;exact⟨z,A,fun _=>hr.nz k g _ a rfl y l,fun C n e=>congrArg Prod.snd (hr.inj _ _ l n e),fun m C d n e=>d (congrArg Prod.fst (hr.inj _ _ l n e)).symm⟩
 . unfold F7;refine⟨s,us,T,hb,by rw[O0];exact hu.1,fun i c q=>?_⟩;rw[H6]at q;obtain⟨c0,D,rfl⟩:=C9.1 q;obtain⟨v,h1,r⟩:=hu.2 i c0 D;obtain⟨E,F⟩:=a7m hr r.1 r.2;exact⟨v,h1,E,F.ext x⟩
theorem c7K(h:Heap)(a:∀cs,c≠ .agg cs):l6 (Z7 h c)=[Z7 h c]:=by
 cases c<;>simp only[Z7]<;>(try rfl)
 case agg cs=>exact absurd rfl (a cs)
 all_goals (repeat' split)<;>rfl
theorem b3q(h:Heap)(e:PV):l6 (a4r h e)=(l6 e).map (Z7 h):=by
 by_cases a:∃cs,e=.agg cs
 . obtain⟨cs,rfl⟩:=a;rfl
 . have b:a4r h e=Z7 h e:=by cases e<;>first|rfl|exact absurd ⟨_,rfl⟩ a
   have c:l6 e=[e]:=by cases e<;>first|rfl|exact absurd ⟨_,rfl⟩ a
   rw[b,c7K h fun cs e=>a ⟨cs,e⟩,c];rfl
theorem c5s{G:Gh}{h:Heap}{w:World}(hr:s6 B Z0 G h w)(d:h[k]?=some (g,.arr sz ver false es)):
 s6 B Z0 G (h.set k (g,.arr sz ver false (es.map (a4r h)))) w∧Ext G h w G (h.set k (g,.arr sz ver false (es.map (a4r h)))) w:=by
 have s:k<h.length:=(C0.1 d).1;have t:=hr.ob k g _ d;unfold F7 at t;obtain⟨E,F,H,I,J⟩:=t;have hu:∀i j ns,cellAt es i j=some (.uslc ns)→cellAt (es.map (a4r h)) i j=some (.uslc ns):=fun i j ns e=>by unfold cellAt at e⊢;obtain⟨x,h1,f⟩:=X1.1 e;rw[H6,h1];show(l6 (a4r h x))[j]?=_;rw[b3q,H6,f];rfl
 have x:Ext G h w G (h.set k (g,.arr sz ver false (es.map (a4r h)))) w:=by
  refine⟨fun _ y=>y,fun _ _=>rfl,fun p gn ob e=>?_⟩;by_cases l:p=k
  . subst l;rw[d]at e;cases e;refine⟨g,_,E8 s,p7 _,fun _=>⟨fun Y Z aa es' a=>?_,fun ab a=>(by cases a),fun _ _ _ a=>(by cases a)⟩⟩;cases a;exact⟨ver,false,es,rfl,k8,p7 _,fun _=>C8.refl _ _,fun _ i j ns m=>⟨ns,hu i j ns m,rfl,C8.refl _ _⟩⟩
  . exact⟨gn,ob,by rw[F4 (Ne.symm l)];exact e,p7 _,fun _=>K7.refl p ob (C8.refl _ _) fun i j=>C8.refl _ _⟩
 refine⟨hr.update k g _ s x (fun _ _ _=>.inl (C8.refl _ _)) (fun _ _ _ _=>rfl) (p7 _) (fun b K=>hr.zb b K) (fun b hb=>.inl hb) (fun _ _ _ _ q=>q) (fun y n=>?_) (fun e=>by cases e) ?_,x⟩
 . obtain⟨L,M⟩:=hr.lv _ n;exact⟨L,M,fun _=>hr.nz k g _ d rfl y n,fun N r e=>congrArg Prod.snd (hr.inj _ _ n r e),fun p N l r e=>l (congrArg Prod.fst (hr.inj _ _ n r e)).symm⟩
 . unfold F7;refine⟨E,by rw[O0];exact F,H,fun O=>?_,fun q=>by rw[J q];rfl⟩;obtain⟨us,T,P,Q,R⟩:=I O;refine⟨us,T,P,Q,fun i e he=>?_⟩;rw[H6]at he;obtain⟨S,U,rfl⟩:=C9.1 he;obtain⟨V,W⟩:=R i S U;refine⟨by rw[b3q,O0];exact V,fun j c m=>?_⟩;rw[b3q,H6]at m;obtain⟨c0,X,rfl⟩:=C9.1 m;obtain⟨u,h1,f⟩:=W j c0 X;refine⟨u,h1,?_⟩;by_cases v:∃ns,c0=.uslc ns
   . obtain⟨ns,rfl⟩:=v;exact f
   . have z:one c0=true∧j9 G h w D u c0:=by
      cases c0<;>first|exact absurd ⟨_,rfl⟩ v|exact f
     obtain⟨o,A⟩:=a7m hr z.1 z.2;have C:∀ns,Z7 h c0≠ .uslc ns:=fun ns e=>(by rw[e]at o;cases o);generalize Z7 h c0=y at o A C;cases y<;>first|exact absurd rfl (C _)|exact⟨o,A.ext x⟩
theorem b9f{G:Gh}{h:Heap}{w:World}{Z':Nat→Prop}(m:∀b,G.Z b→Z' b)(n:G.R (nest k i 0)→Z' (G.β (nest k i 0)))(l:mvS c=true)(a:a0c G h w k i u c){G':Gh}{h':Heap}(o:G'.Z=Z'):a0c G' h' w k i u (K5 c):=by
 have done:(A7 c||I7 c)=true→G9 G h w k i 0 u c→a0c G' h' w k i u (K5 c):=fun h1 d=>by
  obtain⟨g,p⟩:=a6q m n h1 d;subst o;have q:∀ns,K5 c≠ .uslc ns:=fun ns e=>by rw[e]at g;simp[one,Y1]at g
  exact(a4T q).2 (a1x g p)
 by_cases hp:(A7 c||I7 c)=true
 . refine done hp ?_;cases c
   case uslc ns=>exact a
   all_goals
    first
     |(simp[A7,I7]at hp;done)
     |(unfold a0c at a;unfold G9;exact⟨rfl,a⟩)
 . have j:fn0 c=true:=(by unfold mvS at l;revert l hp;cases A7 c<;>cases I7 c<;>simp);unfold fn0 at j;split at j
   . rename_i f;unfold a0c at a;show a0c G' h' w k i u (.fn (.func f) [] []);unfold a0c;obtain⟨vs,us,rfl,h1,d⟩:=a8C a;unfold D;unfold j9;exact⟨vs,us,rfl,⟨h1.1,fun i c a=>by simp at a⟩,⟨d.1,fun i c a=>by simp at a⟩⟩
   . cases j
theorem c6i{G:Gh}{h:Heap}{w:World}(hr:s6 B Z0 G h w){fr:Bool}{us:List PV}(l:h[k]?=some (g,.mp fr ks us))(hp:us.all mvS=true):
 s6 B Z0 (G.a2C k) (h.set k (g,.mp fr ks (us.map K5))) w∧Ext G h w (G.a2C k) (h.set k (g,.mp fr ks (us.map K5))) w:=by
 have q:k<h.length:=(C0.1 l).1;have n:∀f y,f≠k→C8 G (G.a2C k) (f,y):=fun f y a=>⟨rfl,⟨fun x=>x.2,fun x=>⟨fun e=>absurd e a,x⟩⟩,rfl,rfl⟩
 have u:C8 G (G.a2C k) (root k):=⟨rfl,⟨fun x=>x.2,fun x=>⟨fun _=>rfl,x⟩⟩,rfl,rfl⟩
 have r:=hr.ob k g _ l;unfold F7 at r;obtain⟨v,z,es,A,C,D,E⟩:=r;have x:Ext G h w (G.a2C k) (h.set k (g,.mp fr ks (us.map K5))) w:=by
  refine⟨fun _ y=>.inl y,fun _ _=>rfl,fun f gn ob e=>?_⟩;by_cases a:f=k
  . subst a;rw[l]at e;cases e;exact⟨g,_,E8 q,p7 _,fun _=>⟨fun _ _ _ _ o=>(by cases o),fun _ o=>(by cases o),fun _ _ _ _=>⟨_,_,_,rfl,u⟩⟩⟩
  . exact⟨gn,ob,by rw[F4 (Ne.symm a)];exact e,p7 _,fun _=>K7.refl f ob (n _ _ a) fun i j=>n _ _ a⟩
 refine⟨hr.update k g _ q x (fun f y a=>.inl (n f y a)) (fun _ _ _ _=>rfl) (p7 _) ?_ (fun b hb=>hb.imp id fun⟨ij,h1,F⟩=>F▸(hr.lv _ h1).1) ?_ ?_ ?_ ?_,x⟩
 . rintro b (hb|⟨ij,d,rfl⟩)
   . exact hr.zb b hb
   . exact(hr.lv _ d).2
 . rintro f y a d H (hb|⟨ij,p,he⟩)
   . exact H hb
   . exact a (congrArg Prod.fst (hr.inj _ _ d p he))
 . intro y d;obtain⟨I,J⟩:=hr.lv (k,y) d.2;have K:y=none:=d.1 rfl;subst K;refine⟨I,J,fun L=>?_,fun M m he=>congrArg Prod.snd (hr.inj _ _ d.2 m.2 he),fun f M a m he=>a (congrArg Prod.fst (hr.inj _ _ d.2 m.2 he)).symm⟩;rintro(hb|⟨ij,p,he⟩)
   . exact hr.nz k g _ l L none d.2 hb
   . have:=hr.inj _ _ d.2 p he;simp at this
 . intro N y d;exact .inl (hr.fz k g _ l N y d.2)
 . unfold F7;refine⟨⟨fun _=>rfl,v⟩,by rw[O0];exact z,es,A,C,D,fun i c s=>?_⟩;rw[H6]at s;obtain⟨c0,t,rfl⟩:=C9.1 s;obtain⟨e,O,P⟩:=E i c0 t;exact⟨e,O,b9f (Z':=(G.a2C k).Z) (fun b hb=>.inl hb) (fun m=>.inr ⟨(i,0),m,rfl⟩) (B5.1 hp c0 (D0 t)) P rfl⟩
theorem d1X{G:Gh}{h:Heap}{w:World}(hr:s6 B Z0 G h w){fr:Bool}{us:List PV}(m:h[k]?=some (g,.mp fr ks us))(hp:us.all mvS=true):
 s6 B Z0 (G.a2L k) (h.set k (g,.mp true ks (us.map K5))) w∧Ext G h w (G.a2L k) (h.set k (g,.mp true ks (us.map K5))) w:=by
 have p:k<h.length:=(C0.1 m).1;have n:∀d y,d≠k→C8 G (G.a2L k) (d,y):=fun d y a=>⟨rfl,⟨fun x=>x.2,fun x=>⟨fun e=>absurd e a,x⟩⟩,rfl,rfl⟩
 have t:C8 G (G.a2L k) (root k):=⟨rfl,⟨fun x=>x.2,fun x=>⟨fun _=>rfl,x⟩⟩,rfl,rfl⟩
 have q:=hr.ob k g _ m;unfold F7 at q;obtain⟨u,v,es,z,A,C,D⟩:=q;have x:Ext G h w (G.a2L k) (h.set k (g,.mp true ks (us.map K5))) w:=by
  refine⟨fun _ y=>.inl y,fun _ _=>rfl,fun d gn ob e=>?_⟩;by_cases a:d=k
  . subst a;rw[m]at e;cases e;exact⟨g,_,E8 p,p7 _,fun _=>⟨fun _ _ _ _ o=>(by cases o),fun _ o=>(by cases o),fun _ _ _ _=>⟨_,_,_,rfl,t⟩⟩⟩
  . exact⟨gn,ob,by rw[F4 (Ne.symm a)];exact e,p7 _,fun _=>K7.refl d ob (n _ _ a) fun i j=>n _ _ a⟩
 refine⟨hr.update k g _ p x (fun d y a=>.inl (n d y a)) (fun _ _ _ _=>rfl) (p7 _) ?_ (fun b hb=>hb.imp id fun⟨ij,h1,E⟩=>E▸(hr.lv _ h1).1) ?_ ?_ ?_ ?_,x⟩
 . rintro b (hb|⟨ij,f,rfl⟩)
   . exact hr.zb b hb
   . exact(hr.lv _ f).2
 . rintro d y a f F (hb|⟨ij,H,he⟩)
   . exact F hb
   . exact a (congrArg Prod.fst (hr.inj _ _ f H he))
 . intro y f;obtain⟨I,J⟩:=hr.lv (k,y) f.2;have K:y=none:=f.1 rfl;subst K;refine⟨I,J,fun L=>?_,fun M l he=>congrArg Prod.snd (hr.inj _ _ f.2 l.2 he),fun d M a l he=>a (congrArg Prod.fst (hr.inj _ _ f.2 l.2 he)).symm⟩;simp[a7s]at L
 . intro P y f;exact .inr ⟨y,f.2,rfl⟩
 . unfold F7;refine⟨⟨fun _=>rfl,u⟩,by rw[O0];exact v,es,z,A,C,fun i c r=>?_⟩;rw[H6]at r;obtain⟨c0,s,rfl⟩:=C9.1 r;obtain⟨e,N,O⟩:=D i c0 s;exact⟨e,N,b9f (Z':=(G.a2L k).Z) (fun b hb=>.inl hb) (fun l=>.inr ⟨some (i,0),l,rfl⟩) (B5.1 hp c0 (D0 s)) O rfl⟩
theorem N5.G6{vars:List PV}{a:Act}{w:World}:∀{l:List (Nat×Bool)} {h:Heap},N5 B Z0 W0 vs N vars h a w→N5 B Z0 W0 vs N vars (a5W l h) a w
 | [],h,hi=>hi
 |(k,r)::l,h,hi=>by
  refine N5.G6 (l:=l) ?_;obtain⟨G,c,i2,i3,i4,i5⟩:=hi;cases b:h[k]? with
  |none=>
   have:h.set k ((h.getD k (0,.dead)).1,a0w h r (h.getD k (0,.dead)).2)=h:=List.set_eq_of_length_le (by simpa using b);show N5 B Z0 W0 vs N vars (h.set k _) a w;rw[this];exact⟨G,c,i2,i3,i4,i5⟩
  |some o=>
   obtain⟨g,ob⟩:=o;have hd:h.getD k (0,.dead)=(g,ob):=(by simp[List.getD,b]);show N5 B Z0 W0 vs N vars (h.set k ((h.getD k (0,.dead)).1,a0w h r (h.getD k (0,.dead)).2)) a w;rw[hd];have same:a0w h r ob=ob→N5 B Z0 W0 vs N vars (h.set k (g,a0w h r ob)) a w:=fun e=>by
    rw[e];have:h.set k (g,ob)=h:=by obtain⟨f,i⟩:=C0.1 b;rw[←i];exact b5s f
    rw[this];exact⟨G,c,i2,i3,i4,i5⟩
   have fresh:∀G' o',s6 B Z0 G' (h.set k (g,o')) w∧Ext G h w G' (h.set k (g,o')) w→N5 B Z0 W0 vs N vars (h.set k (g,o')) a w:=fun G' o' d=>
    ⟨G',d.1,fun k s hs=>by obtain⟨v,h1,j⟩:=i2 k s hs;exact⟨v,h1,j.ext d.2⟩,i3,i4,W0.step i5 d.2 (Bl.refl _ _)⟩
   cases ob with
   |dead=>exact same rfl
   |var cs=>exact fresh _ _ (c4Q c b)
   |mp fr us vs=>
    by_cases hp:vs.all mvS=true
    . cases r with
      |false=>
       have e:a0w h false (.mp fr us vs)=.mp fr us (vs.map K5):=(by simp only[a0w,hp,if_true,Bool.or_false]);rw[e];exact fresh _ _ (c6i c b hp)
      |true=>
       have e:a0w h true (.mp fr us vs)=.mp true us (vs.map K5):=(by simp only[a0w,hp,if_true,Bool.or_true]);rw[e];exact fresh _ _ (d1X c b hp)
    . exact same (by simp only[a0w,hp];rfl)
   |arr sz ver fr es=>
    by_cases hp:es.all D9=true
    . cases r with
      |false=>
       have e:a0w h false (.arr sz ver fr es)=.arr sz (ver+1) fr (es.map B6):=(by simp only[a0w,hp,if_true,Bool.or_false]);rw[e];exact fresh _ _ (b6o c b hp)
      |true=>
       have e:a0w h true (.arr sz ver fr es)=.arr sz (ver+1) true (es.map B6):=(by simp only[a0w,hp,if_true,Bool.or_true]);rw[e];exact fresh _ _ (b8B c b hp)
    . cases fr with
      |true=>exact same (by simp only[a0w,hp];rfl)
      |false=>
       have e:a0w h r (.arr sz ver false es)=.arr sz ver false (es.map (a4r h)):=(by simp only[a0w,hp];rfl);rw[e];exact fresh _ _ (c5s c b)
def a2n:C6→Bool
 | .seq a b| .cond _ a b=>a2n a&&a2n b
 | .block _ b| .loop b| .G6 _ b| .G4 _ _ _ _ b=>a2n b
 | .loopS .. =>false
 |_=>true
def Gh.Z4(G:Gh)(k:Nat):Gh:={G with R:=fun key=>key.1≠k∧G.R key,γ:=fun key=>if key.1=k then 0 else G.γ key}
theorem c5M{G:Gh}{h:Heap}{w:World}(hr:s6 B Z0 G h w)(m:h[k]?=some (g,.dead))(n:0<sz):
 s6 B Z0 (G.Z4 k) (h.set k (g+1,.arr sz 0 false [])) w∧Ext G h w (G.Z4 k) (h.set k (g+1,.arr sz 0 false [])) w∧j9 (G.Z4 k) (h.set k (g+1,.arr sz 0 false [])) w D (.slice none 0 0) (.own k (g+1) 0 sz 0 0):=by
 have f:k<h.length:=(C0.1 m).1;have l:∀c y,c≠k→C8 G (G.Z4 k) (c,y):=fun c y a=>⟨rfl,⟨fun x=>x.2,fun x=>⟨a,x⟩⟩,by simp[Gh.Z4,a],rfl⟩
 have x:Ext G h w (G.Z4 k) (h.set k (g+1,.arr sz 0 false [])) w:=by
  refine⟨fun _ y=>y,fun _ _=>rfl,fun c gn ob e=>?_⟩;by_cases a:c=k
  . subst a;rw[m]at e;cases e;exact⟨g+1,_,E8 f,j4,fun e=>j4⟩
  . exact⟨gn,ob,by rw[F4 (Ne.symm a)];exact e,p7 _,fun _=>K7.refl c ob (l _ _ a) fun i j=>l _ _ a⟩
 refine⟨hr.update k (g+1) _ f x (fun c y a=>.inl (l c y a)) (fun _ _ _ _=>rfl) (p7 _) (fun b hb=>hr.zb b hb) (fun b hb=>.inl hb) (fun _ _ _ _ o=>o) (fun y d=>absurd rfl d.1) (fun e=>by cases e) ?_,x,?_⟩
 . unfold F7;exact⟨n,k8,by simp[Gh.Z4,root],fun d=>absurd rfl d.1,fun _=>rfl⟩
 . unfold D j9;refine⟨none,0,rfl,p7 _,E0 _,.inl ⟨rfl,rfl⟩,g+1,_,E8 f,p7 _,fun _ p ver fr es e=>?_⟩;cases e;exact⟨k8,fun _=>⟨j4,fun d=>absurd rfl d.1,fun _=>⟨rfl,rfl⟩⟩⟩
theorem c6O{G:Gh}{h:Heap}{w:World}(hr:s6 B Z0 G h w){c':PV}(d:h[k]?=some (g,.var cs))(z:one c'=true)(A:∀u c,cs[j]?=some c→j9 G h w D u c→j9 G h w D u c'):
 s6 B Z0 G (h.set k (g,.var (cs.set j c'))) w∧Ext G h w G (h.set k (g,.var (cs.set j c'))) w:=by
 have r:k<h.length:=(C0.1 d).1;have s:=hr.ob k g _ d;unfold F7 at s;obtain⟨C,us,T,hb,hu⟩:=s;have x:Ext G h w G (h.set k (g,.var (cs.set j c'))) w:=by
  refine⟨fun _ y=>y,fun _ _=>rfl,fun o gn ob e=>?_⟩;by_cases f:o=k
  . subst f;rw[d]at e;cases e;refine⟨g,.var _,E8 r,p7 _,fun _=>⟨fun _ _ _ _ l=>?_,fun K l=>⟨cs,rfl,C8.refl _ _⟩,fun _ _ _ l=>(by cases l)⟩⟩;cases l
  . exact⟨gn,ob,by rw[F4 (Ne.symm f)];exact e,p7 _,fun _=>K7.refl o ob (C8.refl _ _) fun i j=>C8.refl _ _⟩
 refine⟨hr.update k g _ r x (fun _ _ _=>.inl (C8.refl _ _)) (fun _ _ _ _=>rfl) (p7 _) (fun b E=>hr.zb b E) (fun b hb=>.inl hb) (fun _ _ _ _ F=>F) (fun y m=>?_) (fun e=>by cases e) ?_,x⟩
 . obtain⟨H,I⟩:=hr.lv _ m;exact⟨H,I,fun _=>hr.nz k g _ d rfl y m,fun J p e=>congrArg Prod.snd (hr.inj _ _ m p e),fun o J f p e=>f (congrArg Prod.fst (hr.inj _ _ m p e)).symm⟩
 . unfold F7;refine⟨C,us,T,hb,by rw[a4J];exact hu.1,fun i c a=>?_⟩;by_cases t:i=j
   . subst t;have q:i<cs.length:=(by simpa using(C0.1 a).1);rw[E8 q]at a;cases a;obtain⟨v,h1,n⟩:=hu.2 i _ (l9 q);exact⟨v,h1,z,(A v _ (l9 q) n.2).ext x⟩
   . rw[F4 (Ne.symm t)]at a;obtain⟨v,h1,n⟩:=hu.2 i c a;exact⟨v,h1,n.1,n.2.ext x⟩
def Gh.drc(G:Gh)(k i j:Nat):Gh:={G with R:=fun key=>key≠nest k i j∧G.R key}
theorem a7y{G:Gh}{key:Key}(h:key≠nest k i j):C8 G (G.drc k i j) key:=⟨rfl,⟨fun x=>x.2,fun x=>⟨h,x⟩⟩,rfl,rfl⟩
theorem c2h{x:PV}(b:(l6 e)[j]?=some c)(d:l6 x=[x]):l6 (M4 e j [x])=(l6 e).set j x:=by
 by_cases a:∃cs,e=.agg cs
 . obtain⟨cs,rfl⟩:=a;rfl
 . have he:l6 e=[e]:=by cases e<;>first|rfl|exact absurd ⟨_,rfl⟩ a
   have hs:M4 e j [x]=x:=by cases e<;>first|rfl|exact absurd ⟨_,rfl⟩ a
   grind
theorem c9K{x y:PV}(d:(l6 e)[j]?=some c)(a:l6 x=[x]):M4 (M4 e j [x]) j [y]=M4 e j [y]:=by
 by_cases b:∃cs,e=.agg cs
 . obtain⟨cs,rfl⟩:=b;simp[M4,a1N]
 . have hs:∀z,M4 e j [z]=z:=fun z=>by cases e<;>first|rfl|exact absurd ⟨_,rfl⟩ b
   rw[hs x,hs y];cases x<;>first|rfl|skip
   case agg cs=>
    simp only[l6]at a;have:=congrArg (fun l:List PV=>SizeOf.sizeOf l) a;simp at this;omega
theorem d0I(a:one c=true):l6 c=[c]:=by cases c<;>first|rfl|(simp[one,Y1]at a)
theorem b3c{G:Gh}{h:Heap}{w:World}(hr:s6 B Z0 G h w){s:Nat}{c0 c':PV}(p:h[k]?=some (g,.arr s ver false es))(he:es[i]?=some e)(z:(l6 e)[j]?=some c0)(m:one c'=true)
 (q:∀us T u,w.heap[G.β (root k)]?=some (.cells us T (0,0))→us[i*s+j]?=some u→G9 G h w k i j u c0→j9 G h w D u c'):
 s6 B Z0 (G.drc k i j) (h.set k (g,.arr s (ver+1) false (es.set i (M4 e j [c'])))) w∧Ext G h w (G.drc k i j) (h.set k (g,.arr s (ver+1) false (es.set i (M4 e j [c'])))) w:=by
 have K:k<h.length:=(C0.1 p).1;have L:=hr.ob k g _ p;unfold F7 at L;obtain⟨P,Q,R,S,U⟩:=L;have x:Ext G h w (G.drc k i j) (h.set k (g,.arr s (ver+1) false (es.set i (M4 e j [c'])))) w:=by
  refine⟨fun _ y=>y,fun _ _=>rfl,fun r gn ob e=>?_⟩;by_cases d:r=k
  . subst d;rw[p]at e;cases e;refine⟨g,_,E8 K,p7 _,fun _=>⟨fun ad ae af es' n=>?_,fun ag n=>(by cases n),fun _ _ _ n=>(by cases n)⟩⟩;cases n;exact⟨ver,false,es,rfl,k8,j4,fun _=>a7y k8,fun e=>j4⟩
  . exact⟨gn,ob,by rw[F4 (Ne.symm d)];exact e,p7 _,fun _=>K7.refl r ob (a7y k8) fun a b=>a7y fun e=>d (congrArg Prod.fst e)⟩
 refine⟨hr.update k g _ K x (fun r y d=>.inl (a7y fun e=>d (congrArg Prod.fst e))) (fun _ _ _ _=>rfl) (p7 _) (fun b hb=>hr.zb b hb) (fun b hb=>.inl hb) (fun _ _ _ _ A=>A) (fun y f=>?_) (fun e=>by cases e) ?_,x⟩
 . obtain⟨V,W⟩:=hr.lv _ f.2;exact⟨V,W,fun _=>hr.nz k g _ p rfl y f.2,fun X C e=>congrArg Prod.snd (hr.inj _ _ f.2 C.2 e),fun r X d C e=>d (congrArg Prod.fst (hr.inj _ _ f.2 C.2 e)).symm⟩
 . unfold F7;refine⟨P,by rw[a4J];exact Q,R,fun f=>?_,fun A=>?_⟩
   . obtain⟨us,T,M,Y,N⟩:=S f.2;refine⟨us,T,M,Y,fun E Z t=>?_⟩;by_cases F:E=i
     . subst F;rw[E8 (C0.1 he).1]at t;cases t;obtain⟨aa,O⟩:=N E _ he;rw[c2h z (d0I m)];refine⟨by rw[a4J];exact aa,fun H c v=>?_⟩;by_cases I:H=j
       . subst I;rw[E8 (C0.1 z).1]at v;cases v;obtain⟨u,l,o⟩:=O H c0 z;refine⟨u,l,?_⟩;have J:=(q us T u M l o).ext x;revert m J;clear q x;cases c'<;>intro m J<;>first|(simp[one,Y1]at m;done)|(unfold G9;exact⟨m,J⟩)
       . rw[F4 (Ne.symm I)]at v;obtain⟨u,l,o⟩:=O H c v;exact⟨u,l,o.ext x (a7y fun e=>I (by simpa using e)) fun _=>rfl⟩
     . rw[F4 (Ne.symm F)]at t;obtain⟨ab,ac⟩:=N E Z t;refine⟨ab,fun j c q=>?_⟩;obtain⟨u,l,o⟩:=ac j c q;exact⟨u,l,o.ext x (a7y fun e=>F (by simpa using congrArg (fun k:Key=>k.2.map Prod.fst) e)) fun _=>rfl⟩
   . have:=U fun y=>A ⟨k8,y⟩;rw[this];rfl
theorem c8i{G:Gh}{h:Heap}{w:World}(hr:s6 B Z0 G h w)(d k i j:Nat):∃G',s6 B Z0 G' (a8M d k i j h) w∧Ext G h w G' (a8M d k i j h) w:=by
 have same:∀{h'},h'=h→∃G',s6 B Z0 G' h' w∧Ext G h w G' h' w:=fun e=>by subst e;exact⟨G,hr,Ext.refl⟩
 unfold a8M;split
 case h_2=>exact same rfl
 rename_i g s ver fr es g3 h1 y;split
 case isFalse=>exact same rfl
 rename_i M;obtain⟨rfl,o⟩:=M;split
 case h_2=>exact same rfl
 rename_i e he;split
 case h_2=>exact same rfl
 rename_i ns l;split
 case isFalse=>exact same rfl
 rename_i N;obtain⟨r,z⟩:=N;obtain⟨sz,O⟩:∃sz,(l6 (ns.headD .uu)).length=sz:=⟨_,rfl⟩
 rw[O]at z⊢;have P:d<h.length:=(C0.1 h1).1;have Q:k<h.length:=(C0.1 y).1;have t:i<es.length:=(C0.1 he).1;have A:=hr.ob d g _ h1;unfold F7 at A;obtain⟨_,_,_,R,S⟩:=A;have U:G.R (root d):=Classical.byContradiction fun m=>by rw[S m]at t;simp at t
 obtain⟨us,T,C,_,V⟩:=R U;obtain⟨u,E,x⟩:=(V i _ he).2 j (.uslc ns) l;unfold G9 O2 at x;have p:G.R (nest d i j):=Classical.byContradiction fun m=>by have:=(x.2 m).2;subst this;simp at r
 obtain⟨W,T2,f,c,rfl,X,Y,ao,Z,aa,F,ap,H⟩:=x.1 p;have I:G.σ (nest d i j)=sz:=by have q:=(H 0 ns[0] (l9 r)).1;have:=B5.1 z ns[0] (C4 r);simp at this;omega
 rw[I]at F;have ab:0<sz:=j4;obtain⟨a1,a2⟩:=b3c hr (c':=.any) h1 he l rfl (fun us' T' u hu n _=>by rw[C]at hu;cases hu;rw[E]at n;cases n;unfold D j9;exact⟨rfl,rfl⟩)
 have ac:(h.set d (g,.arr s (ver+1) false (es.set i (M4 e j [.any]))))[k]?=some (g3,.dead):=by rw[F4 o];exact y
 obtain⟨ad,ae⟩:=b6K a1 (us:=W) (T:=T2) (b:=G.β (nest d i j)) (γ0:=G.γ (nest d i j)) (sz:=sz) (ns:=ns) ac (hr.lv _ p).1 (hr.nz d g _ h1 rfl _ p) (fun key J e=>J.1 (hr.inj _ _ J.2 p e)) aa j4 Z ab F (fun a e af=>by obtain⟨K,L⟩:=H a e af;rw[I]at K L;refine⟨K,fun j ag ah=>?_⟩;obtain⟨ai,v,aj,ak⟩:=L j ag ah;exact⟨ai,v,aj,ak⟩)
 have al:((h.set d (g,.arr s (ver+1) false (es.set i (M4 e j [.any])))).set k (g3+1,.arr sz 0 false ns))[d]?=some (g,.arr s (ver+1) false (es.set i (M4 e j [.any]))):=by rw[F4 (Ne.symm o),E8 P]
 have am:((G.drc d i j).a0Z k (G.β (nest d i j)) (G.γ (nest d i j))).β (root d)=G.β (root d):=by have:(root d:Key)≠root k:=fun e=>o (congrArg Prod.fst e);simp[Gh.a0Z,Gh.drc,this]
 obtain⟨c1,c2⟩:=b3c ad (c':=.own k (g3+1) ns.length sz 0 ns.length) (j:=j) (c0:=.any) al (by rw[E8 t]) (by rw[c2h l rfl,E8 (C0.1 l).1]) rfl (fun us' T' u hu n _=>by rw[am,C]at hu;cases hu;rw[E]at n;cases n;unfold D j9;refine⟨_,c,rfl,Y,j4,.inr ⟨_,_,rfl⟩,g3+1,_,E8 (by simpa using Q),p7 _,fun _ aq vr ar es' e=>?_⟩;cases e;refine⟨p7 _,fun _=>⟨j4,fun _=>⟨f,by simp[Gh.a0Z],X.imp id fun h _=>j4,j4,by simp[Gh.a0Z];omega⟩,fun m=>absurd (.inl rfl) m⟩⟩)
 have an:(((h.set d (g,.arr s (ver+1) false (es.set i (M4 e j [.any])))).set k (g3+1,.arr sz 0 false ns)).set d (g,.arr s (ver+1+1) false ((es.set i (M4 e j [.any])).set i (M4 (M4 e j [.any]) j [.own k (g3+1) ns.length sz 0 ns.length]))))=
  ((h.set d (g,.arr s (ver+2) false (es.set i (M4 e j [.own k (g3+1) ns.length sz 0 ns.length])))).set k (g3+1,.arr sz 0 false ns)):=by
  rw[List.set_comm _ _ (Ne.symm o),List.set_set,List.set_set,c9K l rfl]
 rw[←an];exact⟨_,c1,a2.trans (ae.trans c2)⟩
theorem c8L(e:PV):B6 (B6 e)=B6 e:=by
 have h0:∀c,K5 (K5 c)=K5 c:=fun c=>by cases c<;>rfl
 cases e<;>first|(simp only[B6];exact h0 _)|skip
 case agg cs=>simp only[B6,a2D];congr 1;exact O1 fun c _=>h0 c
 all_goals rfl
theorem c8K{G:Gh}{h:Heap}{w:World}(hr:s6 B Z0 G h w)(b n i j:Nat):∃G',s6 B Z0 G' (a8A b n i j h) w∧Ext G h w G' (a8A b n i j h) w:=by
 have same:∀{h'},h'=h→∃G',s6 B Z0 G' h' w∧Ext G h w G' h' w:=fun e=>by subst e;exact⟨G,hr,Ext.refl⟩
 unfold a8A;split
 case h_2=>exact same rfl
 rename_i g s ver fr es g3 I d J ns h1 p;split
 case isFalse=>exact same rfl
 rename_i m;obtain⟨rfl,f,hp⟩:=m;split
 case h_2=>exact same rfl
 rename_i e he;split
 case h_2=>exact same rfl
 rename_i k a K s' o l t;split
 case isFalse=>exact same rfl
 rename_i v;obtain⟨rfl,rfl,rfl,rfl,rfl,rfl⟩:=v;have y:k<h.length:=(C0.1 p).1;obtain⟨a1,a2⟩:=b8B hr p hp;have z:(h.set k (a,.arr s' (d+1) true (ns.map B6)))[b]?=some (g,.arr s ver false es):=by rw[F4 (Ne.symm f)];exact h1
 have q:(h.set k (a,.arr s' (d+1) true (ns.map B6)))[k]?=some (a,.arr s' (d+1) true (ns.map B6)):=E8 y;have A:(ns.map B6).all D9=true:=by rw[List.all_map];refine B5.2 fun x C=>?_;have:=B5.1 hp x C;simp only[Function.comp,D9,a5J]at this⊢;rw[List.all_map];refine B5.2 fun c m=>?_;have:=B5.1 this c m;cases c<;>simp[K5,A7,I7]at this⊢
 obtain⟨D,E⟩:=b3c a1 (c':=.slc (ns.map B6)) z he t rfl (fun us T u _ _ r=>by unfold G9 at r;have:=b3P a1 q A (by rw[O0];exact r.2);rw[a2D]at this;rw[show(B6∘B6)=B6 from funext c8L]at this;exact this)
 have F:((h.set k (a,.arr s' (d+1) true (ns.map B6))).set b (g,.arr s (ver+1) false (es.set i (M4 e j [.slc (ns.map B6)]))))[k]?=some (a,.arr s' (d+1) true (ns.map B6)):=by rw[F4 f];exact q
 obtain⟨c1,c2⟩:=b9W D F;have H:((h.set k (a,.arr s' (d+1) true (ns.map B6))).set b (g,.arr s (ver+1) false (es.set i (M4 e j [.slc (ns.map B6)])))).set k (a,.dead)=
  (h.set b (g,.arr s (ver+1) false (es.set i (M4 e j [.slc (ns.map B6)])))).set k (a,.dead):=by
  rw[List.set_comm _ _ f,List.set_set];exact List.set_comm _ _ (Ne.symm f)
 rw[←H];exact⟨_,c1,a2.trans (E.trans c2)⟩
theorem c4w{G:Gh}{h:Heap}{w:World}(hr:s6 B Z0 G h w){x p:PV}{h':Heap}(a:b1Y h x=some (p,h')):∃G',s6 B Z0 G' h' w∧Ext G h w G' h' w∧∀u,j9 G h w D u x→j9 G' h' w D u p:=by
 unfold b1Y at a;split at a
 . rename_i k g;split at a
   . rename_i o cs m;split at a
     . rename_i n;simp only[s5,s9]at a;obtain⟨rfl,rfl⟩:=a;obtain⟨rfl,hp⟩:=n;have t:k<h.length:=(C0.1 m).1;obtain⟨q,us,T,A,P,C⟩:=hr.ob k _ _ m;have r:∀key,C8 G {G with Z:=fun b=>G.Z b∨b=G.β (root k)} key:=fun key=>⟨rfl,Iff.rfl,rfl,rfl⟩
       have e:Ext G h w {G with Z:=fun b=>G.Z b∨b=G.β (root k)} (h.set k (o,.dead)) w:=by
        refine⟨fun _ y=>.inl y,fun _ _=>rfl,fun f gn ob e=>?_⟩;by_cases d:f=k
        . subst d;rw[m]at e;cases e;exact⟨o,_,E8 t,p7 _,fun _=>K7.dead _ _⟩
        . exact⟨gn,ob,by rw[F4 (Ne.symm d)];exact e,p7 _,fun _=>K7.refl f ob (r _) fun i j=>r _⟩
       refine⟨{G with Z:=fun b=>G.Z b∨b=G.β (root k)},hr.update k o _ t e (fun f y d=>.inl (r _)) (fun _ _ _ _=>rfl) (p7 _) ?_ (fun b (hb:G.Z b∨b=G.β (root k))=>hb.imp id fun e=>by rw[e];exact(hr.lv _ q).1) ?_ (fun y l=>?_) (fun e=>by cases e) trivial,e,fun u hu=>?_⟩
       . rintro b (hb|rfl)
         . exact hr.zb b hb
         . exact(hr.lv _ q).2
       . rintro f y d l E (hb|hb)
         . exact E hb
         . exact d (congrArg Prod.fst (hr.inj _ _ l q hb))
       . obtain⟨F,H⟩:=hr.lv _ l;exact⟨F,H,(fun I=>by cases I),fun J s e=>congrArg Prod.snd (hr.inj _ _ l s e),fun f J d s e=>d (congrArg Prod.fst (hr.inj _ _ l s e)).symm⟩
       . unfold D at hu;unfold j9 at hu;obtain⟨b,rfl,gn,ob,v,Q,K⟩:=hu;rw[m]at v;cases v;obtain rfl:=K rfl cs rfl;refine a4U (PR.a3f.2 ⟨_,0,rfl,.inr rfl,fun j c n=>?_⟩);rw[H6]at n;obtain⟨c0,z,rfl⟩:=C9.1 n;obtain⟨u,L,M,N⟩:=C _ _ z;have O:=B5.1 hp _ (G7.2 ⟨c0,D0 z,rfl⟩);obtain⟨r1,r2⟩:=c1f (Z':=fun b=>G.Z b∨b=G.β (root k)) (w':=w) (fun b hb=>.inl hb) (fun _ _=>rfl) O (a7m hr M N).2;exact⟨r1,u,by rw[V5,←V5 j,a1c A,V5];exact L,r2⟩
     . cases a
   . cases a
 . simp only[s5,s9]at a;obtain⟨rfl,rfl⟩:=a;refine⟨G,hr,Ext.refl,fun u hu=>?_⟩;rw[a0k hu];exact a0N (PR.U1.2 ⟨none,0,0,rfl,p7 _,E0 _,fun _=>rfl,fun i e he=>by simp at he⟩)
 . cases a
theorem N5.G4(o:∀{g D:PV} {G:Gh} {h:Heap} {w:World},W0.psi g G h w→W0.psi D G h w){vars:List PV}{a:Act}{w:World}{v:Nat}{c:Option Nat}{h:Heap}(hi:N5 B Z0 W0 vs N vars h a w):N5 B Z0 W0 vs N (a3j v c k sz vars h).1 (a3j v c k sz vars h).2 a w:=by
 unfold a3j;split
 . split
   . obtain⟨G,d,i2,i3,i4,i5⟩:=hi;refine⟨G,d,fun i s hs=>?_,i3,i4,o i5⟩;obtain⟨u,f,b⟩:=i2 i s hs;refine⟨u,f,?_⟩;simp only[B0]at b⊢;by_cases m:i=v
     . subst m;by_cases q:i<vars.length
       . rw[E8 q];exact c9z d b
       grind
     grind
   . split
     . rename_i p h' y;obtain⟨G,d,i2,i3,i4,i5⟩:=hi;obtain⟨G',n,l,r⟩:=c4w d y;refine⟨G',n,fun i s hs=>?_,i3,i4,o (W0.step i5 l (Bl.refl _ _))⟩;obtain⟨u,f,b⟩:=i2 i s hs;refine⟨u,f,?_⟩;simp only[B0]at b r⊢;by_cases m:i=v
       . subst m;by_cases q:i<vars.length
         . rw[E8 q];exact r u b
         . rw[a0i F6];exact K6
       . rw[F4 (Ne.symm m)];exact b.ext l
     . exact hi
   . split
     . rename_i i y;obtain⟨G,d,i2,i3,i4,i5⟩:=hi;have go:∀{h':Heap},(∃G',s6 B Z0 G' h' w∧Ext G h w G' h' w)→N5 B Z0 W0 vs N vars h' a w:=fun⟨G',n,l⟩=>
        ⟨G',n,fun i s hs=>by obtain⟨u,f,b⟩:=i2 i s hs;exact⟨u,f,b.ext l⟩,i3,i4,o (W0.step i5 l (Bl.refl _ _))⟩
       show N5 B Z0 W0 vs N vars (if _ then _ else _) a w;split
       . exact go (c8i d _ _ _ _)
       . exact go (c8K d _ _ _ _)
     . exact hi
 split
 . rename_i g z;split
   . rename_i E;obtain⟨G,d,i2,i3,i4,i5⟩:=hi;obtain⟨n,l,r⟩:=c5M d z E;have v1:V9 (G.Z4 k) (h.set k (g+1,.arr sz 0 false [])) w vs vars a:=fun k s F=>by
      obtain⟨v,f,b⟩:=i2 k s F;exact⟨v,f,b.ext l⟩
     split
     . rename_i t;refine⟨_,n,fun i s hs=>?_,i3,i4,o (W0.step i5 l (Bl.refl _ _))⟩;obtain⟨u,f,b⟩:=v1 i s hs;refine⟨u,f,?_⟩;simp only[B0]at b t⊢;by_cases m:i=v
       . subst m;by_cases q:i<vars.length
         . rw[E8 q];rw[t]at b;rw[a0k b];exact r
         grind
       grind
     . rename_i j A g2 t;split
       . rename_i g3 cs x;split
         . split
           . rename_i H;have I:A≠k:=fun e=>(by subst e;rw[z]at x;cases x);have J:(h.set k (g+1,.arr sz 0 false []))[A]?=some (g3,.var cs):=(by rw[F4 (Ne.symm I)];exact x);obtain⟨m1,m2⟩:=c6O n J (c':=.own k (g+1) 0 sz 0 0) rfl (j:=j) (fun u c C t=>by
              rw[H]at C;cases C;rw[a0k t];exact r)
             exact⟨_,m1,fun i s hs=>by obtain⟨u,f,b⟩:=v1 i s hs;exact⟨u,f,b.ext m2⟩,i3,i4,o (W0.step (W0.step i5 l (Bl.refl _ _)) m2 (Bl.refl _ _))⟩
           . exact⟨G,d,i2,i3,i4,i5⟩
         . exact⟨G,d,i2,i3,i4,i5⟩
       . exact⟨G,d,i2,i3,i4,i5⟩
     . exact⟨G,d,i2,i3,i4,i5⟩
   . exact hi
 . exact hi
theorem a3z(j:∀{g m:PV} {G:Gh} {h:Heap} {w:World},W0.psi g G h w→W0.psi m G h w){a:Act}{w:World}{Q:J0}:∀{x:C6} {vars:List PV} {h:Heap},F8 FN x Q vars h→N5 B Z0 W0 vs N vars h a w→∃d vars' h',(∀l b,d≠ .G6 l b)∧(∀v c k sz b,d≠ .G4 v c k sz b)∧(strip d=strip x∧a2n d=a2n x)∧F8 FN d Q vars' h'∧N5 B Z0 W0 vs N vars' h' a w:=by
 intro x
 induction x with
 |G6 l b i=>intro vars h f hi;exact i (show F8 FN b Q vars (a5W l h)from f) hi.G6
 |G4 v c k sz b i=>intro vars h f hi;exact i (show F8 FN b Q (a3j v c k sz vars h).1 (a3j v c k sz vars h).2 from f) (hi.G4 j)
 |skip|reg|seq|cond|block|loop|loopS|exit|ret|rfor=>intro vars h f hi;exact⟨_,vars,h,(fun l b e=>by cases e),(fun v c k sz b e=>by cases e),⟨rfl,rfl⟩,f,hi⟩
theorem a4n{vars:List PV}{a:Act}{w:World}{Q:J0}:∀{x:C6} {h:Heap},F8 FN x Q vars h→N5 B Z0 W0 vs N vars h a w→∃c h',(∀l b,c≠ .G6 l b)∧I0 c=I0 x∧F8 FN c Q vars h'∧N5 B Z0 W0 vs N vars h' a w:=by
 intro x
 induction x with
 |G6 l b f=>intro h d hi;exact f (show F8 FN b Q vars (a5W l h)from d) hi.G6
 |skip|reg|seq|cond|block|loop|loopS|exit|ret|rfor|G4=>intro h d hi;exact⟨_,h,(fun l b e=>by cases e),rfl,d,hi⟩
end
theorem b8N(a:∀l b,x≠ .G6 l b)(hm:∀v c k sz b,x≠ .G4 v c k sz b)(h:strip x=.skip):x=.skip:=by cases x<;>simp[strip]at h<;>first|exact absurd rfl (a _ _)|exact absurd rfl (hm _ _ _ _ _)|rfl
theorem d1j(a:∀l b,x≠ .G6 l b)(hm:∀v c k sz b,x≠ .G4 v c k sz b)(h:strip x=.exit id):x=.exit id:=by cases x<;>simp[strip]at h<;>first|exact absurd rfl (a _ _)|exact absurd rfl (hm _ _ _ _ _)|(subst h;rfl)
theorem c6k(a:∀l b,x≠ .G6 l b)(hm:∀v c k sz b,x≠ .G4 v c k sz b)(h:strip x=.ret):x=.ret:=by cases x<;>simp[strip]at h<;>first|exact absurd rfl (a _ _)|exact absurd rfl (hm _ _ _ _ _)|rfl
theorem c6M{xs:List l5}(a:∀l b,x≠ .G6 l b)(hm:∀v c k sz b,x≠ .G4 v c k sz b)(h:strip x=.reg xs):x=.reg xs:=by cases x<;>simp[strip]at h<;>first|exact absurd rfl (a _ _)|exact absurd rfl (hm _ _ _ _ _)|(subst h;rfl)
theorem c3D{a:C6}{g:A6}{ps:List (Option Nat)}(e:∀l b,x≠ .G6 l b)(hm:∀v c k sz b,x≠ .G4 v c k sz b)(h:strip x=.rfor g ps a b):∃d b',x=.rfor g ps d b'∧I0 d=a∧I0 b'=b:=by
 cases x<;>first|exact absurd rfl (e _ _)|exact absurd rfl (hm _ _ _ _ _)|simp[strip]at h
 grind
theorem c6X{a:C6}(e:∀l b,x≠ .G6 l b)(hm:∀v c k sz b,x≠ .G4 v c k sz b)(h:strip x=.seq a b):∃d b',x=.seq d b'∧strip d=a∧strip b'=b:=by
 cases x<;>first|exact absurd rfl (e _ _)|exact absurd rfl (hm _ _ _ _ _)|simp[strip]at h
 exact⟨_,_,rfl,h.1,h.2⟩
theorem c3Y{a:C6}{c:A6}(e:∀l b,x≠ .G6 l b)(hm:∀v c k sz b,x≠ .G4 v c k sz b)(h:strip x=.cond c a b):∃d b',x=.cond c d b'∧strip d=a∧strip b'=b:=by
 cases x<;>first|exact absurd rfl (e _ _)|exact absurd rfl (hm _ _ _ _ _)|simp[strip]at h
 grind
theorem c4T(a:∀l b,x≠ .G6 l b)(hm:∀v c k sz b,x≠ .G4 v c k sz b)(h:strip x=.block id b):∃b',x=.block id b'∧strip b'=b:=by
 cases x<;>first|exact absurd rfl (a _ _)|exact absurd rfl (hm _ _ _ _ _)|simp[strip]at h
 grind
theorem c6K(a:∀l b,x≠ .G6 l b)(hm:∀v c k sz b,x≠ .G4 v c k sz b)(h:strip x=.loop b):(∃b',x=.loop b'∧strip b'=b)∨∃lv c0 b',x=.loopS lv c0 b'∧strip b'=b:=by
 cases x<;>first|exact absurd rfl (a _ _)|exact absurd rfl (hm _ _ _ _ _)|simp[strip]at h
 all_goals grind
theorem b9H(a:∀l b,x≠ .G6 l b)(h:I0 x=.skip):x=.skip:=by cases x<;>simp[I0]at h<;>first|exact absurd rfl (a _ _)|rfl
theorem d1U(a:∀l b,x≠ .G6 l b)(h:I0 x=.exit id):x=.exit id:=by cases x<;>simp[I0]at h<;>first|exact absurd rfl (a _ _)|(subst h;rfl)
theorem c4z(a:∀l b,x≠ .G6 l b)(h:I0 x=.ret):x=.ret:=by cases x<;>simp[I0]at h<;>first|exact absurd rfl (a _ _)|rfl
theorem c7r{xs:List l5}(a:∀l b,x≠ .G6 l b)(h:I0 x=.reg xs):x=.reg xs:=by cases x<;>simp[I0]at h<;>first|exact absurd rfl (a _ _)|(subst h;rfl)
theorem c8C{a:C6}(d:∀l b,x≠ .G6 l b)(h:I0 x=.seq a b):∃c b',x=.seq c b'∧I0 c=a∧I0 b'=b:=by
 cases x<;>first|exact absurd rfl (d _ _)|simp[I0]at h
 exact⟨_,_,rfl,h.1,h.2⟩
theorem c8m{a:C6}{c:A6}(e:∀l b,x≠ .G6 l b)(h:I0 x=.cond c a b):∃d b',x=.cond c d b'∧I0 d=a∧I0 b'=b:=by
 cases x<;>first|exact absurd rfl (e _ _)|simp[I0]at h
 grind
theorem c8J(a:∀l b,x≠ .G6 l b)(h:I0 x=.block id b):∃b',x=.block id b'∧I0 b'=b:=by
 cases x<;>first|exact absurd rfl (a _ _)|simp[I0]at h
 grind
theorem d0N(a:∀l b,x≠ .G6 l b)(h:I0 x=.loop b):∃b',x=.loop b'∧I0 b'=b:=by
 cases x<;>first|exact absurd rfl (a _ _)|simp[I0]at h
 exact⟨_,rfl,h⟩
section
variable{P:Program}{B:Nat}{Z0:Nat→Prop}{W0:M8 B}{vs:List Nat}{N:Nat}{vars:List PV}{h:Heap}{a:Act}{w:World}
theorem b3h{ρ:Option Nat}{nn:Nat}(hm:P.follows .mixedOrders=true)(A:vs.Nodup)(C:FN.fn=Fn P)(D:FN.fi=FI P)(E:a7h P B Z0 W0 ρ vs FN.fy):∀(c:Code),Z4 c=true→∀(k p:Nat) (x:C6),E4 P vs N k c=some (I0 x,p)→∀(Q':J0) (Q:Exit→Act→World→Prop) (vars:List PV) (h:Heap) (a:Act) (w:World),
 F8 FN x Q' vars h→N5 B Z0 W0 vs N vars h a w→b0G B Z0 W0 vs N Q' Q→c.wpIn (fz ρ) nn P Q a w:=by
 intro c
 induction c with
 |skip=>
  intro j k p x b Q' Q vars h a w f hi g;have hp:=a4n f hi;clear f hi;obtain⟨x,h,o,m,f,hi⟩:=hp;rw[←m]at b;simp only[E4,s5,s9]at b;obtain⟨b,rfl⟩:=b;obtain rfl:=b9H o b.symm;exact wpIn_skip (g .normal _ _ _ _ hi f)
 |label l=>
  intro j k p x b Q' Q vars h a w f hi g;have hp:=a4n f hi;clear f hi;obtain⟨x,h,o,m,f,hi⟩:=hp;rw[←m]at b;simp only[E4,s5,s9]at b;obtain⟨b,rfl⟩:=b;obtain rfl:=b9H o b.symm;exact wpIn_label (g .normal _ _ _ _ hi f)
 |exit id=>
  intro j k p x b Q' Q vars h a w f hi g;have hp:=a4n f hi;clear f hi;obtain⟨x,h,o,m,f,hi⟩:=hp;rw[←m]at b;simp only[E4,s5,s9]at b;obtain⟨b,rfl⟩:=b;obtain rfl:=d1U o b.symm;exact wpIn_exit (g (.exit id) _ _ _ _ hi f)
 |ret=>
  intro j k p x b Q' Q vars h a w f hi g;have hp:=a4n f hi;clear f hi;obtain⟨x,h,o,m,f,hi⟩:=hp;rw[←m]at b;simp only[E4,s5,s9]at b;obtain⟨b,rfl⟩:=b;obtain rfl:=c4z o b.symm;exact wpIn_ret (g .ret _ _ _ _ hi f)
 |region id ops d=>
  intro j k p x b Q' Q vars h a w f hi g;have hp:=a4n f hi;clear f hi;obtain⟨x,h,o,m,f,hi⟩:=hp;rw[←m]at b;simp only[E4]at b;split at b
  . rename_i xs s F;simp only[s5,s9]at b;obtain⟨b,rfl⟩:=b;obtain rfl:=c7r o b.symm;obtain⟨H,f⟩:=f;rw[show ops=ops.toList.toArray by simp];cases d with
    |false=>exact b3E C D E A F H f (fun st a w hi t=>g .normal _ _ _ _ hi t) hi
    |true=>exact b4I hm C D E A F H f (fun st a w hi t=>g .normal _ _ _ _ hi t) hi
  . cases b
 |seq c1 c2 u v=>
  intro j k p x b Q' Q vars h a w f hi g;have hp:=a4n f hi;clear f hi;obtain⟨x,h,o,m,f,hi⟩:=hp;rw[←m]at b;simp only[E4]at b;split at b
  . rename_i q s h1;split at b
    . rename_i y I z;simp only[s5,s9]at b;obtain⟨b,rfl⟩:=b;obtain⟨q,y,rfl,rfl,rfl⟩:=c8C o b.symm;simp only[Z4,E7]at j;refine wpIn_seq (u j.1 _ _ _ h1 _ _ _ _ _ _ f hi fun e vars h a w hi he=>?_);cases e with
      |normal=>exact v j.2 _ _ _ z _ _ _ _ _ _ he hi g
      |exit id=>exact g (.exit id) _ _ _ _ hi he
      |ret=>exact g .ret _ _ _ _ hi he
    . cases b
  . cases b
 |cond L c1 c2 u v=>
  intro j k p x b Q' Q vars h a w f hi g;have hp:=a4n f hi;clear f hi;obtain⟨x,h,o,m,f,hi⟩:=hp;rw[←m]at b;simp only[E4]at b;split at b
  . rename_i q s h1;split at b
    . rename_i y I z;split at b
      . rename_i dd J;simp only[s5,s9]at b;obtain⟨b,rfl⟩:=b;obtain⟨q,y,rfl,rfl,rfl⟩:=c8m o b.symm;simp only[Z4,E7]at j;obtain⟨G,M,i2,i3⟩:=id hi;have hr:=b1R J i2;simp only[F8]at f;split at f
        . rename_i he;rw[he]at hr;exact wpIn_cond_true (a0X hr) (u j.1 _ _ _ h1 _ _ _ _ _ _ f hi g)
        . rename_i he;rw[he]at hr;exact wpIn_cond_false (a0X hr) (v j.2 _ _ _ z _ _ _ _ _ _ f hi g)
        . exact f.elim
      . cases b
    . cases b
  . cases b
 |block id c r=>
  intro j k p x b Q' Q vars h a w f hi g;have hp:=a4n f hi;clear f hi;obtain⟨x,h,o,m,f,hi⟩:=hp;rw[←m]at b;simp only[E4]at b;split at b
  . rename_i q s h1;simp only[s5,s9]at b;obtain⟨b,rfl⟩:=b;obtain⟨q,rfl,rfl⟩:=c8J o b.symm;refine wpIn_block (r j _ _ q h1 _ _ _ _ _ _ f hi fun e vars h a w hi he=>?_);cases e with
    |normal=>exact g .normal _ _ _ _ hi he
    |exit i=>
     simp only[xin]at he;show Exit.inBlock id Q (.exit i) a w;simp only[Exit.inBlock];split at he
     . rename_i e;rw[if_pos e];exact g .normal _ _ _ _ hi he
     . rename_i e;rw[if_neg e];exact g (.exit i) _ _ _ _ hi he
    |ret=>exact g .ret _ _ _ _ hi he
  . cases b
 |loop c r=>
  intro j k p x b Q' Q vars h a w f hi g;have hp:=a4n f hi;clear f hi;obtain⟨x,h,o,m,f,hi⟩:=hp;rw[←m]at b;simp only[E4]at b;split at b
  . rename_i q s h1;simp only[s5,s9]at b;obtain⟨b,rfl⟩:=b;obtain⟨q,rfl,rfl⟩:=d0N o b.symm;obtain⟨n,f⟩:=f;refine wpIn_loop_rounds n ?_
    induction n generalizing vars h a w with
    |zero=>exact f.elim
    |succ n K=>
     refine r j _ _ q h1 _ _ _ _ _ _ f hi fun e vars h a w hi he=>?_;cases e with
     |normal=>exact K _ _ _ _ hi he
     |exit id=>exact g (.exit id) _ _ _ _ hi he
     |ret=>exact g .ret _ _ _ _ hi he
  . cases b
 |scope c r=>
  intro j k p x b Q' Q vars h a w f hi g;have hp:=a4n f hi;clear f hi;obtain⟨x,h,o,m,f,hi⟩:=hp;rw[←m]at b;simp only[E4]at b;refine b3u (r j _ _ _ b _ _ _ _ _ _ f hi fun e vars h a w hi he=>?_);cases e with
  |normal=>exact g .normal _ _ _ _ hi he
  |exit id=>exact g (.exit id) _ _ _ _ hi he
  |ret=>exact g .ret _ _ _ _ hi he
 |rangeFunc=>intro j;simp[Z4]at j
 |_=>
  intro j k p x b;simp only[E4]at b;cases b
end
end
end Go.Proofs.YtmhbdebagfhimaaGreatDoor.Am
