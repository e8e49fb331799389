/-
  The plain machine, that it is sound, and walks: part 2 (joined and shortened by a program of the prover's).
-/
import Derived.Test.YtbhfgadikmfjdaaGreatR1
import Derived.MapKept
import Derived.WideKeyRuns
import Derived.Scope
import Derived.LoopN
set_option linter.unusedSimpArgs false
set_option linter.unusedVariables false
set_option linter.unusedSectionVars false
namespace Go.Proofs.YtbhfgadikmfjdaaGreat.Am
open Go.RowKit
section
variable{Z':Nat→Prop}{k g gl s o l ver:Nat}{fr:Bool}{es:List PV}{v:Value}{lk:E1}
section
variable{P:Program}{B:Nat}{Z0:Nat→Prop}{G G':Gh}{h h':l7}{w w':World}
theorem b0T(hr:s6 B Z0 G h w)(H:∀b,G.Z b→Z' b)(p:h[k]?=some (g,.arr s ver fr es))(q:es.length=gl)(ae:o+l≤gl)(hp:es.all D5=true)
 (r:∀y,G.R (k,y)→Z' (G.β (k,y))) (d:j8 G h w D v (.osl k g gl s o l)):PR Z' w v (.slc (((es.drop o).take l).map B4)):=by
 have t:=hr.ob k _ _ p;unfold F9 at t;obtain⟨af,ag,ah,I,J⟩:=t;unfold D at d;unfold j8 at d;obtain⟨a,c,rfl,K,x,L,gn,ob,z,ai,M⟩:=d;rw[p]at z;cases z;obtain⟨_,N⟩:=M rfl _ _ _ _ rfl;obtain⟨_,O,aj⟩:=N q;have hlen:(((es.drop o).take l).map B4).length=l:=I2;by_cases P:l=0
 . subst P;refine PR.U8.2 ⟨a,c,0,l5,l5,x,?_,fun i e he=>by simp at he⟩;rcases L with⟨_,h1⟩|⟨b,f,h1⟩
   . exact fun _=>h1
   . intro A;rw[h1]at A;cases A
 . have m:G.R (root k):=Classical.byContradiction fun Q=>by
    have:=J Q;subst this;simp at q;omega
   obtain⟨us,T,R,ak,S⟩:=I m;obtain⟨f,rfl,al⟩:=O m;have U:f=o*s:=i9;refine PR.U8.2 ⟨some ⟨G.β (root k),f,none⟩,c,s,by rw[hlen],by rw[hlen];exact K,x,fun e=>absurd e l5,fun i e he=>?_⟩;have V:i<l:=(by grind);rw[H6,a0y,if_pos V,a1V]at he;obtain⟨n,C,rfl⟩:=D0.1 he;obtain⟨W,X⟩:=S _ n C;rw[a5I];refine⟨by simpa using W,_,_,rfl,r none m,fun j am E=>?_⟩;rw[H6]at E;obtain⟨c0,F,rfl⟩:=D0.1 E;obtain⟨u,Y,Z⟩:=X j c0 F;have aa:(A9 c0||I5 c0)=true:=B0.1 (show(l9 n).all (fun c=>A9 c||I5 c)=true from B0.1 hp n (D4 C)) c0 (D4 F);obtain⟨ab,ac⟩:=a6b H (fun ad=>r _ ad) aa Z;refine⟨ab,u,?_,ac⟩;rw[a0Y R,U,show o*s+(i*s+j)=(o+i)*s+j by rw[O4];omega];exact Y
theorem c0Z(hr:s6 B Z0 G h w)(a:∀b,G.Z b→Z' b)(c:h[k]?=some (g,.arr s ver fr es))(d:es.length=gl)(e:o+l≤gl)(hp:es.all D5=true)
 (f:∀y,G.R (k,y)→Z' (G.β (k,y))) (i:j8 G h w D v (.own k g gl s o l)):PR Z' w v (.slc (((es.drop o).take l).map B4)):=b0T hr a c d e hp f (b4A i)
theorem c8z{e:PV}(h:A9 (fzO lk e)=true):(A9 e||I5 e)=true∨∃k g gl s o l,e=.osl k g gl s o l:=by cases e<;>simp[fzO,K8,A9,I5]at h⊢
theorem c2Q(hr:s6 B Z0 G h w)(z:∀b,G.Z b→Z' b){hide:List Nat}(A:h[k]?=some (g,.arr s ver fr es))(C:es.length=gl)(ai:o+l≤gl)(hp:es.all (fun e=>A9 (fzO (l8 h hide) e))=true)
 (p:∀key,G.R key→Z' (G.β key)) (q:j8 G h w D v (.own k g gl s o l)):PR Z' w v (.slc (((es.drop o).take l).map (fzO (l8 h hide)))):=by
 have E:=hr.ob k _ _ A;unfold F9 at E;obtain⟨aj,ak,al,N,O⟩:=E;unfold D at q;unfold j8 at q;obtain⟨a,c,rfl,P,F,Q,gn,ob,H,am,R⟩:=q;rw[A]at H;cases H;obtain⟨_,S⟩:=R rfl _ _ _ _ rfl;obtain⟨_,U,an⟩:=S C;have hlen:(((es.drop o).take l).map (fzO (l8 h hide))).length=l:=I2;by_cases V:l=0
 . subst V;refine PR.U8.2 ⟨a,c,0,l5,l5,F,?_,fun i e he=>by simp at he⟩;rcases Q with⟨_,h1⟩|⟨b,f,h1⟩
   . exact fun _=>h1
   . intro I;rw[h1]at I;cases I
 . have r:G.R (root k):=Classical.byContradiction fun W=>by
    have:=O W;subst this;simp at C;omega
   obtain⟨us,T,X,ao,Y⟩:=N r;obtain⟨f,rfl,ap,_⟩:=U r;have Z:f=o*s:=i9;refine PR.U8.2 ⟨some ⟨G.β (root k),f,none⟩,c,s,by rw[hlen],by rw[hlen];exact P,F,fun e=>absurd e l5,fun i e he=>?_⟩;have aa:i<l:=(by grind);rw[H6,a0y,if_pos aa,a1V]at he;obtain⟨d,J,rfl⟩:=D0.1 he;obtain⟨K,L⟩:=Y _ d J;have m:A9 (fzO (l8 h hide) d)=true:=B0.1 hp d (D4 J);have ab:l9 d=[d]:=by cases d<;>first|rfl|(simp[fzO,K8,A9]at m)
   rw[ab]at K L;rw[a8Y m];refine⟨by simpa using K,_,_,rfl,p _ r,fun j aq n=>?_⟩;cases j with
   |succ j=>simp at n
   |zero=>
    simp at n;subst n;obtain⟨u,ac,t⟩:=L 0 d rfl;refine⟨a3U m,u,?_,?_⟩
    . rw[a0Y X,Z,show o*s+(i*s+0)=(o+i)*s+0 by rw[O4];omega];exact ac
    . rcases c8z m with n|⟨ar,g2,au,s2,av,aw,rfl⟩
      . have ad:fzO (l8 h hide) d=K8 d:=by cases d<;>first|rfl|(simp[A9,I5]at n)
        rw[ad];exact(a6b z (fun x=>p _ x) n t).2
      . unfold H4 at t;simp only[fzO]at m⊢;split at m
        . rename_i ax s' ver' ay es' M;split at m
          . rename_i ae;obtain⟨rfl,af,rfl,ag,ah⟩:=ae;simp only[M];rw[if_pos (by grind)];exact b0T hr z (S8 M l5) af ag ah (fun y x=>p _ x) t.2
          . simp[A9]at m
        . simp[A9]at m
theorem c6q{p:PV}{news:List PV}{ws:List (Nat×Row)}(h:a2N lk 2 p=some (news,ws)):ws=[]:=by
 cases p<;>simp only[a2N]at h<;>(try (cases h;done))<;>(try (simp only[s7,s9]at h;exact h.2.symm))
 case own k g gl s o l=>
  split at h
  . grind
  . cases h
 case nown k g ver i j o l=>
  (repeat' (split at h))<;>(try (cases h;done))
  simp only[s7,s9]at h;exact h.2.symm
theorem c2x{p:PV}{news:List PV}{ws:List (Nat×Row)}(h:a1Q lk 2 p=some (news,ws)):ws=[]:=by exact c6q (lk:=lk) (p:=p) (news:=news) (by unfold a1Q at h;rwa[if_neg I7]at h)
end
end
section
variable{x:PV}{n:Nat}{t:TypeId}{v:Value}
section
variable{P:Program}{G:Gh}{h:l7}{w:World}
theorem b8G:∀{ts us:List Nat},(∀t∈ts,t<3)→(∀t∈us,t<3)→a3V ts=a3V us→ts=us
 | [],[],_,_,_=>rfl
 | [],u::us,_,_,e=>by simp only[a3V]at e;omega
 |t::ts,[],_,_,e=>by simp only[a3V]at e;omega
 |t::ts,u::us,h1,b,e=>by have c:=h1 t l5;have a2:=b u l5;simp only[a3V]at e;have:t=u:=i9;subst this;have:=b8G (ts:=ts) (us:=us) (fun x a=>h1 x (by simp[a])) (fun x a=>b x (by simp[a])) i9;rw[this]
theorem b4S{g:TypeId→Option (List Nat)}(c:∀t ts,g t=some ts→∀x∈ts,x<3):∀(b:List Field) (i:Nat) (ts:List Nat),a5K P g i b=some ts→∀x∈ts,x<3
 | [],i,ts,h,x,a=>by cases h;simp at a
 |f::b,i,ts,h,x,a=>by
  simp only[a5K]at h;split at h
  . rename_i t1 h1;split at h
    . simp only[D0]at h;obtain⟨t2,d,rfl⟩:=h;rcases I4.1 a with a|a
      . exact c _ _ h1 x a
      . exact b4S c b _ _ d x a
    . cases h
  . cases h
theorem b4x:∀(n:Nat) (t:TypeId) (ts:List Nat),a0R P n t=some ts→∀x∈ts,x<3
 |0,t,ts,h=>by simp[a0R]at h
 |n+1,t,ts,h=>by
  simp only[a0R]at h;split at h
  . cases h;simp
  . cases h;simp
  . cases h;simp
  . split at h
    . exact b4S (b4x n) _ _ _ h
    . cases h
  . cases h
theorem b1X{y:PV}{r:Bool}(hs:a0X x y=some r):S5 x=S5 y∧S5 x<3∧∃u v,a0O x=some u∧a0O y=some v∧(r=true→v=u)∧(r=false→v≠u):=by
 cases x<;>cases y<;>simp[a0X]at hs
 case bool.bool a b=>
  subst hs;exact⟨rfl,by simp[S5],_,_,rfl,rfl,fun e=>by simp at e;rw[e],fun e=>by simp at e;simp;exact fun q=>e q.symm⟩
 case int.int k a c b=>
  obtain⟨rfl,rfl⟩:=hs;exact⟨rfl,by simp[S5],_,_,rfl,rfl,fun e=>by simp at e;rw[e],fun e=>by simp at e;simp;exact fun q=>e q.symm⟩
 case str.str a b=>
  subst hs;refine⟨rfl,by simp[S5],_,_,rfl,rfl,fun e=>by rw[(MapKept.bytes_beq _ _).1 e],fun e q=>?_⟩;simp at q;subst q;rw[(MapKept.bytes_beq _ _).2 rfl]at e;cases e
theorem b3c:∀{l m:List PV} {r:Bool},X1 l m=some r→l.length=m.length
 | [],[],_,_=>rfl
 | [],_::_,_,h=>by simp[X1]at h
 |_::_,[],_,h=>by simp[X1]at h
 |a::l,b::m,r,h=>by
  simp only[X1]at h;split at h
  . rename_i h1 c;simp[b3c c]
  . cases h
theorem c0O:∀{l m:List PV} {r:Bool},X1 l m=some r→∃u v,U7 l=some u∧U7 m=some v∧(r=true→v=u)∧(r=false→v≠u)
 | [],[],_,h=>by cases h;exact⟨[],[],rfl,rfl,fun _=>rfl,fun e=>by cases e⟩
 | [],_::_,_,h=>by simp[X1]at h
 |_::_,[],_,h=>by simp[X1]at h
 |a::l,b::m,r,h=>by
  simp only[X1]at h;split at h
  . rename_i x y h1 c;cases h;obtain⟨_,_,u,v,d,a2,a3,a4⟩:=b1X h1;obtain⟨us,vs,f,g,i,j⟩:=c0O c;refine⟨u::us,v::vs,by simp[U7,d,f],by simp[U7,a2,g],fun e=>?_,fun e=>?_⟩
    all_goals grind
  . cases h
theorem c0l:∀{a b:List PV} {m:List PV} {r:Bool},X1 (a++b) m=some r→∃c d r1 r2,m=c++d∧X1 a c=some r1∧X1 b d=some r2∧r=(r1&&r2)
 | [],b,m,r,h=>⟨[],m,true,r,rfl,rfl,h,l5⟩
 |x::a,b,[],r,h=>by simp[X1]at h
 |x::a,b,y::m,r,h=>by
  simp only[a7L,X1]at h;split at h
  . rename_i p q h1 e;cases h;obtain⟨c,d,r1,r2,rfl,f,g,rfl⟩:=c0l e;exact⟨y::c,d,p&&r1,r2,rfl,by simp[X1,h1,f],g,by simp[Bool.and_assoc]⟩
  . cases h
theorem a9w:∀{cs:List PV} {l:List Value},U7 cs=some l→l.length=cs.length
 | [],_,h=>by cases h;rfl
 |c::cs,l,h=>by
  simp only[U7]at h;split at h
  . rename_i h1 a;cases h;simp[a9w a]
  . cases h
theorem b1W:∀{a b:List PV} {l:List Value},U7 (a++b)=some l→∃l1 c,l=l1++c∧U7 a=some l1∧U7 b=some c
 | [],b,l,h=>⟨[],l,rfl,rfl,h⟩
 |x::a,b,l,h=>by
  simp only[a7L,U7]at h;split at h
  . rename_i h1 d;cases h;obtain⟨l1,c,rfl,e,f⟩:=b1W d;exact⟨_::l1,c,rfl,by simp[U7,h1,e],f⟩
  . cases h
def a1B(P:Program)(t:TypeId)(x:Value)(l:List Value):Prop:=match P.underlying t with
 |some (.struct _)=>x=.agg l.toArray
 |_=>l=[x]
theorem b3T{off:Nat}{ts:List Nat}{xs:Array Value}{l r:List Value}(a:a0R P n t=some ts)(hs:I8 P t=some ts.length)(hd:xs.toList.drop off=l++r)(b:l.length=ts.length):∃u,(part t xs off).run P w=.ok u w∧a1B P t u l:=by
 obtain⟨i,hi,h⟩:=a2d hs;have one:∀d,P.underlying t=some d→ts.length=1→(∀f,d≠ .struct f)→(∀n e,d≠ .array n e)→∃u,(part t xs off).run P w=.ok u w∧a1B P t u l:=fun d hu h1 g j=>by
  match l,b with
  | [u],_=>
   have k:xs[off]?=some u:=by have:=congrArg List.head? hd;rw[List.head?_drop]at this;simpa using this
   have c:(isAgg t).run P w=.ok false w:=by unfold isAgg;simp only[O3,run_underlying hu,S6];cases d<;>first|rfl|exact absurd rfl (g _)|exact absurd rfl (j _ _)
   refine⟨u,by unfold part;simp[c,k],?_⟩;unfold a1B;rw[hu];cases d<;>first|rfl|exact absurd rfl (g _)
  | [],b=>rw[h1]at b;simp at b
  |_::_::_,b=>rw[h1]at b;simp at b
 cases n with
 |zero=>simp[a0R]at a
 |succ n=>
  simp only[a0R]at a;split at a
  . rename_i hu;cases a;exact one _ hu rfl (fun _ e=>by cases e) (fun _ _ e=>by cases e)
  . rename_i hu;cases a;exact one _ hu rfl (fun _ e=>by cases e) (fun _ _ e=>by cases e)
  . rename_i hu;cases a;exact one _ hu rfl (fun _ e=>by cases e) (fun _ _ e=>by cases e)
  . rename_i f hu;have c:(isAgg t).run P w=.ok true w:=by
     unfold isAgg;simp only[O3,run_underlying hu,S6];rfl
    refine⟨.agg (xs.extract off (off+ts.length)),by unfold part;simp[c,sizeOf,typeInfo,hi,h],?_⟩;unfold a1B;rw[hu];simp only[];congr 1;apply Array.ext';rw[Array.toList_extract,List.extract_eq_take_drop,hd,show off+ts.length-off=l.length by omega];simp
  . cases a
theorem b6O{n d:Nat}(o:∀(w:World) (t:TypeId) (ts:List Nat),a0R P n t=some ts→∀{cs b:List PV} {l m:List Value} {r:Bool} {u v:Value},U7 cs=some l→U7 b=some m→cs.map S5=ts→X1 cs b=some r→a1B P t u l→a1B P t v m→(Op.equalIn (d+n) t u v).run P w=.ok r w){xs p:Array Value}:
 ∀(j:List Field) (i:Nat) (ts:List Nat),a5K P (a0R P n) i j=some ts→∀{cs b:List PV} {l m:List Value} {r:Bool},U7 cs=some l→U7 b=some m→cs.map S5=ts→X1 cs b=some r→xs.toList.drop i=l→p.toList.drop i=m→(Op.eqFields (d+n) xs p j).run P w=.ok r w
 | [],i,ts,a,cs,b,l,m,r,h1,q,c,h,_,_=>by
  cases a;have:cs=[]:=by simpa using c
  subst this;cases b with
  |nil=>cases h;simp[Op.eqFields]
  |cons=>simp[X1]at h
 |f::j,i,ts,a,cs,b,l,m,r,h1,q,c,h,s,x=>by
  simp only[a5K]at a;split at a
  . rename_i t1 k;split at a
    . rename_i D;obtain⟨c1,c2,c3⟩:=D;simp only[D0]at a;obtain⟨t2,E,rfl⟩:=a;have y:(cs.take t1.length).length=t1.length:=by
       have:=congrArg List.length c;simp at this⊢;omega
      have F:cs=cs.take t1.length++cs.drop t1.length:=(a9y _ _).symm;have G:(cs.take t1.length).map S5=t1:=(by rw[a1X,c];simp);have H:(cs.drop t1.length).map S5=t2:=(by rw[a1J,c];simp);rw[F]at h1 h;obtain⟨e,g,r1,r2,rfl,s1,s2,rfl⟩:=c0l h;obtain⟨l1,R,rfl,z,I⟩:=b1W h1;obtain⟨m1,m2,rfl,A,J⟩:=b1W q;have B:l1.length=t1.length:=(by rw[a9w z];exact y);have C:m1.length=t1.length:=(by rw[a9w A,←b3c s1];exact y);obtain⟨u,K,L⟩:=b3T (w:=w) k c3 s B;obtain⟨v,M,N⟩:=b3T (w:=w) k c3 x C;have O:=o w _ _ k z A G s1 L N;have Q:=b6O o j (i+t1.length) t2 E I J H s2 (by rw[←a2X,s,←B];simp) (by rw[←a2X,x,←C];simp);simp only[Op.eqFields,if_pos c1,O3,c2,K,M,O,S6];cases r1
      . simp
      . simp[Q]
    . cases a
  . cases a
theorem c0b(d:Nat):∀(n:Nat) (w:World) (t:TypeId) (ts:List Nat),a0R P n t=some ts→∀{cs i:List PV} {l m:List Value} {r:Bool} {u v:Value},U7 cs=some l→U7 i=some m→cs.map S5=ts→X1 cs i=some r→a1B P t u l→a1B P t v m→(Op.equalIn (d+n) t u v).run P w=.ok r w
 |0,_,_,_,c=>by simp[a0R]at c
 |n+1,w,t,ts,c=>by
  rename_i cs i l m r u v;intro h1 o j f hu e;have one:∀k,ts=[k]→k<3→∃a b x y,cs=[a]∧i=[b]∧l=[x]∧m=[y]∧a0O a=some x∧a0O b=some y∧S5 a=k∧a0X a b=some r:=fun k z _=>by
   subst z
   match cs,j with
   | [a],j=>
    match i,f with
    | [b],f=>
     simp only[X1]at f;split at f
     . rename_i x y A B;cases f;cases B;obtain⟨_,_,p,q,h,a2,_⟩:=b1X A;simp[U7,h]at h1;simp[U7,a2]at o
       grind
     . cases f
    | [],f=>simp[X1]at f
    |_::_::_,f=>have:=b3c f;simp at this
  simp only[a0R]at c;split at c
  . rename_i g;cases c;obtain⟨a,b,x,y,rfl,rfl,rfl,rfl,h,a2,a3,a4⟩:=one 0 rfl i9;unfold a1B at hu e;rw[g]at hu e;cases hu;cases e;cases a<;>simp[S5]at a3;cases b<;>simp[a0X]at a4;cases h;cases a2;subst a4;exact run_equalIn_bool' w (d+n) t _ _ g
  . rename_i q g;cases c;obtain⟨a,b,x,y,rfl,rfl,rfl,rfl,h,a2,a3,a4⟩:=one 1 rfl i9;unfold a1B at hu e;rw[g]at hu e;cases hu;cases e;cases a<;>simp[S5]at a3;cases b<;>simp[a0X]at a4;obtain⟨rfl,rfl⟩:=a4;cases h;cases a2;exact run_equalIn_int w (d+n) t _ _ _ _ g
  . rename_i g;cases c;obtain⟨a,b,x,y,rfl,rfl,rfl,rfl,h,a2,a3,a4⟩:=one 2 rfl i9;unfold a1B at hu e;rw[g]at hu e;cases hu;cases e;cases a<;>simp[S5]at a3;cases b<;>simp[a0X]at a4;cases h;cases a2;subst a4;rw[beq_toListBytes];exact run_equalIn_string w (d+n) t _ _ g
  . rename_i s g;split at c
    . rename_i C;have D:P.fieldsOf t=s:=(by unfold Program.fieldsOf;rw[g]);unfold a1B at hu e;rw[g]at hu e;simp only at hu e;subst hu e;rw[show d+(n+1)=(d+n)+1 from rfl,run_equalIn_struct w (d+n) t _ _ (by grind) C,D];exact b6O (fun w t ts c=>c0b d n w t ts c) s.toList 0 ts c h1 o j f l5 l5
    . cases c
  . cases c
theorem c0H(em:Bool)(d:Nat):∀(n:Nat) (w:World) (t:TypeId) (ts:List Nat),a0R P n t=some ts→∀{l:List Value} {u:Value},l.length=ts.length→a1B P t u l→(Instr.checkKey em (d+n) t u).run P w=.ok () w
 |0,_,_,_,a=>by simp[a0R]at a
 |n+1,w,t,ts,a=>by
  rename_i l u;intro g hu;rw[show d+(n+1)=(d+n)+1 from rfl];simp only[a0R]at a;split at a
  . rename_i h0;unfold Instr.checkKey;simp only[O3,run_underlying h0,S6];simp
  . rename_i h0;unfold Instr.checkKey;simp only[O3,run_underlying h0,S6];simp
  . rename_i h0;unfold Instr.checkKey;simp only[O3,run_underlying h0,S6];simp
  . rename_i h h0;split at a
    . unfold a1B at hu;rw[h0]at hu;simp only at hu;subst hu;unfold Instr.checkKey;simp only[O3,run_underlying h0,S6];rw[←Array.forIn_toList];generalize h.toList=L at a;have key:∀(L:List Field) (i:Nat) (ts:List Nat) (b:List Value),a5K P (a0R P n) i L=some ts→l.drop i=b→b.length=ts.length→
       ((forIn L PUnit.unit fun f _=>
        if f.name≠ "_" then do
         let x ←part f.type l.toArray f.offset
         Instr.checkKey em (d+n) f.type x
         pure (ForInStep.yield PUnit.unit)
        else pure (ForInStep.yield PUnit.unit):Sem PUnit).run P w).andThen (fun _ w'=>(pure ():Sem Unit).run P w')=.ok () w:=by
       intro L
       induction L with
       |nil=>intro i ts b _ _ _;simp
       |cons f L j=>
        intro i ts b a hd g;simp only[a5K]at a;split at a
        . rename_i t1 c;split at a
          . rename_i k;obtain⟨c1,c2,c3⟩:=k;simp only[D0]at a;obtain⟨t2,m,rfl⟩:=a;have e:(b.take t1.length).length=t1.length:=(by grind);obtain⟨u,o,p⟩:=b3T (w:=w) (xs:=l.toArray) (off:=i) (l:=b.take t1.length) (r:=b.drop t1.length) c c3 (by simpa using hd) e;have q:=c0H em d n w _ _ c e p;have p4:=j (i+t1.length) t2 (b.drop t1.length) m (by rw[←a2X,hd]) (by grind);simp only[List.forIn_cons,O3,c1,ne_eq,not_false_eq_true,if_true,c2,S6,o,q,a1I];exact p4
          . cases a
        . cases a
      grind
    . cases a
  . cases a
theorem b1v(a:a7e P t=some n):n≠3∧((∃d,P.underlying t=some d∧(d=.bool∧n=0∨(∃q,d=.int q)∧n=1∨d=.string∧n=2))∨∃b ts,P.underlying t=some (.struct b)∧a0R P 3 t=some ts∧n=4+a3V ts):=by
 unfold a7e at a;split at a
 . grind
 . grind
 . grind
 . simp only[D0]at a
   grind
 . cases a
theorem b6X:∀{cs:List PV},(∀c∈cs,S5 c≠3)→∃l,U7 cs=some l
 | [],_=>⟨[],rfl⟩
 |c::cs,h=>by
  obtain⟨l,a⟩:=b6X (cs:=cs) fun x b=>h x (by simp[b]);have d:=h c l5;obtain⟨v,e⟩:∃v,a0O c=some v:=by cases c<;>simp[S5]at d<;>exact⟨_,rfl⟩
  exact⟨v::l,by simp only[U7,e,a]⟩
theorem b4q(a:a1L x≠3):∃v,a1s x=some v:=by
 by_cases b:∃cs,x=.agg cs
 . obtain⟨cs,rfl⟩:=b;simp only[a1L]at a;split at a
   . rename_i b;obtain⟨l,d⟩:=b6X (cs:=cs) fun c e=>(by simpa using B0.1 b c e);exact⟨.agg l.toArray,by simp[a1s,d]⟩
   . exact absurd rfl a
 . cases x<;>first|exact absurd ⟨_,rfl⟩ b|exact absurd rfl a|exact⟨_,rfl⟩
theorem b7W{cs:List PV}{ts:List Nat}(b:∀t∈ts,t<3)(a:a1L (.agg cs)=4+a3V ts):cs.map S5=ts:=by
 simp only[a1L]at a;split at a
 . rename_i d;refine b8G (fun t hm=>?_) b i9;obtain⟨c,e,rfl⟩:=E5.1 hm;have:=B0.1 d c e;cases c<;>simp[S5]at this⊢
 . omega
theorem b5y{m:Nat}(a:a1L x=4+m):∃cs,x=.agg cs:=by cases x<;>simp only[a1L,S5]at a<;>first|omega|exact⟨_,rfl⟩
theorem c3s(a:a1L x<3):a1L x=S5 x∧a1s x=a0O x∧∀cs,x≠ .agg cs:=by cases x<;>first|exact⟨rfl,rfl,fun _ e=>by cases e⟩|(simp only[a1L]at a;split at a<;>omega)
theorem a7z(c:a7e P t=some n)(a:a1L x=n)(b:a1s x=some v)(e:Bool):(Instr.checkKey e 10000 t v).run P w=.ok () w:=by
 obtain⟨_,⟨d,h0,h1⟩|⟨g,ts,h0,h1,rfl⟩⟩:=b1v c
 . unfold Instr.checkKey;simp only[O3,run_underlying h0,Result.andThen];rcases h1 with⟨rfl,_⟩|⟨⟨q,rfl⟩,_⟩|⟨rfl,_⟩<;>simp
 . obtain⟨cs,rfl⟩:=b5y a;have hm:=b7W (b4x 3 t ts h1) a;simp only[a1s,D0]at b;obtain⟨l,f,rfl⟩:=b;exact c0H e 9997 3 w t ts h1 (l:=l) (by rw[a9w f,←hm];simp) (by unfold a1B;rw[h0])
def a6H:TypeDesc→Nat
 | .bool=>0
 | .int _=>1
 | .string=>2
 |_=>3
theorem b7I{d:TypeDesc}{y:PV}{e f:Value}{b:Bool}(a:a0O x=some e)(c:a0O y=some f)(g:a6H d=S5 x)(hs:a0X x y=some b):Instr.sameNow d e f=some b∧(b=true→f=e):=by
 cases x<;>simp[a0O]at a<;>cases y<;>simp[a0O]at c<;>simp[a0X]at hs
 case bool.bool=>
  subst a c;cases d<;>simp[a6H,S5]at g;refine⟨by simp[Instr.sameNow,hs],fun hb=>?_⟩;rw[←hs]at hb;have h:=by simpa using hb
  rw[h]
 case int.int=>
  subst a c;obtain⟨rfl,hs⟩:=hs;cases d<;>simp[a6H,S5]at g;refine⟨by simp[Instr.sameNow,hs],fun hb=>?_⟩;rw[←hs]at hb;have h:=by simpa using hb
  rw[h]
 case str.str=>
  subst a c;cases d<;>simp[a6H,S5]at g;refine⟨by simp[Instr.sameNow,hs],fun hb=>?_⟩;rw[←hs]at hb;rw[(MapKept.bytes_beq _ _).1 hb]
theorem b9l{d:TypeDesc}{x:PV}{key:Value}(c:a0O x=some key)(hp:∀cs,x≠ .agg cs)(f:a6H d=S5 x):∀(ks:List PV) (l:List MapEntry) (i:Nat) (r:Option Nat),l.length=ks.length→(∀(j:Nat) y,ks[j]?=some y→∃e,l[j]?=some e∧a1s y=some e.key)→a0t x ks i=some r→
 (r=none→Instr.findNow d key l i=some none)∧∀j,r=some j→i≤j∧∃e,l[j-i]?=some e∧e.key=key∧Instr.findNow d key l i=some (some (j,e.val))
 | [],l,i,r,a,_,hm=>by
  obtain rfl:l=[]:=a0V.1 a;simp[a0t]at hm;subst hm;exact⟨fun _=>rfl,fun j e=>by cases e⟩
 |y::ks,[],i,r,a,_,_=>by simp at a
 |y::ks,e::l,i,r,a,g,hm=>by
  obtain⟨k,m,o⟩:=g 0 y rfl;simp at m;subst m;unfold a0t at hm;have p:a1g x y=a0X x y:=by cases x<;>first|rfl|exact absurd rfl (hp _)
  rw[p]at hm;have n:∀b,a0X x y=some b→a0O y=some e.key:=fun b hb=>by obtain⟨_,_,u,v,_,a2,_⟩:=b1X hb;cases y<;>first|exact o|(simp[a0O]at a2)
  split at hm
  . rename_i hs;obtain⟨s1,s2⟩:=b7I c (n _ hs) f hs;simp at hm;subst hm;refine⟨fun h=>(by cases h),fun j hj=>?_⟩;cases hj;exact⟨m9 _,e,l5,s2 rfl,by simp[Instr.findNow,s1]⟩
  . rename_i hs;obtain⟨s1,_⟩:=b7I c (n _ hs) f hs;obtain⟨q,s⟩:=b9l c hp f ks l (i+1) r (by simpa using a) (fun j z t=>g (j+1) z (by simpa using t)) hm;refine⟨fun hr=>by simp[Instr.findNow,s1,q hr],fun j hj=>?_⟩;obtain⟨C,k,w,A,B⟩:=s j hj;exact⟨i9,k,by rw[show j-i=j-(i+1)+1 by omega];simpa using w,A,by simp[Instr.findNow,s1,B]⟩
  . cases hm
theorem b9s{t:TypeId}{o:Array Field}{ts:List Nat}{cs:List PV}{ls:List Value}(h0:P.underlying t=some (.struct o))(h1:a0R P 3 t=some ts)(c:U7 cs=some ls)(d:cs.map S5=ts):∀(ks:List PV) (l:List MapEntry) (i:Nat) (r:Option Nat),l.length=ks.length→(∀(j:Nat) y,ks[j]?=some y→∃e,l[j]?=some e∧a1s y=some e.key)→a0t (.agg cs) ks i=some r→
 (r=none→(Instr.findAsking t (.agg ls.toArray) l i).run P w=.ok none w)∧∀j,r=some j→i≤j∧∃e,l[j-i]?=some e∧e.key=.agg ls.toArray∧(Instr.findAsking t (.agg ls.toArray) l i).run P w=.ok (some (j,e.val)) w
 | [],l,i,r,a,_,hm=>by
  obtain rfl:l=[]:=a0V.1 a;simp[a0t]at hm;subst hm;exact⟨fun _=>by simp[Instr.findAsking],fun j e=>by cases e⟩
 |y::ks,[],i,r,a,_,_=>by simp at a
 |y::ks,e::l,i,r,a,f,hm=>by
  obtain⟨g,k,m⟩:=f 0 y rfl;simp at k;subst k;unfold a0t at hm;have step:∀b,a1g (.agg cs) y=some b→(Op.equal t (.agg ls.toArray) e.key).run P w=.ok b w∧(b=true→e.key=.agg ls.toArray):=fun b hb=>by
   cases y with
   |agg C=>
    simp only[a1g]at hb;obtain⟨u,v,n,a2,a3,_⟩:=c0O hb;rw[c]at n;cases n;simp only[a1s,a2,a2o,s7]at m;rw[←m];exact⟨c0b 9997 3 w t ts h1 c a2 d hb (by unfold a1B;rw[h0]) (by unfold a1B;rw[h0]),fun e=>by rw[a3 e]⟩
   |_=>simp[a1g,a0X]at hb
  split at hm
  . rename_i hs;obtain⟨s1,s2⟩:=step _ hs;simp at hm;subst hm;refine⟨fun h=>(by cases h),fun j hj=>?_⟩;cases hj;exact⟨m9 _,e,l5,s2 rfl,by simp[Instr.findAsking,s1]⟩
  . rename_i hs;obtain⟨s1,_⟩:=step _ hs;obtain⟨p,q⟩:=b9s h0 h1 c d ks l (i+1) r (by simpa using a) (fun j z s=>f (j+1) z (by simpa using s)) hm;refine⟨fun hr=>by simp[Instr.findAsking,s1,p hr],fun j hj=>?_⟩;obtain⟨D,g,x,A,B⟩:=q j hj;exact⟨i9,g,by rw[show j-i=j-(i+1)+1 by omega];simpa using x,A,by simp[Instr.findAsking,s1,B]⟩
  . cases hm
theorem find_spec{key:Value}(m:a7e P t=some n)(g:a1L x=n)(a:a1s x=some key){ks:List PV}{l:List MapEntry}{r:Option Nat}(i:l.length=ks.length)(k:∀(j:Nat) y,ks[j]?=some y→∃e,l[j]?=some e∧a1s y=some e.key)(hm:a0t x ks 0=some r):
 (r=none→(Instr.findKey t key l).run P w=.ok none w)∧∀j,r=some j→∃e,l[j]?=some e∧e.key=key∧(Instr.findKey t key l).run P w=.ok (some (j,e.val)) w:=by
 obtain⟨_,⟨d,h0,h1⟩|⟨z,ts,h0,h1,rfl⟩⟩:=b1v m
 . have o:a1L x<3:=by rcases h1 with⟨_,h⟩|⟨_,h⟩|⟨_,h⟩<;>omega
   obtain⟨A,p,s⟩:=c3s o;have hd:a6H d=S5 x:=by rcases h1 with⟨rfl,h⟩|⟨⟨q,rfl⟩,h⟩|⟨rfl,h⟩<;>simp only[a6H]<;>omega
   obtain⟨b,c⟩:=b9l (d:=d) (by rw[←p];exact a) s hd ks l 0 r i k hm;refine⟨fun e=>MapKept.run_findKey h0 (b e),fun j hj=>?_⟩;obtain⟨_,e,f,a2,a3⟩:=c j hj;exact⟨e,by simpa using f,a2,MapKept.run_findKey h0 a3⟩
 . obtain⟨cs,rfl⟩:=b5y g;have u:=b7W (b4x 3 t ts h1) g;simp only[a1s,D0]at a;obtain⟨ls,v,rfl⟩:=a;obtain⟨b,c⟩:=b9s (w:=w) h0 h1 v u ks l 0 r i k hm;have hw:(match P.underlying t with|some (.array _ _)|some (.struct _)=>true|_=>false)=true:=(by rw[h0]);refine⟨fun e=>by rw[run_findKey_eq w hw];exact b e,fun j hj=>?_⟩;obtain⟨_,e,f,a2,a3⟩:=c j hj;exact⟨e,by simpa using f,a2,by rw[run_findKey_eq w hw];exact a3⟩
theorem b8H(a:a0O x=some v)(n:Nat):Instr.sameBits n v v=true:=by cases x<;>simp[a0O]at a<;>subst a<;>cases n<;>simp[Instr.sameBits,(MapKept.bytes_beq _ _).2 rfl]
theorem b6f{n:Nat}:∀{cs:List PV} {l:List Value},U7 cs=some l→(l.zip l).all (fun p=>Instr.sameBits n p.1 p.2)=true
 | [],l,h=>by cases h;rfl
 |c::cs,l,h=>by
  simp only[U7]at h;split at h
  . rename_i h1 a;cases h;simp only[List.zip_cons_cons,List.all_cons,b8H h1,b6f a,Bool.and_self]
  . cases h
theorem c7x{key:Value}(a:a1s x=some key):(Instr.keyThatStays key key).run P w=.ok key w:=by
 have:Instr.sameBits 10000 key key=true:=by
  by_cases b:∃cs,x=.agg cs
  . obtain⟨cs,rfl⟩:=b;simp only[a1s,D0]at a;obtain⟨l,c,rfl⟩:=a;show Instr.sameBits (9999+1) _ _=true;have:=b6f (n:=9999) c;simpa[Instr.sameBits]using this
  . exact b8H (x:=x) (by cases x<;>first|exact a|exact absurd ⟨_,rfl⟩ b) 10000
 simp[Instr.keyThatStays,this]
theorem b5M{u:Value}(a:a0O x=some v)(hu:j8 G h w n u x):u=v:=by
 cases x<;>simp[a0O]at a<;>subst a
 . exact a1f hu
 . exact a0f hu
 . exact a2W hu
theorem c4b{vs:Array Value}:∀{cs:List PV} {l:List Value},U7 cs=some l→(∀(i:Nat) c,cs[i]?=some c→∃u,vs[i]?=some u∧j8 G h w n u c)→vs.size=cs.length→vs.toList=l:=by
 intro cs l d f hs;apply a3u;intro i;by_cases hi:i<cs.length
 . obtain⟨u,h1,g⟩:=f i _ (m7 hi);have:∀{cs:List PV} {l:List Value} (i:Nat) (c:PV),U7 cs=some l→cs[i]?=some c→∃v,l[i]?=some v∧a0O c=some v:=by
    intro cs
    induction cs with
    |nil=>intro l i c _ e;simp at e
    |cons a cs m=>
     intro l i c b e;simp only[U7]at b;split at b
     . grind
     . cases b
   obtain⟨v,j,k⟩:=this i _ d (m7 hi);rw[j,←b5M k g];simpa using h1
 . have h1:l.length≤i:=by rw[a9w d];omega
   grind
theorem b3G{u:Value}(a:a1s x=some v)(hu:j8 G h w D u x):u=v:=by
 by_cases b:∃cs,x=.agg cs
 . obtain⟨cs,rfl⟩:=b;simp only[a1s,D0]at a;obtain⟨l,c,rfl⟩:=a;obtain⟨vs,rfl,h1,d⟩:=a5L hu;have:=c4b c d h1;congr 1
   grind
 . exact b5M (x:=x) (by cases x<;>first|exact a|exact absurd ⟨_,rfl⟩ b) hu
end
end
open Go.RowKit Go.MapKept
section
variable{k g n s q q' i b:Nat}{ks vs ks' vs':List PV}{es es':Array MapEntry}{c z p px pm:PV}{hide:List Nat}{v m x u:Value}{t:TypeId}{ws:List (Nat×Row)}
section
variable{P:Program}{B:Nat}{Z0:Nat→Prop}{G G':Gh}{h h':l7}{w w':World}
theorem a1S.list(a:a1S es ks):es.toList.length=ks.length∧∀(j:Nat) y,ks[j]?=some y→∃e,es.toList[j]?=some e∧a1s y=some e.key:=
 ⟨by simpa using a.1,fun j y b=>by obtain⟨e,h1,c⟩:=a.2 j y b;exact⟨e,by simpa using h1,c⟩⟩
theorem a1S.modify{es:Array MapEntry}{ks:List PV}(a:a1S es ks)(i:Nat)(f:MapEntry→MapEntry)(h1:∀e,es[i]?=some e→(f e).key=e.key):a1S (es.modify i f) ks:=by
 refine⟨by simpa using a.1,fun j x b=>?_⟩;obtain⟨e,c,a2⟩:=a.2 j x b
 grind
theorem a1S.push{es:Array MapEntry}{ks:List PV}(b:a1S es ks){x:PV}{c:MapEntry}(d:a1s x=some c.key):a1S (es.push c) (ks++[x]):=by
 refine⟨by simp[b.1],fun j y a=>?_⟩;by_cases hj:j<ks.length
 . rw[a1k hj]at a;obtain⟨e,g,a2⟩:=b.2 j y a
   grind
 . have f:j=ks.length:=by
    have:=(B8.1 a).1;simp at this;omega
   subst f;rw[a3X (m9 _),a6L]at a;cases a;exact⟨c,by rw[←b.1];simp,d⟩
theorem Bl.b8I{r c:Nat}(d:B≤r)(hb:w.heap[r]?=some (.map es c))(o:Obj):Bl B w {w with heap:=w.heap.setIfInBounds r o}:=by
 refine⟨⟨rfl,rfl,rfl,l5,fun k a=>(heap_set hb).2 k i9⟩,fun k ob h1 b=>?_⟩;by_cases a:k=r
 . subst a;rw[hb]at h1;cases h1;cases b
 grind
theorem b7F(hr:s6 B Z0 G h w)(l:h[k]?=some (g,.mp false ks vs))(hb:w.heap[G.β (root k)]?=some (.map es q))(h1:a1S es' ks')(z:ks'.length=vs'.length)
 (A:∀(i:Nat) c,vs'[i]?=some c→∃e,es'[i]?=some e∧a0n G h w k i e.val c):
 s6 B Z0 G (h.set k (g,.mp false ks' vs')) {w with heap:=w.heap.setIfInBounds (G.β (root k)) (.map es' q')}∧Ext G h w G (h.set k (g,.mp false ks' vs')) {w with heap:=w.heap.setIfInBounds (G.β (root k)) (.map es' q')}∧
  Bl B w {w with heap:=w.heap.setIfInBounds (G.β (root k)) (.map es' q')}:=by
 have s:k<h.length:=(B8.1 l).1;have t:=hr.ob k g _ l;unfold F9 at t;obtain⟨m,_⟩:=t;have u:=(heap_set (o':=.map es' q') hb).1;have v:=(heap_set (o':=.map es' q') hb).2;have x:Ext G h w G (h.set k (g,.mp false ks' vs')) {w with heap:=w.heap.setIfInBounds (G.β (root k)) (.map es' q')}:=by
  refine⟨fun _ y=>y,fun b n=>v b fun e=>hr.nz k g _ l rfl none m (e▸n),fun a gn ob e=>?_⟩;by_cases f:a=k
  . subst f;rw[l]at e;cases e;exact⟨g,_,F8 s,m9 _,fun _=>⟨fun _ _ _ _ o=>(by cases o),fun _ o=>(by cases o),fun _ _ _ _=>⟨_,_,_,rfl,C9.refl _ _⟩⟩⟩
  . exact⟨gn,ob,by rw[F7 (Ne.symm f)];exact e,m9 _,fun _=>L0.refl a ob (C9.refl _ _) fun i j=>C9.refl _ _⟩
 have p:∀a y,(a,y)≠root k→G.R (a,y)→(w.heap.setIfInBounds (G.β (root k)) (.map es' q'))[G.β (a,y)]?=w.heap[G.β (a,y)]?:=fun a y C d=>v _ fun e=>C (hr.inj _ _ d m e);refine⟨hr.update k g _ s x (fun _ _ _=>.inl (C9.refl _ _)) (fun a y f d=>p a y (fun e=>f (congrArg Prod.fst e)) d) l5 (fun b n=>(hr.zb b n).eq (x.zw b n)) (fun b hb=>.inl hb) (fun _ _ _ _ D=>D) (fun y d=>?_) (fun e=>by cases e) ?_,x,Bl.b8I (hr.lv _ m).1 hb _⟩
 . obtain⟨E,F⟩:=hr.lv _ d;refine⟨E,?_,fun _=>hr.nz k g _ l rfl y d,fun H r e=>congrArg Prod.snd (hr.inj _ _ d r e),fun a H f r e=>f (congrArg Prod.fst (hr.inj _ _ d r e)).symm⟩;cases y with
   |none=>exact⟨_,u,rfl⟩
   |some ij=>exact F.eq (p k _ l5 d)
 . unfold F9;refine⟨m,z,es',q',u,h1,fun i c I=>?_⟩;obtain⟨e,J,a2⟩:=A i c I;exact⟨e,J,a2.ext x (C9.refl _ _) fun d=>p k _ l5 d⟩
theorem a8f(hr:s6 B Z0 G h w){fr:Bool}(a:h[k]?=some (g,.mp fr ks vs))(hm:j8 G h w D m (.mapv k g)):
 m=.map (some (G.β (root k)))∧ks.length=vs.length∧∃es q,w.heap[G.β (root k)]?=some (.map es q)∧a1S es ks∧∀(i:Nat) c,vs[i]?=some c→∃e,es[i]?=some e∧a0n G h w k i e.val c:=by
 have d:=hr.ob k g _ a;unfold F9 at d;obtain⟨_,j,l⟩:=d;unfold D at hm;unfold j8 at hm;obtain⟨b,rfl,gn,ob,f,_,n⟩:=hm;rw[a]at f;cases f;rw[n rfl _ _ _ rfl];exact⟨rfl,j,l⟩
theorem b4G(a:mvR c=true):∀ns,c≠ .uslc ns:=fun ns e=>by subst e;simp[mvR,A9,fn0]at a
theorem a4W(a:∀ns,c≠ .uslc ns):a0n G h w k i u c↔j8 G h w D u c:=by cases c<;>first|exact absurd rfl (a _)|(unfold a0n;exact Iff.rfl)
def Gh.drp(G:Gh)(k i:Nat):Gh:={G with R:=fun key=>key≠nest k i 0∧G.R key}
theorem a8M{G:Gh}{key:Key}(h:key≠nest k i 0):C9 G (G.drp k i) key:=⟨rfl,⟨fun x=>x.2,fun x=>⟨h,x⟩⟩,rfl,rfl⟩
def Gh.a1h(G:Gh)(k b γ0:Nat):Gh:=
 {G with β:=fun key=>if key=root k then b else G.β key
         R:=fun key=>key=root k∨key.1≠k∧G.R key
         γ:=fun key=>if key=root k then γ0 else G.γ key}
theorem b0k{G:Gh}{γ0 a:Nat}{y:Option (Nat×Nat)}(h:a≠k):C9 G (G.a1h k b γ0) (a,y):=by have c:((a,y):Key)≠root k:=fun e=>h (congrArg Prod.fst e);exact⟨by simp[Gh.a1h,c],⟨fun x=>(x.resolve_left c).2,fun x=>.inr ⟨h,x⟩⟩,by simp[Gh.a1h,c],rfl⟩
theorem b9n{G:Gh}{h:l7}{w:World}(hr:s6 B Z0 G h w){γ0 sz:Nat}{ns:List PV}{us:Array Value}{T:TypeId}(q:h[k]?=some (g,.dead))(s:B≤b)(t:¬G.Z b)(u:∀key,G.R key→G.β key≠b)
 (hw:w.heap[b]?=some (.cells us T (0,0))) (h1:ns.length≤γ0) (z:γ0≤maxLen) (A:0<sz) (C:us.size=γ0*sz)
 (D:∀(i:Nat) e,ns[i]?=some e→(l9 e).length=sz∧∀(j:Nat) c,(l9 e)[j]?=some c→one c=true∧∃v,us[i*sz+j]?=some v∧PR G.Z w v c):
 s6 B Z0 (G.a1h k b γ0) (h.set k (g+1,.arr sz 0 false ns)) w∧Ext G h w (G.a1h k b γ0) (h.set k (g+1,.arr sz 0 false ns)) w:=by
 have r:k<h.length:=(B8.1 q).1;have hb:(G.a1h k b γ0).β (root k)=b:=by simp[Gh.a1h]
 have E:(G.a1h k b γ0).γ (root k)=γ0:=by simp[Gh.a1h]
 have x:Ext G h w (G.a1h k b γ0) (h.set k (g+1,.arr sz 0 false ns)) w:=by
  refine⟨fun _ y=>y,fun _ _=>rfl,fun f gn ob e=>?_⟩;by_cases a:f=k
  . subst a;rw[q]at e;cases e;exact⟨g+1,_,F8 r,i9,fun e=>i9⟩
  . exact⟨gn,ob,by rw[F7 (Ne.symm a)];exact e,m9 _,fun _=>L0.refl f ob (b0k a) fun i j=>b0k a⟩
 have only:∀y,(G.a1h k b γ0).R (k,y)→y=none:=fun y l=>by
  rcases l with e|⟨e,_⟩
  . exact congrArg Prod.snd e
  . exact absurd rfl e
 refine⟨hr.update k (g+1) _ r x (fun f y a=>.inl (b0k a)) (fun _ _ _ _=>rfl) (m9 _) (fun b hb=>hr.zb b hb) (fun b hb=>.inl hb) (fun _ _ _ _ m=>m) (fun y l=>?_) (fun e=>by cases e) ?_,x⟩
 . obtain rfl:=only y l;rw[show(G.a1h k b γ0).β (k,none)=b from hb];refine⟨s,W4.of hw,fun _=>t,fun n o _=>(only n o).symm,fun f n a o e=>?_⟩;obtain⟨F,a2,_⟩:=b0k (G:=G) (b:=b) (γ0:=γ0) (y:=n) a;rw[F]at e;exact u _ (a2.1 o) e.symm
 . unfold F9;rw[hb,E];refine⟨A,h1,z,fun _=>⟨us,T,hw,C,fun i e he=>?_⟩,fun m=>absurd (.inl rfl) m⟩;obtain⟨H,I⟩:=D i e he;refine⟨H,fun j c J=>?_⟩;obtain⟨d,v,K,L⟩:=I j c J;refine⟨v,K,?_⟩;have p:=a1H (G:=G.a1h k b γ0) (h:=h.set k (g+1,.arr sz 0 false ns)) d L;revert d p;cases c<;>intro d p<;>first|(simp[one,Y8]at d;done)|(unfold H4;exact⟨d,p⟩)
theorem b2Q(a:mapA P t=some (n,z,s)):∃kt b,P.underlying t=some (.map kt b)∧a7e P kt=some n∧n≠3∧a0A P b=some z:=by
 unfold mapA at a;split at a
 . rename_i kt b hu;split at a
   . rename_i d e h1 c;cases a;exact⟨kt,b,hu,h1,(b1v h1).1,c⟩
   . cases a
 . cases a
theorem b8t{α:Type}{l:List α}{a:α}(h:l[k]?=some a):l.set k a=l:=by obtain⟨b,c⟩:=B8.1 h;rw[←c];exact b4N b
theorem b5w(hr:s6 B Z0 G h w)(a:k<h.length∧hide.contains k=false)(t:TypeId){r:Option Value}(c:(Instr.makeMap t r).run P w=.ok (.map (some w.heap.size)) (w.alloc (.map #[] 0))):
 Good P B Z0 G h w (do pure (.value (←Instr.makeMap t r))) (.mapv k ((l8 h hide k).1+1)) [(k,((l8 h hide k).1+1,.mp false [] []))]:=by
 obtain⟨⟨g,f⟩,b⟩:∃r,h[k]?=some r:=⟨_,m7 a.1⟩
 rw[a6x a.2 b];obtain⟨h1,d⟩:=b0L (w':=w.alloc (.map #[] 0)) (o':=.mp false [] []) hr b (ob:=.map #[] 0) rfl 0 rfl (fun e=>by cases e) (fun x=>by unfold F9;refine⟨by simp[Gh.put],rfl,#[],0,?_,⟨rfl,l5⟩,l5⟩;rw[show(G.put k w.heap.size 0).β (root k)=w.heap.size by simp[Gh.put]];exact heap_alloc_new w _)
 refine⟨.value (.map (some w.heap.size)),_,w.alloc (.map #[] 0),_,by simp[c,Result.andThen],.inl rfl,h1,d,?_,a6h hr _⟩;unfold D;unfold j8;refine⟨_,rfl,g+1,.mp false [] [],F8 a.1,m9 _,fun _ _ _ _ e=>?_⟩;simp[Gh.put]
theorem b6q(a:(l9 c).all one=true)(b:j8 G h w D v c):j8 G h w 5 v c:=by
 by_cases d:∃cs,c=.agg cs
 . obtain⟨cs,rfl⟩:=d;obtain⟨vs,rfl,h1,f⟩:=a5L b;unfold j8;refine⟨vs,rfl,h1,fun i x e=>?_⟩;obtain⟨u,g,j⟩:=f i x e;exact⟨u,g,one_cell (B0.1 a x (D4 e)) j⟩
 . have:l9 c=[c]:=by cases c<;>first|rfl|exact absurd ⟨_,rfl⟩ d
   rw[this]at a;exact one_cell (by simpa using a) b
theorem c5M(d:mvR c=true)(g:j8 G h w D v c):j8 G h w 5 v c:=by
 by_cases j:∃f a b,c=.fn f a b
 . obtain⟨f,a,b,rfl⟩:=j;have k:a=[]∧b=[]:=by
    simp only[mvR,A9,Bool.false_or]at d;unfold fn0 at d;split at d
    . rename_i e;cases e;exact⟨rfl,rfl⟩
    . cases d
   obtain⟨rfl,rfl⟩:=k;obtain⟨vs,us,rfl,h1,l⟩:=a9g g;unfold j8;exact⟨vs,us,rfl,⟨h1.1,fun i c d=>by simp at d⟩,⟨l.1,fun i c d=>by simp at d⟩⟩
 . refine b6q ?_ g;cases c<;>simp[mvR,A9,fn0,l9,one,Y8]at d⊢
   all_goals grind
theorem b6a{q:PV}(h1:j8 G h w 5 u p)(b:j8 G h w 5 v q):j8 G h w D (.tuple #[u,v]) (.tup [p,q]):=by
 unfold D;unfold j8;refine⟨_,rfl,rfl,fun i c a=>?_⟩
 match i,a with
 |0,a=>simp at a;subst a;exact⟨u,rfl,h1⟩
 |1,a=>simp at a;subst a;exact⟨v,rfl,b⟩
 |i+2,a=>simp at a
theorem b0l(hr:s6 B Z0 G h w){ok:Bool}(I:mapA P t=some (n,z,s))(hm:(m=.map none∧es= #[])∨∃r,m=.map (some r)∧w.heap[r]?=some (.map es q))(J:j8 G h w D x px)
 (K:a1S es ks) (L:∀(i:Nat) c,vs[i]?=some c→mvR c=true→∃e,es[i]?=some e∧j8 G h w D e.val c) (b:a3L n ok z px ks vs=some (p,ws)):
 Good P B Z0 G h w (do pure (.value (←Instr.lookup t m x ok))) p ws:=by
 obtain⟨kt,M,u,f,N,O⟩:=b2Q I;unfold a3L at b;split at b
 case isFalse=>cases b
 rename_i v;obtain⟨c3,c4⟩:=v;obtain⟨key,g⟩:=b4q (x:=px) (by rw[c3];exact N);obtain rfl:=b3G g J;obtain⟨l1,C⟩:=K.list;have E:∀{a:Option (Nat×Value)} {r:Value},(Instr.findKey kt x es.toList).run P w=.ok a w→(∀y,a=some y→r=(if ok then .tuple #[y.2,.bool true]else y.2))→(a=none→∃zv,(zeroValue M).run P w=.ok zv w∧r=(if ok then .tuple #[zv,.bool false]else zv))→(Instr.lookup t m x ok).run P w=.ok r w:=by
  intro a r j hs l;have o:=j;rcases hm with⟨rfl,rfl⟩|⟨r0,rfl,hb⟩
  . cases a with
    |none=>
     obtain⟨zv,k,rfl⟩:=l rfl;simp[Instr.lookup,run_underlying u,a7z f c3 g,k,Result.andThen]at o⊢;simp[o,k,Result.andThen]
    |some y=>
     have:=hs y rfl;subst this;exfalso;obtain⟨_,⟨d,h0,_⟩|⟨_,_,h0,_⟩⟩:=b1v f<;>simp[Instr.findKey,run_underlying h0,Instr.findNow]at j
  . cases a with
    |none=>
     obtain⟨zv,k,rfl⟩:=l rfl;simp[Instr.lookup,run_underlying u,MapKept.run_getObj_map hb,a7z f c3 g,o,k,Result.andThen]
    |some y=>
     have:=hs y rfl;subst this;simp[Instr.lookup,run_underlying u,MapKept.run_getObj_map hb,a7z f c3 g,o,Result.andThen]
 split at b
 . rename_i i j;obtain⟨_,q⟩:=find_spec (w:=w) f c3 g l1 C j;obtain⟨e,Q,T,R⟩:=q i rfl;split at b
   . rename_i c v;split at b
     . rename_i F;simp only[s7,s9]at b;obtain⟨rfl,rfl⟩:=b;obtain⟨S,H,a2⟩:=L i c v F;have:S=e:=by
        have:es[i]?=some e:=(by simpa using Q);rw[this]at H;exact(a0c H).symm
       subst this;refine a3P hr (E R (fun y A=>by cases A;rfl) (fun l=>by cases l)) ?_;cases ok
       . exact a2
       . exact b6a (c5M F a2) a1l
     . cases b
   . cases b
 . rename_i j;simp only[s7,s9]at b;obtain⟨rfl,rfl⟩:=b;obtain⟨q,_⟩:=find_spec (w:=w) f c3 g l1 C j;obtain⟨i,zv,k,z2,z3⟩:=a4M O;obtain⟨z4,z5⟩:=a8i (G:=G) (h:=h) (w:=w) z3;refine a3P hr (E (q rfl) (fun y A=>by cases A) (fun _=>⟨zv,b1y k z2,rfl⟩)) ?_;cases ok
   . exact z4
   . exact b6a (b6q z5 z4) a1l
 . cases b
theorem c4q(d:mvR c=true)(hp:PR G.Z w v c):j8 G h w D v c:=by
 cases c<;>simp[mvR,A9,fn0]at d
 case agg cs=>
  obtain⟨n,hp⟩:=hp;cases n with
  |zero=>unfold K6 at hp;exact hp.elim
  |succ n=>
   unfold K6 at hp;obtain⟨vs,rfl,h1,k⟩:=hp;refine a5W ⟨h1,fun i x g=>?_⟩;obtain⟨u,l,m⟩:=k i x g;have j:=a3U (d x (D4 g));exact⟨u,l,one_cell j (a1H j ⟨n,m⟩)⟩
 case fn f a b=>
  obtain⟨n,hp⟩:=hp;split at d
  . rename_i o e;cases e;have p:v=.func (.func o) #[] #[]:=(by cases n<;>(unfold K6 at hp;exact hp));subst p;unfold D;unfold j8;exact⟨_,_,rfl,⟨rfl,fun i c d=>by simp at d⟩,⟨rfl,fun i c d=>by simp at d⟩⟩
  . cases d
 all_goals exact a1H rfl hp
theorem c6c(hr:s6 B Z0 G h w){ok:Bool}(j:mapA P t=some (n,z,s))(hm:j8 G h w D m pm)(d:j8 G h w D x px)(a:a7i (l8 h hide) n ok z pm px=some (p,ws)):
 Good P B Z0 G h w (do pure (.value (←Instr.lookup t m x ok))) p ws:=by
 unfold a7i at a;split at a
 . rename_i k g;split at a
   . rename_i C fr ks vs v;split at a
     . rename_i y;subst y;have A:=S8 v l5;obtain⟨rfl,E,es,F,hb,l,o⟩:=a8f hr A hm;exact b0l hr j (.inr ⟨_,rfl,hb⟩) d l (fun i c f r=>by obtain⟨e,u,a2⟩:=o i c f;exact⟨e,u,(a4W (b4G r)).1 a2⟩) a
     . cases a
   . cases a
 . rename_i ks vs;obtain⟨b,es,q,rfl,_,hb,l,_,o⟩:=PR.N3 (a8I hm);exact b0l hr j (.inr ⟨_,rfl,hb⟩) d l (fun i c f r=>by obtain⟨e,u,a2⟩:=o i c f;exact⟨e,u,c4q r a2⟩) a
 . unfold D at hm;unfold j8 at hm;obtain⟨rfl,_⟩:=hm;exact b0l (q:=0) hr j (.inl ⟨rfl,rfl⟩) d ⟨rfl,fun i x d=>by simp at d⟩ (fun i c f=>by simp at f) a
 . cases a
theorem c1U(hr:s6 B Z0 G h w){fr:Bool}(n:h[k]?=some (g,.mp fr ks vs))(A:∀ns,vs[i]?≠some (.uslc ns)):s6 B Z0 (G.drp k i) h w∧Ext G h w (G.drp k i) h w:=by
 have x:Ext G h w (G.drp k i) h w:=by
  refine⟨fun _ y=>y,fun _ _=>rfl,fun f gn ob e=>⟨gn,ob,e,m9 _,fun _=>?_⟩⟩;by_cases l:f=k
  . subst l;rw[n]at e;cases e;exact⟨fun _ _ _ _ m=>(by cases m),fun _ m=>(by cases m),fun _ _ _ m=>⟨_,_,_,rfl,a8M l5⟩⟩
  . exact L0.refl f ob (a8M l5) fun a b=>a8M fun e=>l (congrArg Prod.fst e)
 refine⟨⟨hr.base,hr.zo,hr.zb,fun key C=>hr.lv key C.2,fun k g o d p y r=>hr.nz k g o d p y r.2,fun k g o d p y r=>hr.fz k g o d p y r.2,fun a b h1 D e=>hr.inj a b h1.2 D.2 e,fun f E o d=>?_⟩,x⟩;by_cases l:f=k
 . subst l;rw[n]at d;cases d;have s:=hr.ob _ _ _ n;unfold F9 at s⊢;obtain⟨F,H,es,q,I,J,K⟩:=s;refine⟨⟨l5,F⟩,H,es,q,I,J,fun j c t=>?_⟩;obtain⟨e,L,u⟩:=K j c t;refine⟨e,L,?_⟩;by_cases v:j=i
   . subst v;have z:∀ns,c≠ .uslc ns:=fun ns e=>A ns (by rw[t,e]);exact(a4W z).2 (((a4W z).1 u).ext x)
   . exact u.ext x (a8M fun e=>v (by simpa using e)) fun _=>rfl
 . exact(hr.ob f E o d).ext x (fun y=>a8M fun e=>l (congrArg Prod.fst e)) fun _ _=>rfl
def c3O(G:Gh)(h:l7)(w:World)(k i:Nat)(m:Option Nat)(u:Value)(c:PV):Prop:=
 match m with
 |some a=>∃ns,c=.uslc ns∧O8 G w (root a) u ns
 |none=>a0n G h w k i u c
theorem c5z(hr:s6 B Z0 G h w){mk:Nat→Nat→Option Nat}(z:h[k]?=some (g,.mp false ks vs))(hb:w.heap[G.β (root k)]?=some (.map es q))
 (A:∀i j f,mk i j=some f→f≠k∧(∃g2,h[f]?=some (g2,.dead))∧(G.R (root f)→¬G.Z (G.β (root f)))) (W:∀i j r s f,mk i j=some f→mk r s=some f→i=r∧j=s)
 (h1:a1S es' ks') (C:ks'.length=vs'.length)
 (X:∀(i:Nat) c,vs'[i]?=some c→∃e,es'[i]?=some e∧c3O G h w k i (mk i 0) e.val c):
 s6 B Z0 (G.mv k (G.β (root k)) (G.γ (root k)) mk) (h.set k (g,.mp false ks' vs')) {w with heap:=w.heap.setIfInBounds (G.β (root k)) (.map es' q')}∧
  Ext G h w (G.mv k (G.β (root k)) (G.γ (root k)) mk) (h.set k (g,.mp false ks' vs')) {w with heap:=w.heap.setIfInBounds (G.β (root k)) (.map es' q')}∧
  Bl B w {w with heap:=w.heap.setIfInBounds (G.β (root k)) (.map es' q')}:=by
 have L:k<h.length:=(B8.1 z).1;have M:=hr.ob k g _ z;unfold F9 at M;obtain⟨D,_⟩:=M;have N:=(heap_set (o':=.map es' q') hb).1;have O:=(heap_set (o':=.map es' q') hb).2;have P:¬G.Z (G.β (root k)):=hr.nz k g _ z rfl none D;have Q:B≤G.β (root k):=(hr.lv _ D).1;have E:∀key,key≠root k→G.R key→G.β key≠G.β (root k):=fun key o a e=>o (hr.inj _ _ a D e);have F:∀key,key≠root k→G.R key→(w.heap.setIfInBounds (G.β (root k)) (.map es' q'))[G.β key]?=w.heap[G.β key]?:=fun key o a=>O _ (E key o a);have R:∀m y,m≠k→b2e G (G.mv k (G.β (root k)) (G.γ (root k)) mk) h m y:=fun m y n=>by
  by_cases S:y=none∧a9x mk m
  . obtain⟨rfl,i,j,hm⟩:=S;refine .inr ⟨fun a=>?_,fun ai o' e=>?_⟩
    . have o:((m,none):Key)≠root k:=fun e=>n (congrArg Prod.fst e);simp only[Gh.mv,if_neg o]at a;exact a.1 trivial ⟨i,j,hm⟩
    . obtain⟨g2,C⟩:=(A i j m hm).2.1;rw[C]at e;cases e;rfl
  . exact .inl (b0N n fun e hm=>S ⟨e,hm⟩)
 have I:C9 G (G.mv k (G.β (root k)) (G.γ (root k)) mk) (root k):=⟨by simp[Gh.mv],by simp[Gh.mv,D],by simp[Gh.mv],by simp[Gh.mv,a1m]⟩
 have x:Ext G h w (G.mv k (G.β (root k)) (G.γ (root k)) mk) (h.set k (g,.mp false ks' vs')) {w with heap:=w.heap.setIfInBounds (G.β (root k)) (.map es' q')}:=by
  refine⟨fun _ y=>y,fun x Y=>O x fun e=>P (e▸Y),fun m gn ob e=>?_⟩;by_cases n:m=k
  . subst n;rw[z]at e;cases e;exact⟨g,_,F8 L,m9 _,fun _=>⟨fun _ _ _ _ l=>(by cases l),fun _ l=>(by cases l),fun _ _ _ _=>⟨_,_,_,rfl,I⟩⟩⟩
  . refine⟨gn,ob,by rw[F7 (Ne.symm n)];exact e,m9 _,fun _=>?_⟩;by_cases hd:ob=.dead
    . subst hd;exact L0.dead _ _
    . exact L0.refl m ob ((R m none n).resolve_right fun y=>hd (y.2 gn ob e)) fun i j=>b0N n fun e=>by cases e
 refine⟨hr.update k g _ L x R (fun m y n a=>F _ (fun e=>n (congrArg Prod.fst e)) a) l5 (fun T U=>(hr.zb T U).eq (x.zw T U)) (fun b hb=>.inl hb) (fun _ _ _ _ Z=>Z) ?_ (fun e=>by cases e) ?_,x,Bl.b8I Q hb _⟩
 . intro y a;cases y with
   |none=>
    have J:(G.mv k (G.β (root k)) (G.γ (root k)) mk).β (k,none)=G.β (root k):=(by simp[Gh.mv]);rw[J];refine⟨Q,⟨_,N,rfl⟩,fun _=>P,fun u p e=>?_,fun m u n p e=>?_⟩
    . cases u with
      |none=>rfl
      |some ij=>
       obtain⟨i,j⟩:=ij;exfalso;have o:(nest k i j:Key)≠root k:=fun e=>(by simp at e);simp only[Gh.mv,if_neg o]at p e;refine E _ (fun t=>?_) p.2 e.symm;cases d:mk i j with
       |none=>rw[a2n d]at t;exact o t
       |some f=>rw[a2i d]at t;exact(A i j f d).1 (congrArg Prod.fst t)
    . have o:((m,u):Key)≠root k:=fun e=>n (congrArg Prod.fst e);simp only[Gh.mv,if_neg o,a5D n]at p e;exact E _ o p.2 e.symm
   |some ij=>
    obtain⟨i,j⟩:=ij;have o:(nest k i j:Key)≠root k:=fun e=>(by simp at e);have J:(G.mv k (G.β (root k)) (G.γ (root k)) mk).β (nest k i j)=G.β (a1m k mk (nest k i j)):=(by simp[Gh.mv]);simp only[Gh.mv,if_neg o]at a;obtain⟨_,a⟩:=a;have V:a1m k mk (nest k i j)≠root k:=fun t=>by
     cases d:mk i j with
     |none=>rw[a2n d]at t;exact o t
     |some f=>rw[a2i d]at t;exact(A i j f d).1 (congrArg Prod.fst t)
    show B≤(G.mv k (G.β (root k)) (G.γ (root k)) mk).β (nest k i j)∧_;rw[J];obtain⟨l1,aa⟩:=hr.lv _ a;refine⟨l1,aa.eq (F _ V a),fun _=>?_,fun u p e=>?_,fun m u n p e=>?_⟩
    . show¬G.Z _;cases d:mk i j with
      |none=>rw[a2n d]at a⊢;exact hr.nz k g _ z rfl _ a
      |some f=>rw[a2i d]at a⊢;exact(A i j f d).2.2 a
    . cases u with
      |none=>
       exfalso;have:(G.mv k (G.β (root k)) (G.γ (root k)) mk).β (k,none)=G.β (root k):=(by simp[Gh.mv]);rw[this]at e;exact E _ V a e
      |some ab=>
       obtain⟨r,s⟩:=ab;have K:(nest k r s:Key)≠root k:=fun e=>(by simp at e);have ac:(G.mv k (G.β (root k)) (G.γ (root k)) mk).β (nest k r s)=G.β (a1m k mk (nest k r s)):=(by simp[Gh.mv]);simp only[Gh.mv,if_neg K]at p;have l:=hr.inj _ _ a p.2 (e.trans ac);cases d:mk i j with
       |none=>
        rw[a2n d]at l;cases v:mk r s with
        |none=>rw[a2n v]at l;exact congrArg Prod.snd l
        |some f=>rw[a2i v]at l;simp at l
       |some f=>
        rw[a2i d]at l;cases v:mk r s with
        |none=>rw[a2n v]at l;simp at l
        |some ad=>
         rw[a2i v]at l;have:f=ad:=congrArg Prod.fst l;subst this;obtain⟨rfl,rfl⟩:=W i j r s f d v;rfl
    . have K:((m,u):Key)≠root k:=fun e=>n (congrArg Prod.fst e);simp only[Gh.mv,if_neg K,a5D n]at p e;have l:=hr.inj _ _ a p.2 (by simpa using e);cases d:mk i j with
      |none=>rw[a2n d]at l;exact n (congrArg Prod.fst l).symm
      |some f=>
       rw[a2i d]at l;have h1:f=m:=congrArg Prod.fst l;have C:none=u:=congrArg Prod.snd l;subst h1;exact p.1 C.symm ⟨i,j,d⟩
 . unfold F9;rw[I.1];refine⟨I.2.1.2 D,C,es',q',N,h1,fun i c ae=>?_⟩;obtain⟨e,af,H⟩:=X i c ae;refine⟨e,af,?_⟩;cases d:mk i 0 with
   |none=>
    rw[d]at H;exact a0n.ext x (b4k d) (fun a=>F _ (fun e=>by simp at e) a) H
   |some f=>
    rw[d]at H;obtain⟨ns,ag,ah⟩:=H;subst ag;unfold a0n;exact ah.ext x (b5L d) fun a=>F _ (fun e=>(A i 0 f d).1 (congrArg Prod.fst e)) a
theorem c4r(hr:s6 B Z0 G h w){d:PV}{ks:List Nat}(f:j8 G h w D u c)(a:a6v (l8 h hide) c=some (d,ks)):
 ∃G' m,s6 B Z0 G' (p8 h (kill (l8 h hide) ks)) w∧Ext G h w G' (p8 h (kill (l8 h hide) ks)) w∧a4z G h G' (p8 h (kill (l8 h hide) ks)) ks∧
  (m=none∧(∀ns,d≠ .uslc ns)∧j8 G' (p8 h (kill (l8 h hide) ks)) w D u d∨∃k ns,m=some k∧d=.uslc ns∧O8 G' w (root k) u ns)∧∀k,m=some k↔k∈ks:=by
 unfold a6v at a;split at a
 . rename_i i;obtain⟨G1,g,j,l,n,b,o⟩:=b6u hr (fun _ _=>rfl) i f (fun _ _ _ _ _ _=>rfl) a;refine⟨G1,g,j,l,n,?_,o⟩;cases g with
   |none=>exact .inl ⟨rfl,fun ns e=>by have:=b.1;rw[e]at this;simp[one,Y8]at this,b.2⟩
   |some p=>obtain⟨ns,q,r⟩:=b;exact .inr ⟨p,ns,rfl,q,r⟩
 . split at a
   . rename_i s;simp only[s7,s9]at a;obtain⟨rfl,rfl⟩:=a;exact⟨G,none,hr,Ext.refl,⟨fun _ _ _=>C9.refl _ _,rfl,rfl,fun _ hm=>by simp at hm,fun _ hm=>by simp at hm,fun _ _=>rfl,fun _ hb=>.inl hb⟩,.inl ⟨rfl,b4G s,f⟩,fun k=>l5⟩
   . cases a
theorem c0M(hr:s6 B Z0 G h w){N:Nat}{pv d:PV}{kl:List Nat}(H:h[k]?=some (g,.mp false ks vs))(hb:w.heap[G.β (root k)]?=some (.map es q))
 (I:j8 G h w D v pv) (J:a6v (l8 h hide) pv=some (d,kl)) (t:k∉kl) (K:a1S es' ks') (L:ks'.length=vs'.length)
 (M:∀c,vs'[N]?=some c→c=d) (O:∃e,es'[N]?=some e∧e.val=v) (P:∀(j:Nat) c,j≠N→vs'[j]?=some c→vs[j]?=some c) (Q:∀(j:Nat) (e:MapEntry),j≠N→es[j]?=some e→∃f:MapEntry,es'[j]?=some f∧f.val=e.val):
 ∃G',s6 B Z0 G' (p8 h (kill (l8 h hide) kl++[(k,(g,.mp false ks' vs'))])) {w with heap:=w.heap.setIfInBounds (G.β (root k)) (.map es' q')}∧
  Ext G h w G' (p8 h (kill (l8 h hide) kl++[(k,(g,.mp false ks' vs'))])) {w with heap:=w.heap.setIfInBounds (G.β (root k)) (.map es' q')}∧Bl B w {w with heap:=w.heap.setIfInBounds (G.β (root k)) (.map es' q')}:=by
 obtain⟨G1,R,u,n,a,S,T⟩:=c4r hr I J;have x:(p8 h (kill (l8 h hide) kl))[k]?=some (g,.mp false ks vs):=(a.other k t).trans H;have y:w.heap[G1.β (root k)]?=some (.map es q):=by rw[a.β];exact hb
 have z:=u.ob k _ _ x;unfold F9 at z;obtain⟨_,_,U,aa,A,_,V⟩:=z;rw[y]at A;have:U=es:=by cases A;rfl
 subst this;obtain⟨f1,f2,f3⟩:=c5z (q':=q') (mk:=fun i j=>if i=N∧j=0 then R else none) u x y (es':=es') (ks':=ks') (vs':=vs') (fun i j l hm=>by
  split at hm
  . have o:=(T l).1 hm;refine⟨fun e=>t (e▸o),a.dead _ o,fun p C=>?_⟩;obtain⟨g2,s2,ab,ac,W⟩:=a.live _ o;rw[a.R]at p;rw[a.β]at C;rcases a.z _ C with X|⟨ad,_,ij,Y,heq⟩
    . exact hr.nz l g2 _ W rfl none p X
    . have:=hr.inj _ _ p Y heq;simp at this
  . cases hm) (fun i j ae af l h1 E=>by
  split at h1
  . rename_i b;split at E
    . rename_i a2;exact⟨b.1.trans a2.1.symm,b.2.trans a2.2.symm⟩
    . cases E
  . cases h1) K L (fun j c F=>by
  by_cases m:j=N
  . subst m;have Z:=M c F;subst Z;obtain⟨e,b,a2⟩:=O;refine⟨e,b,?_⟩;rw[if_pos ⟨rfl,rfl⟩,a2];rcases S with⟨rfl,r,s⟩|⟨l,ns,rfl,r,s⟩
    . exact(a4W r).2 s
    . exact⟨ns,r,s⟩
  . obtain⟨f,b,a2⟩:=V j c (P j c m F);obtain⟨n,a3,a4⟩:=Q j f m b;refine⟨n,a3,?_⟩;rw[if_neg (fun e=>m e.1),a4];exact a2)
 rw[a.β]at f1 f2 f3;have hu:p8 h (kill (l8 h hide) kl++[(k,(g,.mp false ks' vs'))])=(p8 h (kill (l8 h hide) kl)).set k (g,.mp false ks' vs'):=by rw[a3J];rfl
 rw[hu];exact⟨_,f1,n.trans f2,f3⟩
theorem c9U(hr:s6 B Z0 G h w){pv:PV}(Q:mapA P t=some (n,z,s))(hm:j8 G h w D m pm)(R:j8 G h w D x px)(J:j8 G h w D v pv)(a:a7p (l8 h hide) n pm px pv=some (p,ws)):
 Good P B Z0 G h w (do Instr.mapUpdate t m x v;pure Next.skip) p ws:=by
 obtain⟨kt,Z,K,u,S,_⟩:=b2Q Q;unfold a7p at a;split at a
 case h_2=>cases a
 rename_i k g;split at a
 case h_2=>cases a
 rename_i aa fr ks vs T;split at a
 case isFalse=>cases a
 rename_i b;obtain⟨rfl,rfl,c3,c4⟩:=b;split at a
 case h_2=>cases a
 rename_i d kl L;split at a
 case isTrue=>cases a
 rename_i y;have y:k∉kl:=by simpa using y
 have C:=S8 T l5;obtain⟨rfl,E,es,f,hb,r,ab⟩:=a8f hr C hm;obtain⟨key,l⟩:=b4q (x:=px) (by rw[c3];exact S);obtain rfl:=b3G l R;obtain⟨l1,M⟩:=r.list;split at a
 . rename_i i F;simp only[s7,s9]at a;obtain⟨rfl,rfl⟩:=a;obtain⟨_,q⟩:=find_spec (w:=w) u c3 l l1 M F;obtain⟨e,U,O,V⟩:=q i rfl;have H:es[i]?=some e:=(by simpa using U);have I:(do Instr.mapUpdate t (.map (some (G.β (root k)))) x v;pure Next.skip:Sem Next).run P w=.ok .skip {w with heap:=w.heap.setIfInBounds (G.β (root k)) (.map (es.modify i fun e=>{e with key:=x,val:=v}) f)}:=by
    simp[Instr.mapUpdate,run_underlying K,MapKept.run_getObj_map hb,a7z u c3 l,V,H,O,c7x l,MapKept.run_setObj_map _ hb,Result.andThen]
   obtain⟨G',w1,w2,w3⟩:=c0M (q':=f) hr (N:=i) (es':=es.modify i fun e=>{e with key:=x,val:=v}) (ks':=ks) (vs':=vs.set i d) C hb J L y (r.modify i _ (fun A o=>by rw[H]at o;cases o;exact O.symm)) (by rw[a4D];exact E) (fun c b=>by have W:i<vs.length:=(by have:=(B8.1 b).1;simpa using this);rw[F8 W]at b;cases b;rfl) ⟨{e with key:=x,val:=v},by rw[b4L,if_pos rfl,H];rfl,rfl⟩ (fun j c hj b=>by rw[F7 (Ne.symm hj)]at b;exact b) (fun j A hj o=>⟨A,by rw[b4L,if_neg (Ne.symm hj)];exact o,rfl⟩)
   exact⟨.skip,undef,_,G',I,.inr ⟨rfl,rfl⟩,w1,w2,K9,w3⟩
 . rename_i F;simp only[s7,s9]at a;obtain⟨rfl,rfl⟩:=a;obtain⟨q,_⟩:=find_spec (w:=w) u c3 l l1 M F;have I:(do Instr.mapUpdate t (.map (some (G.β (root k)))) x v;pure Next.skip:Sem Next).run P w=.ok .skip {w with heap:=w.heap.setIfInBounds (G.β (root k)) (.map (es.push {key:=x,val:=v,born:=f}) (f+1))}:=by
    simp[Instr.mapUpdate,run_underlying K,MapKept.run_getObj_map hb,a7z u c3 l,q rfl,MapKept.run_setObj_map _ hb,Result.andThen]
   obtain⟨G',w1,w2,w3⟩:=c0M (q':=f+1) hr (N:=es.size) (es':=es.push {key:=x,val:=v,born:=f}) (ks':=ks++[px]) (vs':=vs++[d]) C hb J L y (r.push l) (by simp[E]) (fun c b=>by
    rw[r.1,E,a3X (m9 _),a6L]at b;cases b;rfl) ⟨{key:=x,val:=v,born:=f},l5,rfl⟩ (fun j c hj b=>by
    by_cases X:j<vs.length
    . rw[a1k X]at b;exact b
    . have:=(B8.1 b).1;have h1:=r.1;simp at this;omega) (fun j A hj o=>by
    have Y:j<es.size:=(a2I.1 o).1;exact⟨A,by rw[Array.getElem?_push_lt Y,←o];exact(Array.getElem?_eq_getElem _).symm,rfl⟩)
   exact⟨.skip,undef,_,G',I,.inr ⟨rfl,rfl⟩,w1,w2,K9,w3⟩
 . cases a
theorem c2b{o:Obj}(hb:w.heap[b]?=some o):({w with heap:=w.heap.setIfInBounds b o}:World)=w:=by
 have:w.heap.setIfInBounds b o=w.heap:=by
  apply Array.ext_getElem?;intro i;by_cases hi:i=b
  . subst hi;rw[(heap_set hb).1,hb]
  . exact(heap_set hb).2 i hi
 rw[this]
theorem c9d(hr:s6 B Z0 G h w){o sz:Nat}(N:mapA P t=some (n,z,s))(ac:0<sz)(u:o<h.length∧hide.contains o=false)(hm:j8 G h w D m pm)(O:j8 G h w D x px)(d:a5t (l8 h hide) o n sz z pm px=some (p,ws)):
 Good P B Z0 G h w (do pure (.value (←Instr.lookup t m x false))) p ws:=by
 unfold a5t at d;split at d
 case h_2=>cases d
 rename_i k g;split at d
 case h_2=>cases d
 rename_i v fr ks vs ad;split at d
 case isFalse=>cases d
 rename_i l;obtain⟨rfl,c3,c4,ae⟩:=l;have y:=S8 ad l5;have af:k<h.length:=(B8.1 y).1;obtain⟨rfl,ag,es,ah,hb,E,F⟩:=a8f hr y hm;have plain:∀{q:Eff},a3L n false z px ks vs=some q→Good P B Z0 G h w (do pure (.value (←Instr.lookup t (.map (some (G.β (root k)))) x false))) q.1 q.2:=fun{q} ai=>
  b0l (p:=q.1) (ws:=q.2) hr N (.inr ⟨_,rfl,hb⟩) O E (fun i c l H=>by obtain⟨e,aj,a2⟩:=F i c l;exact⟨e,aj,(a4W (b4G H)).1 a2⟩) ai
 split at d
 . rename_i i A;split at d
   . rename_i ns Q;split at d
     case isFalse=>cases d
     rename_i ak;subst ak;split at d
     case h_2=>cases d
     rename_i g3 I;split at d
     case isFalse=>cases d
     rename_i R;obtain⟨J,al⟩:=R;simp only[s7,s9]at d;obtain⟨rfl,rfl⟩:=d;obtain⟨kt,aH,am,S,an,aI⟩:=b2Q N;obtain⟨key,K⟩:=b4q (x:=px) (by rw[c3];exact an);obtain rfl:=b3G K O;obtain⟨l1,ao⟩:=E.list;obtain⟨_,q⟩:=find_spec (w:=w) S c3 K l1 ao A;obtain⟨e,ap,aJ,aq⟩:=q i rfl;have U:es[i]?=some e:=(by simpa using ap);have ar:=aq;have au:(Instr.lookup t (.map (some (G.β (root k)))) x false).run P w=.ok e.val w:=by simp[Instr.lookup,run_underlying am,MapKept.run_getObj_map hb,a7z S c3 K,ar,Result.andThen]
     have av:h[o]?=some (g3,.dead):=by unfold l8 at I;rw[if_neg (by rw[u.2];simp),u9,m7 u.1]at I;rw[m7 u.1];exact congrArg some I
     obtain⟨L,V,r⟩:=F i _ Q;have:L=e:=(by rw[U]at V;exact(a0c V).symm);subst this;have W:i<vs.length:=(B8.1 Q).1;unfold a0n at r;have aK:=r;unfold O8 at r;have C:G.R (nest k i 0):=Classical.byContradiction fun M=>by have:=(r.2 M).2;subst this;simp at J
     obtain⟨aw,T2,f,c,v1,ax,ay,aL,az,aA,X,aM,Y⟩:=r.1 C;obtain⟨A1,A2,A3⟩:=b7F (q':=ah) hr y hb (es':=es) (ks':=ks) (vs':=vs.set i .any) E (by rw[a4D];exact ag) (fun j c l=>by
      by_cases Z:i=j
      . subst Z;rw[F8 W]at l;cases l;refine⟨L,U,?_⟩;unfold a0n D;unfold j8;rw[v1];exact⟨rfl,rfl⟩
      . rw[F7 Z]at l;exact F j c l)
     rw[c2b hb]at A1 A2;have aa:G.σ (nest k i 0)=sz:=by have q:=(Y 0 ns[0] (m7 J)).1;have:=B0.1 al ns[0] (B7 J);simp at this;omega
     rw[aa]at X;have aB:(h.set k (v,.mp false ks (vs.set i .any)))[k]?=some (v,.mp false ks (vs.set i .any)):=F8 af;obtain⟨B1,B2⟩:=c1U (i:=i) A1 aB (fun aN e=>by rw[F8 W]at e;cases e);have aC:(h.set k (v,.mp false ks (vs.set i .any)))[o]?=some (g3,.dead):=(by rw[F7 ae];exact av);obtain⟨C1,C2⟩:=b9n B1 (us:=aw) (T:=T2) (b:=G.β (nest k i 0)) (γ0:=G.γ (nest k i 0)) (sz:=sz) (ns:=ns) aC (hr.lv _ C).1 (hr.nz k v _ y rfl _ C) (fun key ab e=>ab.1 (hr.inj _ _ ab.2 C e)) aA i9 az ac X (fun a e aD=>by obtain⟨r1,r2⟩:=Y a e aD;rw[aa]at r1 r2;exact⟨r1,fun j aE aF=>r2 j aE aF⟩)
     refine⟨.value L.val,_,w,_,by simp[au,Result.andThen],.inl rfl,C1,A2.trans (B2.trans C2),?_,Bl.refl _ _⟩;rw[v1];unfold D;unfold j8;refine⟨_,c,rfl,ay,i9,.inr ⟨_,_,rfl⟩,g3+1,_,F8 (by simpa using u.1),m9 _,fun _ aO vr aP es' e=>?_⟩;cases e;exact⟨m9 _,fun _=>⟨i9,fun _=>⟨f,by simp[Gh.a1h],ax.imp id fun h _=>i9,i9,by simp[Gh.a1h];omega⟩,fun M=>absurd (.inl rfl) M⟩⟩
   . rename_i c R aG;split at d
     case isFalse=>cases d
     rename_i H;simp only[s7,s9]at d;obtain⟨rfl,rfl⟩:=d;exact plain (q:=(c,[])) (by unfold a3L;rw[if_pos ⟨c3,c4⟩,A];simp only[];rw[aG];simp only[];rw[if_pos H];rfl)
   . cases d
 . rename_i A;simp only[s7,s9]at d;obtain⟨rfl,rfl⟩:=d;exact plain (q:=(z,[])) (by unfold a3L;rw[if_pos ⟨c3,c4⟩,A];rfl)
 . cases d
end
end
section
variable{P:Program}{B:Nat}{Z0:Nat→Prop}{G G':Gh}{h h':l7}{w w':World}
theorem c3e{op:BinOp}{t e:TypeId}{x y:Operand}{v u:Value}{p q:PV}{r:Bool}(k:op=.eql∨op=.neq)(hu:P.underlying t=some (.pointer e))(c:j8 G h w D v p)(hw:j8 G h w D u q)(i:a9T q=true)(g:a9L p=some r):
 ∃z,(do eqGuard op t x y v u;Go.binOp op t v u:Sem Value).run P w=.ok z w∧j8 G h w D z (.bool ((op==.neq) !=r)):=by
 have l:u=.pointer none:=by
  unfold a9T at i;split at i
  . unfold D at hw;unfold j8 at hw;exact hw.1
  . cases i
 subst l;have key:∃a,v=.pointer a∧a.isNone=r:=by
  unfold a9L at g;split at g
  . cases g;unfold D at c;unfold j8 at c;exact⟨none,c.1,rfl⟩
  . cases g;unfold D at c;unfold j8 at c;obtain⟨b,rfl,_⟩:=c;exact⟨_,rfl,rfl⟩
  . cases g;unfold D at c;unfold j8 at c;obtain⟨b,f,rfl,_⟩:=c;exact⟨_,rfl,rfl⟩
  . cases g;unfold D at c;unfold j8 at c;obtain⟨b,f,rfl,_⟩:=c;exact⟨_,rfl,rfl⟩
  . cases g;unfold D at c;unfold j8 at c;obtain⟨b,f,rfl,_⟩:=PR.a3l.1 c;exact⟨_,rfl,rfl⟩
  . cases g
 obtain⟨a,rfl,rfl⟩:=key;have he:(Op.equal t (.pointer a) (.pointer none)).run P w=.ok a.isNone w:=by
  have hd:∀d:Nat,(Op.equalIn (d+1) t (.pointer a) (.pointer none)).run P w=.ok a.isNone w:=fun d=>by cases a<;>simp[Op.equalIn,run_underlying hu]
  exact hd 9999
 rcases k with rfl|rfl
 . refine⟨.bool a.isNone,?_,by rw[show((BinOp.eql==BinOp.neq) !=a.isNone)=a.isNone by cases a<;>rfl];exact a1l⟩;have j:(eqGuard .eql t x y (.pointer a) (.pointer none)).run P w=.ok () w:=(by simp[eqGuard]);simp only[O3,j,S6,Go.binOp,he,a1I]
 . refine⟨.bool (!a.isNone),?_,by rw[show((BinOp.neq==BinOp.neq) !=a.isNone)=!a.isNone by cases a<;>rfl];exact a1l⟩;have j:(eqGuard .neq t x y (.pointer a) (.pointer none)).run P w=.ok () w:=(by simp[eqGuard]);simp only[O3,j,S6,Go.binOp,he,a1I]
theorem a8u:j8 G h w D (.tuple #[]) (.tup []):=by unfold D;unfold j8;exact⟨#[],rfl,rfl,fun i c a=>by simp at a⟩
theorem c3n(hr:s6 B Z0 G h w){hide:List Nat}{t ty kt f:TypeId}{m:Value}{pm p:PV}{ws:List (Nat×Row)}(hu:P.underlying t=some (.map kt f))(hm:j8 G h w D m pm)(a:a6R (l8 h hide) pm=some (p,ws)):
 Good P B Z0 G h w (do pure (.value (←Builtin.clear_ #[t] ty #[m]))) p ws:=by
 unfold a6R at a;split at a
 . rename_i k g;split at a
   . rename_i o fr ks vs j;split at a
     . rename_i b;obtain⟨rfl,rfl⟩:=b;simp only[s7,s9]at a;obtain⟨rfl,rfl⟩:=a;have d:=S8 j l5;obtain⟨rfl,q,es,e,hb,r,s⟩:=a8f hr d hm;obtain⟨A1,A2,A3⟩:=b7F (q':=e) hr d hb (es':= #[]) (ks':=[]) (vs':=[]) ⟨rfl,fun i x l=>by simp at l⟩ rfl (fun i c b=>by simp at b);have n:(Builtin.clear_ #[t] ty #[.map (some (G.β (root k)))]).run P w=.ok (.tuple #[]) {w with heap:=w.heap.setIfInBounds (G.β (root k)) (.map #[] e)}:=by
        simp[Builtin.clear_,run_underlying hu,MapKept.run_getObj_map hb,MapKept.run_setObj_map _ hb,Result.andThen]
       exact⟨.value (.tuple #[]),_,_,G,by simp[n,Result.andThen],.inl rfl,A1,A2,a8u,A3⟩
     . cases a
   . cases a
 . simp only[s7,s9]at a;obtain⟨rfl,rfl⟩:=a;unfold D at hm;unfold j8 at hm;obtain⟨rfl,_⟩:=hm;exact a3P hr (v:=.tuple #[]) (by simp[Builtin.clear_,run_underlying hu]) a8u
 . cases a
theorem c6T(hr:s6 B Z0 G h w){hide:List Nat}{t ty e:TypeId}{x:Value}{z M p:PV}{ws:List (Nat×Row)}(hu:P.underlying t=some (.slice e))(hs:I8 P e=some 1)(ac:a0A P e=some z)(aC:(l9 z).length=1)
 (C:j8 G h w D x M) (b:a6U (l8 h hide) z M=some (p,ws)):Good P B Z0 G h w (do pure (.value (←Builtin.clear_ #[t] ty #[x]))) p ws:=by
 unfold a6U at b;split at b
 . simp only[s7,s9]at b;obtain⟨rfl,rfl⟩:=b;obtain rfl:=a0v C;exact a3P hr (v:=.tuple #[]) (by simp[Builtin.clear_,run_underlying hu]) a8u
 . rename_i k g ver i j o l;split at b
   case h_2=>cases b
   rename_i I s ver' fr es ad;split at b
   case isFalse=>cases b
   rename_i J;obtain⟨rfl,rfl,rfl,rfl,N⟩:=J;split at b
   case h_2=>cases b
   rename_i r he;split at b
   case h_2=>cases b
   rename_i ns n;split at b
   case isFalse=>cases b
   rename_i J;obtain⟨rfl,ae⟩:=J;simp only[s7,s9]at b;obtain⟨rfl,rfl⟩:=b;have E:=S8 ad l5;obtain⟨inf,zv,af,z2,z3⟩:=a4M ac;obtain⟨z4,z5⟩:=a8i (G:=G) (h:=h) (w:=w) z3;have O:l9 z=[z]:=by cases z<;>first|rfl|(simp[A9]at N)
   obtain⟨ag,Q⟩:=a6d (G:=G) (h:=h) (w:=w) z3;rw[O]at ag Q;obtain⟨u0,aD,R,S⟩:=Q 0 z rfl;have ah:zv.cells= #[u0]:=(by grind);unfold D at C;unfold j8 at C;obtain⟨a,c,rfl,aE,aF,aG,gn,ob,U,aH,ai⟩:=C;rw[E]at U;cases U;obtain⟨_,aj⟩:=ai rfl _ _ _ _ rfl;obtain⟨aI,V,_,ak,aJ⟩:=aj rfl;rw[a4s he n]at V;cases V;obtain⟨aK,us,T,aL,aM,aN,al⟩:=a3p hr E he;obtain⟨aO,aP,W⟩:=al j _ n;unfold H4 O8 at W;have hj:=(B8.1 n).1;have am:l9 (N0 r j [.uslc (List.replicate ns.length z)])=(l9 r).set j (.uslc (List.replicate ns.length z)):=by rw[b0t I2 l5 (fun d hd _=>by simp at hd;subst hd;rfl)];rfl
   by_cases an:ns.length=0
   . have ao:ns=[]:=a0V.1 an;subst ao;have ap:es.set i (N0 r j [.uslc (List.replicate ([]:List PV).length z)])=es:=by
      have:N0 r j [.uslc (List.replicate ([]:List PV).length z)]=r:=by
       cases r
       case agg cs=>
        simp only[l9]at n;simp only[N0,a1M];congr 1;obtain⟨_,aq⟩:=B8.1 n;rw[show PV.uslc (List.replicate ([]:List PV).length z)=PV.uslc []from rfl,←aq];exact b4N _
       all_goals
        simp only[l9]at n;cases j with
        |zero=>first
         |(simp at n;done)
         |(simp at n;subst n;rfl)
        |succ j=>simp at n
      rw[this];exact b8t he
     have A:h.set k (I,.arr s ver' false es)=h:=b8t E;rw[ap];have K:(Builtin.clear_ #[t] ty #[.slice a ([]:List PV).length c]).run P w=.ok (.tuple #[]) w:=by cases a<;>simp[Builtin.clear_,run_underlying hu]
     refine⟨.value (.tuple #[]),_,w,G,by simp only[O3,K,S6,a1I],.inl rfl,?_,?_,a8u,Bl.refl _ _⟩
     . show s6 B Z0 G (h.set k (I,.arr s ver' false es)) w;rw[A];exact hr
     . show Ext G h w G (h.set k (I,.arr s ver' false es)) w;rw[A];exact Ext.refl
   have F:G.R (nest k i j):=(by grind);obtain⟨H,T2,aQ,aR,rfl,aS,aT,aU,aV,L,ar,aW,au⟩:=W.1 F;obtain⟨f,rfl,aX⟩:=ak F;have X:G.σ (nest k i j)=1:=by have Y:ns[0]?=some (ns[0]'i9):=m7 i9;have av:=(au 0 _ Y).1;have:=a3G ae Y;omega
   have aw:f=0:=i9;subst aw;have Z:=c1G ah ns.length;have aa:=a6r (fun _=>u0) ns.length;have ab:0+(Y2 (fun _=>u0) ns.length).length≤H.size:=by rw[aa,ar,X];omega
   have A:=run_storeCells_at P (G.β (nest k i j)) 0 T2 (Y2 (fun _=>u0) ns.length) 0 H w L i9 (fun u hu=>by obtain⟨q,av,rfl⟩:=E5.1 hu;exact a7H R S)
   have K:(Builtin.clear_ #[t] ty #[.slice (some ⟨G.β (nest k i j),0,none⟩) ns.length c]).run P w=.ok (.tuple #[]) (w.setRow (G.β (nest k i j)) (a0j H 0 (Y2 (fun _=>u0) ns.length))):=by
    obtain⟨m,hm⟩:∃m,ns.length=m+1:=⟨ns.length-1,i9⟩
    simp only[a4B]at A;rw[hm]at Z A⊢;simp[Builtin.clear_,run_underlying hu,zeroValue,typeInfo,af,z2,Z,A,a0j]
   obtain⟨ax,ay⟩:=b8c (us':=a0j H 0 (Y2 (fun _=>u0) ns.length)) hr E he n F L rfl am l5 (a6I ab) (fun m y aY=>by have hm:m<ns.length:=(by grind);have az:y=z:=(by grind);subst az;rw[X,O];refine⟨rfl,fun l c0 aA=>?_⟩;have aB:l=0:=(by grind);subst aB;cases aA;refine⟨R,u0,?_,a4f N S⟩;rw[a3B ab,if_pos (by rw[aa];omega)];rw[show m*1+0-0=m by omega];exact a3h hm)
   exact⟨.value (.tuple #[]),_,_,G,by simp only[O3,K,S6,a1I],.inl rfl,ax,ay,a8u,a6p (Bl.refl _ _) (hr.lv _ F).1 _ L⟩
 . cases b
end
section
variable{P:Program}{B:Nat}{Z0:Nat→Prop}{G G':Gh}{h h':l7}{w w':World}
theorem a5s{α β:Type}{f:α→Option β}:∀{l:List α} {m:List β},N4 f l=some m→l.length=m.length∧∀(i:Nat) a,l[i]?=some a→∃b,m[i]?=some b∧f a=some b
 | [],m,c=>by simp[N4]at c;subst c;exact⟨rfl,fun i a h=>by simp at h⟩
 |a::l,m,c=>by
  simp only[N4]at c;split at c
  . rename_i b e h1 d;cases c;obtain⟨g,j⟩:=a5s d
    grind
  . cases c
theorem a5A{rd:Operand→Option A0}{ρ:Operand→Value}{b:A0→PV}(c:∀x d,rd x=some d→j8 G h w D (ρ x) (b d)){x:Option Operand}{d:Option A0}(a:a3D rd x=some d):OV G h w (x.map ρ) (d.map b):=by
 cases x with
 |none=>simp[a3D]at a;subst a;trivial
 |some x=>
  simp only[a3D]at a;obtain⟨e,h1,rfl⟩:=D0.1 a;exact c x e h1
theorem b3M{mx:Bool}{k:IntKind}:∀{l:List Value} {ps:List PV} {m n:Int},l.length=ps.length→(∀(i:Nat) p,ps[i]?=some p→∃v,l[i]?=some v∧j8 G h w D v p)→a5T mx m ps=some n→
 (l.foldlM (if mx then Builtin.max2 else Builtin.min2) (.int k m)).run P w=.ok (.int k n) w
 | [],ps,m,n,b,c,a=>by
  have:ps=[]:=a0V.1 b.symm;subst this;simp[a5T]at a;subst a;rfl
 |v::l,[],m,n,b,c,a=>by simp at b
 |v::l,p::ps,m,n,b,c,a=>by
  cases p<;>(try (simp[a5T]at a;done))
  case int f y=>
   obtain⟨g,h1,e⟩:=c 0 _ rfl;simp at h1;subst h1;obtain rfl:=a0f e;simp only[a5T]at a;have d:=b3M (k:=k) (l:=l) (by simpa using b) (fun i p hp=>c (i+1) p (by simpa using hp)) a;simp only[List.foldlM_cons];cases mx
   . simp only[a3W,if_false]at d a⊢;simp[Builtin.min2,d]
   . simp only[if_true]at d a⊢;simp[Builtin.max2,d]
theorem a1D(hr:s6 B Z0 G h w){s:Sem Value}{p:PV}(hs:∃v,s.run P w=.ok v w∧j8 G h w D v p):Good P B Z0 G h w (do pure (.value (←s))) p []:=
 let⟨_,h1,h2⟩:=hs;a3P hr h1 h2
theorem b2s{rd:Operand→Option A0}{ρ:Operand→Value}{e:A0→PV}(g:∀x d,rd x=some d→j8 G h w D (ρ x) (e d)){place:Nat→Option (Nat×Nat)}{f:Nat×Operand→Option (Nat×Nat×A0)}
 (i:∀a b,f a=some b→place a.1=some (b.1,b.2.1)∧rd a.2=some b.2.2):∀{ps:List (Nat×Operand)} {l:List (Nat×Nat×A0)},N4 f ps=some l→a7d G h w place (ps.map fun x=>(x.1,ρ x.2)) (l.map fun x=>(x.1,x.2.1,e x.2.2))
 | [],l,c=>by simp[N4]at c;subst c;exact .nil
 |a::ps,l,c=>by
  simp only[N4]at c;split at c
  . rename_i b m h1 j;cases c;obtain⟨k,n⟩:=i a b h1;exact .cons k (g _ _ n) (b2s g i j)
  . cases c
theorem b1k{rd:Operand→Option A0}{ρ:Operand→Value}{e:A0→PV}(f:∀x d,rd x=some d→j8 G h w D (ρ x) (e d)):∀{ps:List (Nat×Operand)} {l:List (Nat×A0)},N4 (fun(p:Nat×Operand)=>(rd p.2).map fun x=>(p.1,x)) ps=some l→a4L G h w (ps.map fun x=>(x.1,ρ x.2)) (l.map fun x=>(x.1,e x.2))
 | [],l,c=>by simp[N4]at c;subst c;exact .nil
 |a::ps,l,c=>by
  simp only[N4]at c;split at c
  . rename_i b m h1 g;cases c;obtain⟨d,i,rfl⟩:=D0.1 h1;exact .cons (f _ _ i) (b1k f g)
  . cases c
theorem b9Q:∀{b:List Field} {l:List (Nat×Nat)},a7W P b=some l→b.mapM (fun f=>(P.info? f.type).map fun i=>(f.offset,i.size))=some l
 | [],l,a=>by simp[a7W]at a;subst a;rfl
 |f::b,l,a=>by
  simp only[a7W]at a;split at a
  . rename_i i m h1 c;cases a;simp[List.mapM_cons,h1,b9Q c]
  . cases a
theorem b9w{rd:Operand→Option A0}{s:Nat}:∀{L:List (Nat×Operand)} {l:List (Nat×A0)},N4 (fun(p:Nat×Operand)=>(rd p.2).map fun x=>(p.1,x)) L=some l→N4 (fun(p:Nat×Operand)=>(rd p.2).map fun x=>(p.1*s,s,x)) L=some (l.map fun p=>(p.1*s,s,p.2))
 | [],l,c=>by simp[N4]at c;subst c;rfl
 |a::L,l,c=>by
  simp only[N4]at c;split at c
  . rename_i b m e f;cases c;obtain⟨d,g,rfl⟩:=D0.1 e;simp only[N4,g,a2o,b9w f,a0N]
  . cases c
theorem c9C{A:Array Value}{cs:List PV}(a:J4 (fun u c=>one c=true∧j8 G h w D u c) A cs):j8 G h w D (.agg A) (.agg cs):=
 a5W (a.mono fun _ _ y=>one_cell y.1 y.2)
theorem b7Z(hr:s6 B Z0 G h w){t:TypeId}{z:PV}{place:Nat→Option (Nat×Nat)}{parts:Array (Nat×Value)}{xs:List (Nat×Nat×PV)}{cs:List PV}(d:a0A P t=some z)
 (hp:a7d G h w place parts.toList xs) (e:a6m (l9 z) xs=some cs) (hb:∀i v A,P.info? t=some i→i.zero=some v→Instr.fill place v.cells parts.toList=some A→P.built t parts.toList=some A):
 ∃v,(Instr.build t parts).run P w=.ok v w∧j8 G h w D v (.agg cs):=by
 obtain⟨i,v,h1,f,g⟩:=a4M d;have j:=a6d (G:=G) (h:=h) (w:=w) g;obtain⟨A,k,l⟩:=c9Y (R:=fun u c=>one c=true∧j8 G h w D u c) (fun u c a b=>⟨a,b⟩) hp j e;exact⟨_,run_build w t parts A (hb i v A h1 f k),c9C l⟩
theorem b7Q(hr:s6 B Z0 G h w){hide:List Nat}{ρ:Operand→Value}{ac:A0→PV}{rd:Operand→Option A0}(F:∀x d,rd x=some d→j8 G h w D (ρ x) (ac d)){o:Oper}{k:Nat}{app:Nat×Option Nat}{al:Bool}{ao:N9}{p:PV}{ws:List (Nat×Row)}
 (E:a2M P rd k app al o.type o.op=some ao) (R:∀j,j∈I0 ao→j<h.length∧hide.contains j=false) (C:B3 ac (l8 h hide) ao=some (p,ws)):Good P B Z0 G h w (execOp ρ o) p ws:=by
 obtain⟨dst,op,type,pos,after,guard⟩:=o;cases op<;>simp only[a2M]at E<;>(try (cases E;done))<;>simp only[execOp]
 case move x|assign x=>
  obtain⟨d,h1,rfl⟩:=D0.1 E;simp only[B3,s7,s9]at C;obtain⟨rfl,rfl⟩:=C;exact a3b hr rfl (F _ _ h1)
 case makeMap t r=>
  cases r with
  |some r=>
   simp only[]at E;split at E
   . rename_i hu;obtain⟨d,h1,rfl⟩:=D0.1 E;simp only[B3,a2o]at C;split at C
     . rename_i e;cases e
     . rename_i bk n e;simp only[s7,s9]at C e;obtain⟨rfl,rfl⟩:=C;have L:=F _ _ h1;rw[e]at L;have L:=a0f L;exact b5w hr (R k (by simp[I0])) t (by simp[Instr.makeMap,run_underlying hu,L,Go.asInt,asIntOf,Result.andThen])
     . cases C
   . cases E
  |none=>
   cases E;simp only[B3,Option.map_none,s7,s9]at C;obtain⟨rfl,rfl⟩:=C;exact b5w hr (R k (by simp[I0])) t (by simp[Instr.makeMap])
 case lookup t m x ok=>
  split at E
  . rename_i kt z s aK N h0 h1 H;cases E;split at C
    . rename_i aA;obtain⟨_,aL,hs⟩:=id aA;subst aL;refine c9d hr h0 (Nat.pos_of_ne_zero hs) (R k ?_) (F _ _ h1) (F _ _ H) C;rw[if_pos aA];simp[I0]
    . exact c6c hr h0 (F _ _ h1) (F _ _ H) C
  . cases E
 case mapUpdate t m x v|insert t m x v=>
  split at E
  . rename_i kt z s aK N aM h0 h1 H I;cases E;exact c9U hr h0 (F _ _ h1) (F _ _ H) (F _ _ I) C
  . cases E
 case pick c a b=>
  split at E
  . rename_i aN aB aO h1 H I;cases E;simp only[B3]at C;split at C
    . rename_i t aP;simp only[s7,s9]at C;obtain⟨rfl,rfl⟩:=C;have hb:=F _ _ h1;rw[aP]at hb;have:=a1f hb;refine a3b hr (v:=if t then ρ a else ρ b) (by simp[this,asBool]) ?_;cases t
      . exact F _ _ I
      . exact F _ _ H
    . cases C
  . cases E
 case alloc e=>
  split at E
  . obtain⟨z,h1,rfl⟩:=D0.1 E;simp only[B3]at C;split at C
    . rename_i hp;simp only[s7,s9]at C;obtain⟨rfl,rfl⟩:=C;exact c7f hr (R k (by simp[I0])) h1 rfl hp.1 hp.2.1 hp.2.2
    . cases C
  . obtain⟨z,h1,rfl⟩:=D0.1 E;simp only[B3]at C;split at C
    . simp only[s7,s9]at C;obtain⟨rfl,rfl⟩:=C;exact c6A hr (R k (by simp[I0])) h1
    . cases C
 case box e x=>
  split at E
  . obtain⟨d,h1,rfl⟩:=D0.1 E;simp only[B3]at C;split at C
    . rename_i hp;simp only[s7,s9]at C;obtain⟨rfl,rfl⟩:=C;exact c4E hr (R k (by simp[I0])) (F _ _ h1) hp.1 hp.2.1 hp.2.2
    . cases C
  . obtain⟨d,h1,rfl⟩:=D0.1 E;simp only[B3]at C;split at C
    . rename_i ap;simp only[s7,s9]at C;obtain⟨rfl,rfl⟩:=C;exact c9W hr (R k (by simp[I0])) (F _ _ h1) ap
    . cases C
 case build t ps=>
  split at E
  . rename_i z aQ h1 H;split at E
    . rename_i aq I;split at E
      . rename_i l J;cases E;simp only[B3]at C;split at C
        . rename_i cs K;simp only[s7,s9]at C;obtain⟨rfl,rfl⟩:=C;have aR:=b2s (G:=G) (h:=h) (w:=w) (place:=fun i=>aq.toArray[i]?) F (f:=fun(p:Nat×Operand)=>match aq[p.1]?,rd p.2 with
           |some q,some x=>some (q.1,q.2,x)
           |_,_=>none) (fun a b ad=>by
            try dsimp only at ad
            split at ad
            . grind
            . cases ad) J
          refine a1D hr (b7Z hr (place:=fun i=>aq.toArray[i]?) h1 (by simpa using aR) K fun i v A g1 g2 g3=>?_);unfold Program.built;simp only[g1,H,g2,b9Q I];exact g3
        . cases C
      . cases E
    . cases E
  . rename_i z n e h1 H;split at E
    . rename_i s l I J;cases E;simp only[B3]at C;split at C
      . rename_i cs K;simp only[s7,s9]at C;obtain⟨rfl,rfl⟩:=C;obtain⟨X,U,rfl⟩:=a2d I;refine a1D hr (b7Z hr (place:=fun i=>some (i*X.size,X.size)) h1 ?_ K fun i v A g1 g2 g3=>?_)
        . have:=b2s (G:=G) (h:=h) (w:=w) (place:=fun i=>some (i*X.size,X.size)) F (f:=fun(p:Nat×Operand)=>(rd p.2).map fun x=>(p.1*X.size,X.size,x)) (fun a b ad=>by
           obtain⟨d,V,rfl⟩:=D0.1 ad;exact⟨rfl,V⟩) (ps:=ps.toList) (l:=l.map fun p=>(p.1*X.size,X.size,p.2)) ?_
          . simpa using this
          . exact b9w J
        . unfold Program.built;simp only[g1,H,g2,U];exact g3
      . cases C
    . cases E
  . cases E
 case buildSlice t n ps=>
  split at E
  . rename_i e h1;split at E
    . rename_i s z l H I J;split at E
      . rename_i W;obtain⟨c1,c2,c3⟩:=W;simp only[s7]at E;split at E
        . subst E;simp only[B3,c1,if_false]at C;split at C
          . rename_i es K;split at C
            . rename_i aS;simp only[s7,s9]at C;obtain⟨rfl,rfl⟩:=C;exact c3m hr h1 H I c1 c2 c3 (by simpa using b1k F J) K aS
            . cases C
          . cases C
        . split at E
          . rename_i aT;obtain⟨rfl,aU,_⟩:=aT;obtain rfl:=a0V.1 aU;subst E;simp only[B3,a7J,if_true,s7,s9]at C;obtain⟨rfl,rfl⟩:=C;exact c6B hr h1 H I c1 c3 (by simpa using b1k F J)
          . subst E;simp only[B3]at C;split at C
            . rename_i es K;simp only[s7,s9]at C;obtain⟨rfl,rfl⟩:=C;exact c3i hr (R k (by simp[I0])) h1 H I c1 c2 c3 (by simpa using b1k F J) K
            . cases C
      . cases E
    . cases E
  . cases E
 case load t a=>
  split at E
  . rename_i g s d h1 H I;split at E
    . simp only[s7]at E;split at E
      . subst E;simp only[B3]at C;split at C
        . rename_i bl bm o' aV;split at C
          . rename_i r J;simp only[s7,s9]at C;obtain⟨rfl,rfl⟩:=C;exact a1D hr (a7Y hr h1 H (F _ _ I) (by rw[aV];exact J))
          . cases C
        . cases C
      . split at E
        . rename_i Q;obtain⟨rfl,_⟩:=Q;subst E;simp only[B3]at C;split at C
          . rename_i r J;simp only[s7,s9]at C;obtain⟨rfl,rfl⟩:=C;exact a1D hr (b9e hr h1 H (F _ _ I) J)
          . cases C
        . subst E;simp only[B3]at C;split at C
          . rename_i r J;simp only[s7,s9]at C;obtain⟨rfl,rfl⟩:=C;exact a1D hr (a7Y hr h1 H (F _ _ I) J)
          . cases C
    . cases E
  . cases E
 case store t a v=>
  split at E
  . rename_i s aB aM h1 H I;split at E
    . rename_i h0;simp only[s7]at E;split at E
      . subst E;simp only[B3]at C;split at C
        . rename_i aW J;simp only[s7,s9]at C;obtain⟨rfl,rfl⟩:=C;exact c8x hr h1 h0 (F _ _ H) (F _ _ I) J
        . cases C
      . subst E;simp only[B3]at C;split at C
        . rename_i aW J;simp only[s7,s9]at C;obtain⟨rfl,rfl⟩:=C;exact b3w hr h1 h0 (F _ _ H) (F _ _ I) J
        . cases C
    . cases E
  . cases E
 case nilCheck x=>
  obtain⟨d,h1,rfl⟩:=D0.1 E;have L:=F _ _ h1;simp only[B3]at C;split at C
  all_goals first|(cases C;done)|skip
  all_goals
   rename_i he;simp only[s7,s9]at C;obtain⟨rfl,rfl⟩:=C
   first
    |rw[he]at L
    |skip
  . have O:=L;unfold D at O;unfold j8 at O;obtain⟨b,hb,_⟩:=O;rw[he,hb];rw[hb]at L;exact a3b hr rfl L
  . have O:=L;unfold D at O;unfold j8 at O;obtain⟨b,f,hb,_⟩:=O;rw[he,hb];rw[hb]at L;exact a3b hr rfl L
  . have O:=L;unfold D at O;unfold j8 at O;obtain⟨b,f,hb,_⟩:=O;rw[he,hb];rw[hb]at L;exact a3b hr rfl L
  . have O:=L;unfold D at O;unfold j8 at O;obtain⟨b,f,hb,_⟩:=PR.a3l.1 O;rw[he,hb];rw[hb]at L;exact a3b hr rfl L
  . obtain⟨vs,us,hb,K,M⟩:=a9g L;rw[hb]at L⊢;exact a3b hr rfl L
 case binOp op t x y bn=>
  split at E
  . split at E
    . split at E
      . rename_i N am h1 H;cases E;simp only[B3]at C;split at C
        . rename_i r I;simp only[s7,s9]at C;obtain⟨rfl,rfl⟩:=C;exact a1D hr (b7g (F _ _ h1) (F _ _ H) I)
        . cases C
      . cases E
    . rename_i ar _;split at E
      . rename_i Z;split at E
        . rename_i N am h1 H;cases E;simp only[B3]at C;split at C
          . rename_i b I au;simp only[s7,s9]at C;obtain⟨rfl,rfl⟩:=C;have ae:=F _ _ H;rw[au]at ae;rw[a0v ae];unfold b8O at Z;split at Z
            . rename_i e hu;exact a1D hr (c3M ar hu (F _ _ h1) I)
            . cases Z
          . cases C
        . cases E
      split at E
      . rename_i Z;split at E
        . rename_i N am h1 H;cases E;simp only[B3]at C;split at C
          . rename_i b I;split at C
            case isFalse=>cases C
            rename_i au;simp only[s7,s9]at C;obtain⟨rfl,rfl⟩:=C;unfold c0o at Z;split at Z
            . rename_i e hu;exact a1D hr (c3e ar hu (F _ _ h1) (F _ _ H) au I)
            . cases Z
          . cases C
        . cases E
      split at E
      . rename_i ts N am h0 h1 H;cases E;simp only[B3]at C;split at C
        . rename_i l m af ag;split at C
          . rename_i b I;simp only[s7,s9]at C;obtain⟨rfl,rfl⟩:=C;have S:=F _ _ h1;have ae:=F _ _ H;rw[af]at S;rw[ag]at ae;exact a1D hr (c2V ar h0 S ae I)
          . cases C
        . cases C
      . cases E
  . split at E
    . rename_i N am h1 H;cases E;simp only[B3]at C;split at C
      . rename_i r I;simp only[s7,s9]at C;obtain⟨rfl,rfl⟩:=C;exact a1D hr (b7g (F _ _ h1) (F _ _ H) I)
      . cases C
    . cases E
 case unOp op t x=>
  obtain⟨d,h1,rfl⟩:=D0.1 E;simp only[B3]at C;split at C
  . rename_i r I;simp only[s7,s9]at C;obtain⟨rfl,rfl⟩:=C;exact a1D hr (c1y (F _ _ h1) I)
  . cases C
 case convert s d x=>
  split at E
  . rename_i bo bp h1 H;obtain⟨N,I,rfl⟩:=D0.1 E;simp only[B3]at C;split at C
    . rename_i kk n he;simp only[s7,s9]at C;obtain⟨rfl,rfl⟩:=C;have L:=F _ _ I;rw[he]at L;have:=a0f L;rw[this];refine a1D hr ⟨_,?_,a0Q⟩;simp[convert,run_underlying h1,run_underlying H,Conv.intToInt]
    . cases C
  . rename_i e h1 H;split at E
    . rename_i h0;split at E
      . obtain⟨N,I,rfl⟩:=D0.1 E;simp only[B3]at C;split at C
        . rename_i news av J;split at C
          . rename_i aX K;simp only[s7,s9]at C;obtain⟨rfl,rfl⟩:=C;exact a1D hr (c9e hr h1 h0 H (F _ _ I) J K)
          . cases C
        . cases C
      . cases E
    . cases E
  . cases E
 case makeSlice t l c=>
  split at E
  . rename_i e h1;split at E
    . rename_i s b z dl aN H I J K M;split at E
      . rename_i W;obtain⟨c1,c2,c3⟩:=W;cases E;simp only[B3]at C;split at C
        . rename_i vl bq af ag;split at C
          . rename_i W;obtain⟨d1,d2,d3,d4⟩:=W;simp only[s7,s9]at C;obtain⟨rfl,rfl⟩:=C;have ah:=F _ _ K;have aC:=F _ _ M;rw[af]at ah;rw[ag]at aC;rw[a0f ah,a0f aC];exact c4I hr (R k (by simp[I0])) h1 H I J c1 c2 d1 d2 d3 d4
          . cases C
        . cases C
      . cases E
    . cases E
  . cases E
 case slice t x lo hi mx=>
  split at E
  . rename_i h1;split at E
    . rename_i N aD aE aY H I J K;cases E;simp only[B3]at C;split at C
      . rename_i r M;simp only[s7,s9]at C;obtain⟨rfl,rfl⟩:=C;exact a1D hr (c6e h1 (F _ _ H) (a5A F I) (a5A F J) (a5A F K) M)
      . cases C
    . cases E
  . rename_i e h1;split at E
    . rename_i s N aD aE aY aZ H I J K;cases E;simp only[B3]at C;split at C
      . rename_i r M;simp only[s7,s9]at C;obtain⟨rfl,rfl⟩:=C;exact a1D hr (c4K h1 aZ (F _ _ H) (a5A F I) (a5A F J) (a5A F K) M)
      . cases C
    . cases E
  . split at E
    . rename_i N aD aE H I J;obtain⟨y,K,rfl⟩:=D0.1 E;simp only[B3]at C;split at C
      . rename_i r M;simp only[s7,s9]at C;obtain⟨rfl,rfl⟩:=C;exact a1D hr (c6y K (F _ _ H) (a5A F I) (a5A F J) M)
      . cases C
    . cases E
  . cases E
 case fieldAddr s x f=>
  split at E
  . rename_i fd h1;split at E
    . rename_i z d H I;split at E
      . rename_i h0;cases E;simp only[B3]at C;split at C
        . rename_i r J;simp only[s7,s9]at C;obtain⟨rfl,rfl⟩:=C;obtain⟨b,o,K,M⟩:=b2S (F _ _ I) J;rw[K];exact a3P hr (c5m h1 H h0) M
        . cases C
      . cases E
    . cases E
  . cases E
 case field t x f=>
  split at E
  . rename_i fd h1;split at E
    . rename_i g s d H I J;split at E
      . rename_i h0;cases E;simp only[B3]at C;split at C
        . rename_i cs he;split at C
          . rename_i r K;simp only[s7,s9]at C;obtain⟨rfl,rfl⟩:=C;have L:=F _ _ J;rw[he]at L;obtain⟨vs,M,aa⟩:=a5L L;obtain⟨u,a0,a1⟩:=c8K (P:=P) H I aa K;obtain⟨aQ,U,V⟩:=b7i h1;rw[M];exact a3P hr (by simp[Instr.field,run_underlying U,V,asAgg,a0]) a1
          . cases C
        . cases C
      . cases E
    . cases E
  . cases E
 case indexAddr t x i=>
  split at E
  . rename_i e h1;split at E
    . rename_i s N aF H I J;split at E
      . cases E;simp only[B3]at C;split at C
        . rename_i kk n he;split at C
          . rename_i r K;simp only[s7,s9]at C;obtain⟨rfl,rfl⟩:=C;have hi:=F _ _ J;rw[he]at hi;rw[a0f hi];exact a1D hr (c3J h1 H (F _ _ I) K)
          . cases C
        . cases C
      . cases E
    . cases E
  . rename_i n e h1;split at E
    . rename_i s N aF H I J;split at E
      . cases E;simp only[B3]at C;split at C
        . rename_i kk m he;split at C
          . rename_i hm;split at C
            . rename_i r K;simp only[s7,s9]at C;obtain⟨rfl,rfl⟩:=C;have hi:=F _ _ J;rw[he]at hi;obtain⟨b,o,M,aa⟩:=c3a (F _ _ I) K;rw[a0f hi,M];exact a3P hr (c6r h1 H hm.1 hm.2) aa
            . cases C
          . cases C
        . cases C
      . cases E
    . cases E
  . cases E
 case index t x i=>
  split at E
  . rename_i h1;split at E
    . rename_i N aF H I;cases E;simp only[B3]at C;split at C
      . rename_i kk m aw af ag;split at C
        . rename_i hm;split at C
          . rename_i b J;simp only[s7,s9]at C;obtain⟨rfl,rfl⟩:=C;have hi:=F _ _ I;have S:=F _ _ H;rw[af]at hi;rw[ag]at S;rw[a0f hi,a2W S];have K:aw[m.toNat]?=some b:=by
             have a2:=(B8.1 J).1;have a3:m.toNat<aw.size:=(by simpa using a2);rw[getElem?_pos aw m.toNat a3];have M:=(B8.1 J).2;rw[←M];simp;rfl
            refine a3P hr ?_ a0Q;simp[Instr.index,run_underlying h1,asIntOf,hm,K]
          . cases C
        . cases C
      . cases C
    . cases E
  . cases E
 case extract x i=>
  obtain⟨d,h1,rfl⟩:=D0.1 E;simp only[B3]at C;split at C
  . rename_i cs he;split at C
    . rename_i r H;simp only[s7,s9]at C;obtain⟨rfl,rfl⟩:=C;have L:=F _ _ h1;rw[he]at L;obtain⟨vs,I,J⟩:=a8l L;obtain⟨u,K,M⟩:=J.2 _ _ H;rw[I];exact a3P hr (by simp[Instr.extract,K]) M.up
    . cases C
  . cases C
 case makeFunc fn a b=>
  split at E
  . rename_i aB aO h1 H;cases E;simp only[B3]at C;split at C
    . rename_i aG;simp only[s7,s9]at C;obtain⟨rfl,rfl⟩:=C;have ah:∀{l:Array Operand} {m:List A0},N4 rd l.toList=some m→(m.map ac).all one=true→J4 (j8 G h w 5) (l.map ρ) (m.map ac):=fun{l m} hm ap=>by
       obtain⟨U,V⟩:=a5s hm;refine⟨by simpa using U,fun i c aH=>?_⟩;rw[H6]at aH;obtain⟨d,hd,rfl⟩:=D0.1 aH;have hi:i<l.toList.length:=(by grind);obtain⟨aI,Y,ai⟩:=V i _ (m7 hi);rw[hd]at Y;cases Y;refine⟨ρ l.toList[i],?_,one_cell (B0.1 ap _ (E5.2 ⟨d,D4 hd,rfl⟩)) (F _ _ ai)⟩;have a4:i<l.size:=(by simpa using hi);simp[a4]
      refine a3P hr (v:=.func fn (a.map ρ) (b.map ρ)) (by simp[Instr.makeFunc]) ?_;unfold D;unfold j8;exact⟨_,_,rfl,ah h1 aG.1,ah H aG.2⟩
    . cases C
  . cases E
 case call c=>
  obtain⟨callee,args,argTypes⟩:=c;cases callee<;>simp only[]at E
  case invoke=>cases E
  case value f=>
   cases f<;>simp only[]at E
   case func f=>
    split at E
    . split at E
      . cases E;simp[B3]at C
      . cases E
    . split at E
      . cases E;simp[B3]at C
      . cases E
   all_goals
    split at E
    . cases E;cases al<;>simp[B3]at C
    . cases E
  case builtin b=>
   have a5:∀n w',(builtin b argTypes type (args.map fun| .const _=>true|_=>false) (args.map ρ)).run P w=.ok n w'→(do let d ←resolve ρ {callee:=.builtin b,args:=args,argTypes:=argTypes} type;invoke d.target d.args:Sem Next).run P w=.ok n w':=fun n w' a6=>by simp only[resolve,O3,a1I,S6,invoke];exact a6
   have conv:∀{p ws},Good P B Z0 G h w (builtin b argTypes type (args.map fun| .const _=>true|_=>false) (args.map ρ)) p ws→Good P B Z0 G h w (do let d ←resolve ρ {callee:=.builtin b,args:=args,argTypes:=argTypes} type;invoke d.target d.args:Sem Next) p ws:=fun{p ws} ⟨n,v,w',G',g1,g2⟩=>⟨n,v,w',G',a5 n w' g1,g2⟩
   refine conv ?_
   generalize a7:args.toList=A at E;generalize a8:argTypes.toList=T at E;have a9:args=A.toArray:=(by rw[←a7]);have ba:argTypes=T.toArray:=(by rw[←a8]);subst a9 ba;unfold a8U at E;split at E
   ·
    rename_i x t;split at E
    . rename_i hu;obtain⟨d,h1,rfl⟩:=D0.1 E;simp only[B3]at C;split at C
      . rename_i n H;simp only[s7,s9]at C;obtain⟨rfl,rfl⟩:=C;exact a3b hr (by simp[builtin,b8J (P:=P) (t:=t) (ty:=type) (by simpa using hu) (F _ _ h1) H]) a0Q
      . cases C
    . rename_i e hu;obtain⟨d,h1,rfl⟩:=D0.1 E;simp only[B3]at C;split at C
      . rename_i n H;simp only[s7,s9]at C;obtain⟨rfl,rfl⟩:=C;exact a3b hr (by simp[builtin,b8J (P:=P) (t:=t) (ty:=type) (by grind) (F _ _ h1) H]) a0Q
      . cases C
    . cases E
   ·
    rename_i x xs t ts;split at E
    . rename_i bb ax hu h1;cases E;simp only[B3]at C;split at C
      . rename_i kk n r he;split at C
        . rename_i m H;simp only[s7,s9]at C;obtain⟨rfl,rfl⟩:=C;obtain⟨U,V⟩:=a5s h1;have ab:∀(i:Nat) p,(ax.map ac)[i]?=some p→∃v,((x::xs).map ρ)[i]?=some v∧j8 G h w D v p:=fun i p hp=>by
           rw[H6]at hp;obtain⟨d,hd,rfl⟩:=D0.1 hp;have hi:i<(x::xs).length:=(by grind);obtain⟨aI,Y,ai⟩:=V i _ (m7 hi);rw[hd]at Y;cases Y;exact⟨ρ (x::xs)[i],by rw[H6,m7 hi];rfl,F _ _ ai⟩
          rw[he]at ab;obtain⟨v0,aj,ay⟩:=ab 0 _ rfl;have S:ρ x=.int kk n:=(by simp at aj;rw[aj];exact a0f ay);have az:(xs.map ρ).length=r.length:=by have:=congrArg List.length he;simp at this U;simp;omega
          have ak:=b3M (P:=P) (mx:=false) (k:=kk) az (fun i p hp=>ab (i+1) p (by simpa using hp)) H;refine a3b hr ?_ (a0Q (k:=kk) (i:=m));simp[builtin,Builtin.min_,S];simp at ak;simp[ak]
        . cases C
      . cases C
    . cases E
   ·
    rename_i x xs t ts;split at E
    . rename_i bb ax hu h1;cases E;simp only[B3]at C;split at C
      . rename_i kk n r he;split at C
        . rename_i m H;simp only[s7,s9]at C;obtain⟨rfl,rfl⟩:=C;obtain⟨U,V⟩:=a5s h1;have ab:∀(i:Nat) p,(ax.map ac)[i]?=some p→∃v,((x::xs).map ρ)[i]?=some v∧j8 G h w D v p:=fun i p hp=>by
           rw[H6]at hp;obtain⟨d,hd,rfl⟩:=D0.1 hp;have hi:i<(x::xs).length:=(by grind);obtain⟨aI,Y,ai⟩:=V i _ (m7 hi);rw[hd]at Y;cases Y;exact⟨ρ (x::xs)[i],by rw[H6,m7 hi];rfl,F _ _ ai⟩
          rw[he]at ab;obtain⟨v0,aj,ay⟩:=ab 0 _ rfl;have S:ρ x=.int kk n:=(by simp at aj;rw[aj];exact a0f ay);have az:(xs.map ρ).length=r.length:=by have:=congrArg List.length he;simp at this U;simp;omega
          have ak:=b3M (P:=P) (mx:=true) (k:=kk) az (fun i p hp=>ab (i+1) p (by simpa using hp)) H;refine a3b hr ?_ (a0Q (k:=kk) (i:=m));simp[builtin,Builtin.max_,S];simp at ak;simp[ak]
        . cases C
      . cases C
    . cases E
   ·
    rename_i s x t u;split at E
    . rename_i e hu;split at E
      . rename_i sz br z bs N h1 H I J K;split at E
        . rename_i W;obtain⟨c1,c2,c3,c4,c5⟩:=W;obtain rfl:u=t:=c4;cases E;simp only[B3]at C;split at C
          . rename_i news av M;split at C
            case isFalse=>cases C
            . rename_i an;simp only[a9r,G4]at an;obtain⟨⟨bc,_⟩,bd⟩:=an;split at C
              . rename_i be bf aa;simp only[s7,s9]at C;obtain⟨rfl,rfl⟩:=C;have Q:=c5b (P:=P) (ty:=type) hr (R _ (by simp[I0])) hu h1 H I c3 c1 c2 (F _ _ J) c5 (F _ _ K) M (by simpa using bd) (by simpa using bc) aa;simpa[builtin]using Q
              . cases C
          . cases C
        . split at E
          case isFalse=>cases E
          rename_i _ W;obtain⟨rfl,c2,c3,c4⟩:=W;have bg:z=.int .u8 0:=by
           unfold c0s at c3;split at c3
           . simp only[beq_iff_eq]at c3;rw[c3]
           . cases c3
          subst bg;unfold c0N at c4;split at c4
          case h_2=>cases c4
          rename_i bh;cases E;simp only[B3]at C;split at C
          . rename_i news av M;split at C
            case isFalse=>cases C
            . rename_i an;simp only[a9r,G4]at an;split at C
              . rename_i be bf aa;simp only[s7,s9]at C;obtain⟨rfl,rfl⟩:=C;have aJ:=F _ _ K;unfold a1Q at M;rw[if_pos rfl]at M;unfold a8m at M;split at M
                case h_2=>cases M
                rename_i aX bi;simp only[s7,s9]at M;obtain⟨rfl,rfl⟩:=M;rw[bi]at aJ;have S:=a2W aJ;have Q:=c9k (P:=P) (ty:=type) hr (R _ (by simp[I0])) hu bh h1 H I c2 (F _ _ J) aa;simpa[builtin,S]using Q
              . cases C
          . cases C
      . cases E
    . cases E
   ·
    split at E
    . rename_i bj hu;split at E
      . rename_i sz d s h1 H I;split at E
        . rename_i h0;cases E;simp only[B3]at C;split at C
          . rename_i news av J;have Q:=fun u=>c6g (P:=P) (ty:=type) (u:=u) hr hu h1 h0 (F _ _ H) (F _ _ I) J C;simp[builtin]at Q⊢;exact Q _
          . cases C
        . cases E
      . cases E
    . cases E
   ·
    split at E
    . rename_i kt bt hu;obtain⟨d,h1,rfl⟩:=D0.1 E;have Q:=c3n (P:=P) (ty:=type) hr hu (F _ _ h1) C;simpa[builtin]using Q
    . rename_i bj hu;split at E
      . rename_i z d h1 H;split at E
        . rename_i h0;cases E;have Q:=c6T (P:=P) (ty:=type) hr hu h0.1 h1 h0.2.1 (F _ _ H) C;simpa[builtin]using Q
        . cases E
      . cases E
    . cases E
   . cases E
end
section
variable{v:Value}{Z':Nat→Prop}{k:Nat}{hide:List Nat}{p:PV}
def G0(Z:Nat→Prop):Gh:={β:=fun _=>0,R:=fun _=>False,γ:=fun _=>0,σ:=fun _=>0,Z:=Z}
section
variable{P:Program}{B:Nat}{Z0:Nat→Prop}{G G':Gh}{h h':l7}{w w':World}
theorem c3z(hr:s6 B Z0 G h w)(E:∀b,G.Z b→Z' b){g s ver i j l:Nat}{fr:Bool}{es:List PV}{e:PV}{ns:List PV}(p:h[k]?=some (g,.arr s ver fr es))(he:es[i]?=some e)(q:(l9 e)[j]?=some (.uslc ns))(F:l≤ns.length)
 (H:∀y,G.R (k,y)→Z' (G.β (k,y))) (m:j8 G h w D v (.nown k g ver i j 0 l)):PR Z' w v (.slc (ns.take l)):=by
 unfold D at m;unfold j8 at m;obtain⟨a,c,rfl,I,r,J,gn,ob,z,aa,K⟩:=m;rw[p]at z;cases z;obtain⟨_,L⟩:=K rfl _ _ _ _ rfl;obtain⟨ab,A,ac,M,ad⟩:=L rfl;rw[a4s he q]at A;cases A;have hlen:(ns.take l).length=l:=I2;by_cases N:l=0
 . subst N;refine PR.U8.2 ⟨a,c,0,l5,l5,r,?_,fun i e he=>by simp at he⟩;rcases J with⟨_,h1⟩|⟨b,f,h1⟩
   . exact fun _=>h1
   . intro C;rw[h1]at C;cases C
 . obtain⟨ae,us,T,af,ag,ah,O⟩:=a3p hr p he;obtain⟨u0,ai,n⟩:=O j _ q;unfold H4 O8 at n;have o:G.R (nest k i j):=Classical.byContradiction fun P=>by
    obtain⟨_,rfl⟩:=n.2 P;simp at F;omega
   obtain⟨aj,T2,ak,al,_,_,am,an,ao,Q,ap,aq,R⟩:=n.1 o;obtain⟨f,rfl,ar⟩:=M o;have S:f=0:=i9;subst S;refine PR.U8.2 ⟨some ⟨G.β (nest k i j),0,none⟩,c,G.σ (nest k i j),by rw[hlen],by rw[hlen];exact I,r,fun e=>absurd e l5,fun a d hd=>?_⟩;have U:a<l:=(by grind);rw[a0y,if_pos U]at hd;obtain⟨V,W⟩:=R a d hd;refine⟨V,_,_,rfl,H _ o,fun t x X=>?_⟩;obtain⟨Y,u,p4,Z⟩:=W t x X;refine⟨Y,u,?_,Z.mono E fun _ _=>rfl⟩;rw[a0Y Q,V9];exact p4
theorem b2k(hr:s6 B Z0 G h w)(q:∀b,G.Z b→Z' b){n:Nat}(x:a5i (l8 h hide) p=true→∀key,G.R key→Z' (G.β key))(F:(∀cs,p≠ .agg cs)∧(∀cs,p≠ .tup cs)∧∀f a b,p≠ .fn f a b)(r:j8 G h w n v p)(m:Nat):j8 (G0 Z') [] w m v (fzC (l8 h hide) p):=by
 have d:j8 G h w D v p:=r.cell F;cases p<;>simp only[fzC]<;>(try exact K9)
 case bool=>obtain rfl:=a1f r;exact a1l
 case int=>obtain rfl:=a0f r;exact a0Q
 case str=>obtain rfl:=a2W r;exact a5u
 case lit=>unfold D at d;unfold j8 at d;cases m<;>(unfold j8;exact d)
 case nils=>obtain rfl:=a0v r;exact a0T (PR.U8.2 ⟨none,0,0,rfl,m9 _,D6 _,fun _=>rfl,fun i e he=>by simp at he⟩)
 case ne=>
  unfold D at d;unfold j8 at d;obtain⟨b,o,rfl⟩:=d;exact a0T (PR.U8.2 ⟨some ⟨b,o,none⟩,0,0,rfl,m9 _,D6 _,fun _=>rfl,fun i e he=>by simp at he⟩)
 case slc es=>exact a0T ((a3q r).mono q fun _ _=>rfl)
 case N3 ks vs=>exact a6W ((a8I r).mono q fun _ _=>rfl)
 case fptr cs=>exact a4R ((a9h r).mono q fun _ _=>rfl)
 case own k g H s o l=>
  split
  . rename_i E s' ver fr es c;split
    . rename_i u;obtain⟨rfl,z,rfl,A⟩:=u;split
      . rename_i hp;have C:∀y,G.R (k,y)→Z' (G.β (k,y)):=fun y t=>by
         cases fr with
         |true=>exact q _ (hr.fz k _ _ (S8 c l5) rfl y t)
         |false=>exact x (by simp[a5i,c]) _ t
        exact a0T (c0Z hr q (S8 c l5) z A hp C d)
      . split
        . rename_i hp;obtain⟨rfl,hp⟩:=hp;exact a0T (c2Q hr q (S8 c l5) z A hp (x (by simp[a5i,c])) d)
        . exact K9
    . exact K9
  . exact K9
 case osl k g H s o l=>
  split
  . rename_i E s' ver fr es c;split
    . rename_i u;obtain⟨rfl,z,rfl,A,hp⟩:=u;have C:∀y,G.R (k,y)→Z' (G.β (k,y)):=fun y t=>by
       cases fr with
       |true=>exact q _ (hr.fz k _ _ (S8 c l5) rfl y t)
       |false=>exact x (by simp[a5i,c]) _ t
      exact a0T (b0T hr q (S8 c l5) z A hp C d)
    . exact K9
  . exact K9
 case nown k g ver i j o l=>
  split
  . rename_i E s' ver' fr es c;split
    . rename_i u;obtain⟨rfl,rfl⟩:=u;split
      . rename_i e he;split
        . rename_i ns I;split
          . rename_i J;obtain⟨rfl,K⟩:=J;exact a0T (c3z hr q (S8 c l5) he I K (fun y t=>x rfl _ t) d)
          . exact K9
        . exact K9
      . exact K9
    . exact K9
  . exact K9
theorem c3w(hr:s6 B Z0 G h w)(y:∀b,G.Z b→Z' b)(A:a5i (l8 h hide) p=true→∀key,G.R key→Z' (G.β key))(H:(∀cs,p≠ .agg cs)∧(∀cs,p≠ .tup cs)∧∀f a b,p≠ .fn f a b)(m:j8 G h w D v p):j8 (G0 Z') [] w D v (fzP (l8 h hide) p):=by
 cases p<;>simp only[fzP]
 case ptr k g o=>
  have q:=A rfl;split
  . rename_i I cs C;split
    . rename_i d;obtain⟨rfl,hp⟩:=d;have t:=S8 C l5;unfold D at m;unfold j8 at m;obtain⟨b,rfl,gn,ob,h1,J,E⟩:=m;rw[t]at h1;cases h1;obtain rfl:=E rfl cs rfl;obtain⟨z,us,T,K,X,L⟩:=hr.ob k _ _ t;refine a4R (PR.a3l.2 ⟨_,o,rfl,q _ z,fun j c d=>?_⟩);rw[H6]at d;obtain⟨c0,n,rfl⟩:=D0.1 d;rw[a1V]at n;obtain⟨u,M,N,O⟩:=L _ _ n;have l:=B0.1 hp _ (E5.2 ⟨c0,D4 (by rw[a1V];exact n),rfl⟩);refine⟨a3U l,u,by rw[a0Y K];exact M,a4f (G:=G0 Z') l (b2k (hide:=hide) hr y (fun _=>q) (b0B (c0g N fun f a b e=>by subst e;simp[fzC,A9]at l)) O D)⟩
    . exact K9
  . exact K9
 case eptr k g Y s i j=>
  have q:=A rfl;split
  . rename_i I s' ver fr es C;split
    . rename_i d;obtain⟨rfl,P,rfl,rfl⟩:=d;split
      . rename_i e he;split
        . rename_i hp;have t:=S8 C l5;unfold D at m;unfold j8 at m;obtain⟨b,f,rfl,gn,ob,h1,J,E⟩:=m;rw[t]at h1;cases h1;obtain⟨Z,Q⟩:=E rfl _ _ _ _ rfl;obtain⟨rfl,F,aa⟩:=Q P;have F:=F rfl;subst F;obtain⟨ab,ac,ad,R,ae⟩:=hr.ob k _ _ t;by_cases z:G.R (root k)
          . obtain⟨us,T,S,af,U⟩:=R z;obtain⟨ag,V⟩:=U i e he;refine a4R (PR.a3l.2 ⟨_,_,rfl,q _ z,fun j c d=>?_⟩);rw[H6]at d;obtain⟨c0,n,rfl⟩:=D0.1 d;have l:=B0.1 hp _ (E5.2 ⟨c0,D4 n,rfl⟩);obtain⟨u,W,x⟩:=V j c0 n;refine⟨a3U l,u,by rw[a0Y S,a4B];exact W,?_⟩;cases c0<;>simp only[K8]at l⊢ <;>(try (simp[A9]at l;done))
            case uslc ns=>exact b6J y (fun r=>q _ r) x
            case nils=>
             unfold H4 at x;obtain rfl:=a0v x.2;exact PR.U8.2 ⟨none,0,0,rfl,m9 _,D6 _,fun _=>rfl,fun i e he=>by simp at he⟩
            all_goals
             unfold H4 at x;exact(a4f l x.2).mono y fun _ _=>rfl
          grind
        . exact K9
      . exact K9
    . exact K9
  . exact K9
 all_goals exact b2k (hide:=hide) hr y A H m D
theorem c6x(hr:s6 B Z0 G h w)(d:∀b,G.Z b→Z' b)(f:a2c (l8 h hide) p=true→∀key,G.R key→Z' (G.β key))(g:j8 G h w D v p):j8 (G0 Z') [] w D v (fzV (l8 h hide) p):=by
 cases p
 case agg cs=>
  obtain⟨vs,rfl,h1,l⟩:=a5L g;refine a5W ⟨by simpa using h1,fun i c j=>?_⟩;rw[H6]at j;obtain⟨c0,k,rfl⟩:=D0.1 j;obtain⟨u,m,n⟩:=l i c0 k;refine⟨u,m,?_⟩;have hu:∀(c:PV),fzC (l8 h hide) c=.uu→j8 (G0 Z') [] w 5 u (fzC (l8 h hide) c):=fun c e=>by rw[e];exact K9
  cases c0
  case agg|tup|fn=>exact K9
  all_goals exact b2k (hide:=hide) hr d (fun a=>f (List.any_eq_true.2 ⟨_,D4 k,a⟩)) (by grind) n 5
 case tup|fn=>exact K9
 all_goals exact c3w (hide:=hide) hr d (fun a=>f (by simpa[a2c,l9]using a)) (by grind) g
end
def a1b(szs:List Nat)(p:Nat):Nat×Nat:=(p,szs.getD p 0)
def a0M(szs:List Nat)(r:PV):l7:=p8 (List.replicate (B9 r).length (0,.dead)) (J9 (a1b szs) (fun _=>1) 0 (B9 r))
def a1U(P:Program)(f:FuncId):Bool:=match P.funcs[f]? with
 |some fn=>!(fn.name== "runtime.NumGoroutine")&&fn.body.isSome
 |none=>false
def Fn(P:Program)(f:FuncId)(szs:List Nat)(args:List PV)(r:PV):Prop:=
 a1U P f=true∧∀(w:World) (Z:Nat→Prop) (a:Array Value),(∀b,Z b→W4 w b)→J4 (j8 (G0 Z) [] w D) a args→
  Calls P f a w fun e w'=>∃v G,e=.returned v∧Bl w.heap.size w w'∧s6 w.heap.size Z G (a0M szs r) w'∧j8 G (a0M szs r) w' D v (Z9 (a1b szs) (fun _=>1) r)
def FI(P:Program)(v:PV)(args:List PV)(h:l7)(r:PV)(ws:List (Nat×Row)):Prop:=
 ∃f first cap,v=.fn (.func f) first cap∧a1U P f=true∧(first.all one&&cap.all one)=true∧∀(B:Nat) (Z0:Nat→Prop) (G:Gh) (w:World) (a b c:Array Value),s6 B Z0 G h w→J4 (j8 G h w D) a first→J4 (j8 G h w D) b args→J4 (j8 G h w D) c cap→
  Calls P f (a++b++c) w fun e w'=>∃u G',e=.returned u∧s6 B Z0 G' (p8 h ws) w'∧Ext G h w G' (p8 h ws) w'∧j8 G' (p8 h ws) w' D u r∧Bl B w w'
def fz(ρ:Option Nat):Fence:={Fence.wide with round:=ρ}
def ItR(B:Nat)(Z0:Nat→Prop)(b:Option Q7→Gh→l7→World→Prop)(k:Option Q7→l7→Prop)(G:Gh)(h:l7)(w:World):Ending→World→Prop:=fun e w'=>
 ∃p h' G',e=.returned (.bool p.isNone)∧k p h'∧s6 B Z0 G' h' w'∧Ext G h w G' h' w'∧b p G' h' w'∧w.heap.size≤w'.heap.size∧∀m a,a0u m a w→a0u m a w'
def IT(P:Program)(v:PV)(Y:YT)(h:l7)(K:Option Q7→l7→Prop):Prop:=
 ∃f cap,v=.fn (.func f) [] cap∧a1U P f=true∧cap.all one=true∧∀(B:Nat) (Z0:Nat→Prop) (G:Gh) (w:World) (b:Array Value) (l:Nat) (a:Option Q7→Gh→l7→World→Prop),
  s6 B Z0 G h w→J4 (j8 G h w D) b cap→
  (∀{p:Option Q7} {G:Gh} {h:l7} {w:World} {G':Gh} {h':l7} {w':World},a p G h w→Ext G h w G' h' w'→Bl B w w'→a p G' h' w')→
  (∀{Z1:Nat→Prop} {p:Option Q7} {G:Gh} {h:l7} {w1 w2:World},s6 B Z1 G h w1→a p G h w1→Y7 w.heap.size w1 w2→a p G h w2)→
  (∀{args:List PV} {h1:l7} {k:Option Q7→l7→Prop},Y args h1 k→∀{G1:Gh} {w1:World} {c:Array Value},s6 B Z0 G1 h1 w1→a none G1 h1 w1→J4 (j8 G1 h1 w1 D) c args→∀n,YieldAt (fz none) n P l c w1 (ItR B Z0 a k G1 h1 w1))→
  a none G h w→
  Calls P f (#[.func (.yield l) #[] #[]]++b) w fun e w'=>∃u p h' G',e=.returned u∧K p h'∧s6 B Z0 G' h' w'∧Ext G h w G' h' w'∧a p G' h' w'
theorem IT.mono{P:Program}{v:PV}{Y:YT}{h:l7}{K K':Option Q7→l7→Prop}(j:∀p h,K p h→K' p h)(hi:IT P v Y h K):IT P v Y h K':=by
 obtain⟨f,cap,h1,a,b,c⟩:=hi;refine⟨f,cap,h1,a,b,fun B Z0 G w d l e g a2 a3 a4 a5 i=>(c B Z0 G w d l e g a2 a3 a4 a5 i).mono ?_⟩
 grind
def fyI(P:Program):PV→List PV→List PV→l7→(PV→List PV→l7→Prop)→Prop:=fun v args vars h K=>∃r ws,FI P v args h r ws∧K r vars (p8 h ws)
abbrev fns(P:Program):N7:=⟨Fn P,FI P,fyI P,IT P,fun a ⟨r,ws,h1,b⟩=>⟨r,ws,h1,a _ _ _ b⟩,fun a h=>h.mono a⟩
section
variable{P:Program}{B:Nat}{Z0:Nat→Prop}{G G':Gh}{h h':l7}{w w':World}
theorem b0n{ks:Nat→Nat×Nat}{gen:Nat→Nat}:∀{cells:List PV} {q:Nat} {x:Nat×Row},x∈J9 ks gen q cells→∃i es,cells[i]?=some (.uslc es)∧x=((ks (q+i)).1,(gen (ks (q+i)).1,.arr (ks (q+i)).2 0 false es))
 | [],q,x,a=>by simp[J9]at a
 |c::cells,q,x,a=>by
  have rest:x∈J9 ks gen (q+1) cells→∃i es,(c::cells)[i]?=some (.uslc es)∧x=((ks (q+i)).1,(gen (ks (q+i)).1,.arr (ks (q+i)).2 0 false es)):=fun a=>by obtain⟨i,es,h1,b⟩:=b0n a;exact⟨i+1,es,by simpa using h1,by rw[b,show q+(i+1)=q+1+i by omega]⟩
  cases c<;>simp only[J9]at a<;>(try exact rest a)
  case uslc es=>
   rcases a0p.1 a with rfl|a
   . exact⟨0,es,rfl,rfl⟩
   . exact rest a
theorem a5r{ks:Nat→Nat×Nat}{gen:Nat→Nat}:∀{cells:List PV} {q i:Nat} {es:List PV},cells[i]?=some (.uslc es)→((ks (q+i)).1,(gen (ks (q+i)).1,Ob.arr (ks (q+i)).2 0 false es))∈J9 ks gen q cells
 | [],q,i,es,hi=>by simp at hi
 |c::cells,q,0,es,hi=>by simp at hi;subst hi;simp[J9]
 |c::cells,q,i+1,es,hi=>by have:=a5r (ks:=ks) (gen:=gen) (q:=q+1) (show cells[i]?=some (.uslc es)by simpa using hi);rw[show q+(i+1)=q+1+i by omega];cases c<;>simp only[J9]<;>first|exact this|exact a5e _ this
theorem a5n:∀{l:List Nat},a3f l=true→l.Nodup
 | [],_=>List.nodup_nil
 |k::l,a=>by simp only[a3f,G4]at a;refine a4E.2 ⟨by simpa using a.1,a5n a.2⟩
theorem b2l:∀{ws:List (Nat×Row)} {h:l7} {k:Nat} {r:Row},(ws.map (·.1)).Nodup→(k,r)∈ws→k<h.length→(p8 h ws)[k]?=some r
 | [],h,k,r,_,hm,_=>by simp at hm
 |x::ws,h,k,r,a,hm,b=>by
  simp only[a0N,a4E]at a;rw[show p8 h (x::ws)=p8 (h.set x.1 x.2) ws from rfl];rcases a0p.1 hm with rfl|hm
  . rw[a5q ws _ _ a.1,F8 b]
  . exact b2l a.2 hm (by simpa using b)
theorem b6c{szs:List Nat}:∀(cells:List PV) (q:Nat),((J9 (a1b szs) (fun _=>1) q cells).map (·.1)).Nodup∧∀k∈(J9 (a1b szs) (fun _=>1) q cells).map (·.1),q≤k
 | [],q=>by simp[J9]
 |c::cells,q=>by
  obtain⟨h1,b⟩:=b6c (szs:=szs) cells (q+1);cases c<;>simp only[J9]<;>(try exact⟨h1,fun k a=>by have:=b k a;omega⟩);refine⟨?_,fun k a=>?_⟩
  . simp only[a0N,a4E];exact⟨fun hm=>by have:=b _ hm;simp[a1b]at this;omega,h1⟩
  . simp only[a0N,a0p]at a;rcases a with rfl|a
    all_goals grind
theorem a9o{szs:List Nat}{r:PV}{p:Nat}{es:List PV}(hp:(B9 r)[p]?=some (.uslc es)):(a0M szs r)[p]?=some (1,.arr (szs.getD p 0) 0 false es):=by have hm:=a5r (ks:=a1b szs) (gen:=fun _=>1) (q:=0) hp;unfold a0M;have:=b2l (h:=List.replicate (B9 r).length (0,Ob.dead)) (b6c _ 0).1 hm (by simpa[a1b]using(B8.1 hp).1);simpa[a1b]using this
noncomputable def R2(ks:Nat→Nat×Nat)(cells:List PV)(k:Nat):Option Nat:=
 @dite _ (∃p es,cells[p]?=some (.uslc es)∧(ks p).1=k) (Classical.propDecidable _) (fun a=>some a.choose) fun _=>none
theorem c2u{ks:Nat→Nat×Nat}{cells:List PV}{p:Nat}(hj:R2 ks cells k=some p):∃es,cells[p]?=some (.uslc es)∧(ks p).1=k:=by
 unfold R2 at hj;split at hj
 . grind
 . cases hj
theorem c0U{ks:Nat→Nat×Nat}{cells:List PV}(hj:R2 ks cells k=none):∀p es,cells[p]?=some (.uslc es)→(ks p).1≠k:=by
 unfold R2 at hj;split at hj
 . cases hj
 . grind
theorem b5Z{ks:Nat→Nat×Nat}{gen:Nat→Nat}:∀{cells:List PV} {q:Nat},((J9 ks gen q cells).map (·.1)).Nodup→∀{i j:Nat} {es es':List PV},cells[i]?=some (.uslc es)→cells[j]?=some (.uslc es')→(ks (q+i)).1=(ks (q+j)).1→i=j
 | [],q,_,i,j,es,es',hi,_,_=>by simp at hi
 |c::cells,q,a,i,j,es,es',hi,hj,he=>by
  have tail:((J9 ks gen (q+1) cells).map (·.1)).Nodup:=by cases c<;>simp only[J9]at a<;>first|exact a|(simp only[a0N,a4E]at a;exact a.2)
  cases i with
  |zero=>
   cases j with
   |zero=>rfl
   |succ j=>
    exfalso;simp at hi;subst hi;simp only[J9,a0N,a4E]at a;apply a.1;have:=a5r (ks:=ks) (gen:=gen) (q:=q+1) (show cells[j]?=some (.uslc es')by simpa using hj);refine E5.2 ⟨_,this,?_⟩;rw[show q+1+j=q+(j+1)by omega];exact he.symm
  |succ i=>
   cases j with
   |zero=>
    exfalso;simp at hj;subst hj;simp only[J9,a0N,a4E]at a;apply a.1;have:=a5r (ks:=ks) (gen:=gen) (q:=q+1) (show cells[i]?=some (.uslc es)by simpa using hi);refine E5.2 ⟨_,this,?_⟩;rw[show q+1+i=q+(i+1)by omega];exact he
   |succ j=>
    have:=b5Z (q:=q+1) tail (show cells[i]?=some (.uslc es)by simpa using hi) (show cells[j]?=some (.uslc es')by simpa using hj) (by grind);omega
noncomputable def Gh.a1o(G G':Gh)(n:Nat)(a:Nat→Option Nat):Gh:=
 {β:=fun key=>match a key.1 with|some p=>G'.β (p,key.2)|none=>G.β key
  R:=fun key=>match a key.1 with|some p=>G'.R (p,key.2)|none=>G.R key
  γ:=fun key=>match a key.1 with|some p=>G'.γ (p,key.2)|none=>G.γ key
  σ:=fun key=>match a key.1 with|some p=>G'.σ (p,key.2)|none=>G.σ key
  Z:=fun b=>G.Z b∨(G'.Z b∧n≤b)}
theorem b0b(ks:Nat→Nat×Nat)(gen:Nat→Nat):∀(cs:List PV) (q i:Nat),(a1T ks gen q cs)[i]?=(cs[i]?).map (N1 (ks (q+i)) gen)
 | [],q,i=>by simp[a1T]
 |c::cs,q,0=>by simp[a1T]
 |c::cs,q,i+1=>by simp[a1T,b0b ks gen cs (q+1) i];rw[show q+(i+1)=q+1+i by omega]
theorem b4z(ks:Nat→Nat×Nat)(gen:Nat→Nat):∀(cs:List PV) (q:Nat),(a1T ks gen q cs).length=cs.length
 | [],q=>rfl
 |c::cs,q=>by simp[a1T,b4z ks gen cs (q+1)]
section
variable{k1 k2:Nat→Nat×Nat}{g1 g2:Nat→Nat}{cells:List PV}
theorem c0f(b:∀{n:Nat} {u:Value} {p:Nat} {c:PV},cells[p]?=some c→j8 G h w n u (N1 (k1 p) g1 c)→j8 G' h' w' n u (N1 (k2 p) g2 c)){n q:Nat}{c:PV}
 (d:∀(i:Nat) x,(l9 c)[i]?=some x→cells[q+i]?=some x) (a:j8 G h w n v (a2h k1 g1 q c)):j8 G' h' w' n v (a2h k2 g2 q c):=by
 cases c
 case agg cs=>
  simp only[a2h]at a⊢;cases n with
  |zero=>unfold j8 at a;exact a.elim
  |succ n=>
   unfold j8 at a⊢;obtain⟨vs,rfl,h1,f⟩:=a;refine⟨vs,rfl,by rw[b4z]at h1⊢;exact h1,fun i c hi=>?_⟩;rw[b0b]at hi;obtain⟨c0,e,rfl⟩:=D0.1 hi;obtain⟨u,g,j⟩:=f i (N1 (k1 (q+i)) g1 c0) (by rw[b0b,e];rfl);exact⟨u,g,b (d i c0 e) j⟩
 all_goals exact b (d 0 _ rfl) a
theorem b5t(b:∀{n:Nat} {u:Value} {p:Nat} {c:PV},cells[p]?=some c→j8 G h w n u (N1 (k1 p) g1 c)→j8 G' h' w' n u (N1 (k2 p) g2 c)){n:Nat}:∀{vs:List PV} {q:Nat} {U:Nat→Option Value},
 (∀(i:Nat) x,(vs.flatMap l9)[i]?=some x→cells[q+i]?=some x)→(∀(i:Nat) p,(a1x k1 g1 q vs)[i]?=some p→∃u,U i=some u∧j8 G h w n u p)→∀(i:Nat) p,(a1x k2 g2 q vs)[i]?=some p→∃u,U i=some u∧j8 G' h' w' n u p
 | [],q,U,_,_,i,p,hp=>by simp[a1x]at hp
 |c::vs,q,U,d,e,i,p,hp=>by
  simp only[a1x]at hp;cases i with
  |zero=>
   simp at hp;subst hp;obtain⟨u,h1,f⟩:=e 0 _ (by simp[a1x];rfl);refine⟨u,h1,c0f b (fun i x a=>d i x ?_) f⟩;rw[a2Z,a1k (B8.1 a).1];exact a
  |succ i=>
   refine b5t b (vs:=vs) (q:=q+(l9 c).length) (U:=fun i=>U (i+1)) (fun i x a=>?_) (fun i p hp=>e (i+1) p (by simpa[a1x]using hp)) i p (by simpa using hp);rw[Nat.add_assoc];refine d _ x ?_;rw[a2Z,a3X i9,Nat.add_sub_cancel_left];exact a
theorem a9M(ks:Nat→Nat×Nat)(gen:Nat→Nat):∀(cs:List PV) (q:Nat),(a1x ks gen q cs).length=cs.length
 | [],q=>rfl
 |c::cs,q=>by simp[a1x,a9M ks gen cs _]
end
theorem b5m{k1 k2:Nat→Nat×Nat}{g1 g2:Nat→Nat}{r:PV}(d:∀{n:Nat} {u:Value} {p:Nat} {c:PV},(B9 r)[p]?=some c→j8 G h w n u (N1 (k1 p) g1 c)→j8 G' h' w' n u (N1 (k2 p) g2 c))(a:j8 G h w D v (Z9 k1 g1 r)):j8 G' h' w' D v (Z9 k2 g2 r):=by
 cases r
 case tup vs=>
  simp only[Z9]at a⊢;obtain⟨us,rfl,h1,e⟩:=a8l a;unfold D;unfold j8;refine⟨us,rfl,by rw[a9M]at h1⊢;exact h1,b5t (cells:=B9 (.tup vs)) d (q:=0) (U:=fun i=>us[i]?) (fun i x b=>by rw[V9];exact b) e⟩
 all_goals exact c0f (cells:=B9 _) d (q:=0) (fun i x b=>by rw[V9];simpa[B9,a0k]using b) a
theorem a1o(hr:s6 B Z0 G h w)(hb:Bl w.heap.size w w'){szs:List Nat}{r:PV}{v:Value}{Z':Nat→Prop}(F:s6 w.heap.size Z' G' (a0M szs r) w')(ad:j8 G' (a0M szs r) w' D v (Z9 (a1b szs) (fun _=>1) r))
 (ae:∀b,G'.Z b→G.Z b∨w.heap.size≤b) {ks:Nat→Nat×Nat} {gen:Nat→Nat} (af:rOk r=true) (W:((J9 ks gen 0 (B9 r)).map (·.1)).Nodup) (ag:∀p es,(B9 r)[p]?=some (.uslc es)→(ks p).2=szs.getD p 0)
 (X:∀p es,(B9 r)[p]?=some (.uslc es)→∃o,h[(ks p).1]?=some (gen (ks p).1-1,o)∧0<gen (ks p).1):
 ∃G'',s6 B Z0 G'' (p8 h (J9 ks gen 0 (B9 r))) w'∧Ext G h w G'' (p8 h (J9 ks gen 0 (B9 r))) w'∧j8 G'' (p8 h (J9 ks gen 0 (B9 r))) w' D v (Z9 ks gen r)∧Bl B w w':=by
 have J:∀{k p},R2 ks (B9 r) k=some p→(ks p).1=k∧∃es,(B9 r)[p]?=some (.uslc es):=fun hj=>by obtain⟨es,h1,A⟩:=c2u hj;exact⟨A,es,h1⟩
 have ah:∀{p es},(B9 r)[p]?=some (.uslc es)→R2 ks (B9 r) (ks p).1=some p:=fun{p es} hp=>by
  cases hj:R2 ks (B9 r) (ks p).1 with
  |none=>exact absurd rfl (c0U hj p es hp)
  |some a5=>
   obtain⟨h1,es',A⟩:=J hj;rw[b5Z W A hp (by grind)]
 have M:∀{p es},(B9 r)[p]?=some (.uslc es)→(p8 h (J9 ks gen 0 (B9 r)))[(ks p).1]?=some (gen (ks p).1,.arr (ks p).2 0 false es):=fun{p es} hp=>by have hm:=a5r (ks:=ks) (gen:=gen) (q:=0) hp;rw[V9]at hm;obtain⟨o,z,_⟩:=X p es hp;exact b2l W hm (B8.1 z).1
 have N:∀{k},R2 ks (B9 r) k=none→(p8 h (J9 ks gen 0 (B9 r)))[k]?=h[k]?:=fun{k} hj=>by refine a5q _ _ _ fun hm=>?_;obtain⟨x,ai,rfl⟩:=E5.1 hm;obtain⟨i,es,h1,A⟩:=b0n ai;rw[A]at hj;exact c0U hj i es h1 (by grind)
 have E:∀{k y},R2 ks (B9 r) k=none→C9 G (G.a1o G' w.heap.size (R2 ks (B9 r))) (k,y):=fun{k y} hj=>by refine⟨?_,?_,?_,?_⟩<;>simp only[Gh.a1o,hj]
 have H:∀{k p y},R2 ks (B9 r) k=some p→(G.a1o G' w.heap.size (R2 ks (B9 r))).β (k,y)=G'.β (p,y)∧((G.a1o G' w.heap.size (R2 ks (B9 r))).R (k,y)↔G'.R (p,y))∧(G.a1o G' w.heap.size (R2 ks (B9 r))).γ (k,y)=G'.γ (p,y)∧(G.a1o G' w.heap.size (R2 ks (B9 r))).σ (k,y)=G'.σ (p,y):=fun{k p y} hj=>by refine⟨?_,?_,?_,?_⟩<;>simp only[Gh.a1o,hj]
 have x:Ext G h w (G.a1o G' w.heap.size (R2 ks (B9 r))) (p8 h (J9 ks gen 0 (B9 r))) w':=by
  refine⟨fun _ y=>.inl y,fun b O=>hb.block b (hr.zb b O).lt,fun k gn ob e=>?_⟩;cases hj:R2 ks (B9 r) k with
  |none=>exact⟨gn,ob,(N hj).trans e,m9 _,fun _=>L0.refl k ob (E hj) fun i j=>E hj⟩
  |some p=>
   obtain⟨rfl,es,hp⟩:=J hj;obtain⟨o,z,h0⟩:=X p es hp;rw[z]at e;cases e;exact⟨_,_,M hp,i9,fun e=>i9⟩
 have L:∀b,G'.Z b→(G.a1o G' w.heap.size (R2 ks (B9 r))).Z b:=fun b O=>(ae b O).imp id fun h1=>⟨O,h1⟩
 have aj:∀{p k i j u c es},(B9 r)[p]?=some (.uslc es)→R2 ks (B9 r) k=some p→(A9 c||I5 c)=true→H4 G' (a0M szs r) w' p i j u c→H4 (G.a1o G' w.heap.size (R2 ks (B9 r))) (p8 h (J9 ks gen 0 (B9 r))) w' k i j u c:=fun{p k i j u c es} hp hj Q d=>by
  cases c
  case uslc ns=>
   unfold H4 O8 at d⊢;obtain⟨l,a2,a3,a4⟩:=H (y:=some (i,j)) hj;rw[l,a2,a3,a4];refine⟨fun ak=>?_,d.2⟩;obtain⟨us,T,f,al,am,an,ao,ap,aq,ar,au,av,aw⟩:=d.1 ak;refine⟨us,T,f,al,am,an,ao,ap,aq,ar,au,av,fun a e he=>?_⟩;obtain⟨m1,m2⟩:=aw a e he;refine⟨m1,fun t c d=>?_⟩;obtain⟨ax,ay,az,aA⟩:=m2 t c d;exact⟨ax,ay,az,aA.mono L fun _ _=>rfl⟩
  case nils=>
   unfold H4 at d⊢;obtain rfl:=a0v d.2;exact⟨rfl,a4T⟩
  all_goals
   unfold H4 at d⊢
   first
    |exact⟨d.1,a1H d.1 ((a4f (by simpa[I5]using Q) d.2).mono L fun _ _=>rfl)⟩
 have Y:B≤w.heap.size:=hr.base;refine⟨_,⟨V1 Y hb.size,?_,?_,?_,?_,?_,?_,?_⟩,x,?_,hb.mono Y⟩
 . rintro b (h1|⟨h1,A⟩)
   . exact hr.zo b h1
   . exact .inr i9
 . rintro b (h1|⟨h1,A⟩)
   . exact(hr.zb b h1).eq (hb.block b (hr.zb b h1).lt)
   . exact F.zb b h1
 . rintro⟨k,y⟩ s;cases hj:R2 ks (B9 r) k with
   |none=>
    obtain⟨l,a2,_⟩:=E (y:=y) hj;obtain⟨I,C⟩:=hr.lv _ (a2.1 s);rw[l];exact⟨I,C.eq (hb.block _ C.lt)⟩
   |some p=>
    obtain⟨l,a2,_⟩:=H (y:=y) hj;obtain⟨I,C⟩:=F.lv _ (a2.1 s);rw[l];exact⟨i9,C⟩
 . rintro k g o z aB y s;cases hj:R2 ks (B9 r) k with
   |none=>
    obtain⟨l,a2,_⟩:=E (y:=y) hj;rw[N hj]at z;rw[l];rintro(h1|⟨h1,A⟩)
    . exact hr.nz k g o z aB y (a2.1 s) h1
    . have:=(hr.lv _ (a2.1 s)).2.lt;omega
   |some p=>
    obtain⟨rfl,es,hp⟩:=J hj;obtain⟨l,a2,_⟩:=H (y:=y) hj;rw[l];have aC:=F.nz p 1 _ (a9o hp) rfl y (a2.1 s);rintro(h1|⟨h1,A⟩)
    . have:=(hr.zb _ h1).lt;have:=(F.lv _ (a2.1 s)).1;omega
    . exact aC h1
 . rintro k g o z Z y s;cases hj:R2 ks (B9 r) k with
   |none=>
    obtain⟨l,a2,_⟩:=E (y:=y) hj;rw[N hj]at z;rw[l];exact .inl (hr.fz k g o z Z y (a2.1 s))
   |some p=>
    obtain⟨rfl,es',hp⟩:=J hj;rw[M hp]at z;cases z;cases Z
 . rintro⟨k1,aa⟩ ⟨k2,P⟩ h1 A he;cases R:R2 ks (B9 r) k1 with
   |none=>
    obtain⟨l,a2,_⟩:=E (y:=aa) R;cases K:R2 ks (B9 r) k2 with
    |none=>
     obtain⟨I,C,_⟩:=E (y:=P) K;exact hr.inj _ _ (a2.1 h1) (C.1 A) i9
    |some aD=>
     obtain⟨I,C,_⟩:=H (y:=P) K;have S:=(hr.lv _ (a2.1 h1)).2.lt;have U:=(F.lv _ (C.1 A)).1;rw[l,I]at he;omega
   |some a6=>
    obtain⟨l,a2,_⟩:=H (y:=aa) R;cases K:R2 ks (B9 r) k2 with
    |none=>
     obtain⟨I,C,_⟩:=E (y:=P) K;have S:=(hr.lv _ (C.1 A)).2.lt;have U:=(F.lv _ (a2.1 h1)).1;rw[l,I]at he;omega
    |some aD=>
     obtain⟨I,C,_⟩:=H (y:=P) K;have:=F.inj _ _ (a2.1 h1) (C.1 A) i9;simp only[s9]at this;obtain⟨rfl,rfl⟩:=this;obtain⟨rfl,_⟩:=J R;obtain⟨aE,_⟩:=J K;rw[aE]
 . rintro k g o z;cases hj:R2 ks (B9 r) k with
   |none=>
    rw[N hj]at z;exact(hr.ob k g o z).ext x (fun y=>E hj) fun y s=>hb.block _ (hr.lv _ s).2.lt
   |some p=>
    obtain⟨rfl,es,hp⟩:=J hj;rw[M hp]at z;cases z;have ab:=F.ob p 1 _ (a9o hp);have Q:es.all D5=true:=by have:=B0.1 af _ (D4 hp);simpa using this
    rw[ag p es hp];unfold F9 at ab⊢;obtain⟨l,a2,a3,a4⟩:=H (y:=none) hj;rw[show(G.a1o G' w.heap.size (R2 ks (B9 r))).β (root (ks p).1)=G'.β (root p)from l,show(G.a1o G' w.heap.size (R2 ks (B9 r))).γ (root (ks p).1)=G'.γ (root p)from a3];obtain⟨aF,aG,aH,aI,aJ⟩:=ab;refine⟨aF,aG,aH,fun s=>?_,fun s=>aJ fun y=>s (a2.2 y)⟩;obtain⟨us,T,aK,aL,aM⟩:=aI (a2.1 s);refine⟨us,T,aK,aL,fun i e he=>?_⟩;obtain⟨aN,aO⟩:=aM i e he;refine⟨aN,fun j c d=>?_⟩;obtain⟨u,aP,aQ⟩:=aO j c d;have aR:(A9 c||I5 c)=true:=B0.1 (show(l9 e).all (fun c=>A9 c||I5 c)=true from B0.1 Q e (D4 he)) c (D4 d);exact⟨u,aP,aj hp hj aR aQ⟩
 ·
  refine b5m (fun{n u p c} hp d=>?_) ad;cases c<;>simp only[N1]at d⊢ <;>(try exact K9)
  case bool=>obtain rfl:=a1f d;exact a1l
  case int=>obtain rfl:=a0f d;exact a0Q
  case str=>obtain rfl:=a2W d;exact a5u
  case nils=>obtain rfl:=a0v d;exact a4T
  case lit=>cases n<;>(unfold j8 at d⊢;exact d)
  case slc es=>exact a0T ((a3q d).mono L fun _ _=>rfl)
  case N3 ks vs=>exact a6W ((a8I d).mono L fun _ _=>rfl)
  case fptr cs=>exact a4R ((a9h d).mono L fun _ _=>rfl)
  case uslc es=>
   have hj:=ah hp;have goal:j8 (G.a1o G' w.heap.size (R2 ks (B9 r))) (p8 h (J9 ks gen 0 (B9 r))) w' D u (.own (ks p).1 (gen (ks p).1) es.length (ks p).2 0 es.length):=by have V:=j8.cell (m:=D) (by grind) d;unfold D at V⊢;unfold j8 at V⊢;obtain⟨a,c,aS,S,U,aT,gn,ob,ac,a7,aU⟩:=V;refine⟨a,c,aS,S,U,aT,_,_,M hp,m9 _,fun _ sz vr fr es' aV=>?_⟩;cases aV;refine⟨m9 _,fun _=>?_⟩;have aW:=a9o (szs:=szs) hp;rw[show(a1b szs p).1=p from rfl,aW]at ac;cases ac;obtain⟨_,aX⟩:=aU rfl _ _ _ _ rfl;obtain⟨aY,aZ,a0⟩:=aX rfl;obtain⟨l,a2,a3,a4⟩:=H (y:=none) hj;rw[show(G.a1o G' w.heap.size (R2 ks (B9 r))).β (root (ks p).1)=G'.β (root p)from l,show(G.a1o G' w.heap.size (R2 ks (B9 r))).γ (root (ks p).1)=G'.γ (root p)from a3];refine⟨aY,fun s=>?_,fun s=>a0 fun y=>s (a2.2 y)⟩;obtain⟨f,f1,f2,f3,f4⟩:=aZ (a2.1 s);exact⟨f,f1,f2.imp id fun a1 _=>by simpa using a1 rfl,f3,f4⟩
   exact goal.cell (by grind)
end
end
section
variable{v:Value}{vs szs:List Nat}{a:Act}{ρ:Operand→Value}{t k i:Nat}{dst:Option Tmp}{r p:PV}{f:FuncId}{o:Oper}{rd:Operand→Option A0}{args:Array Operand}{ops:List Oper}{vars:List PV}{ev:A0→PV}
section
variable{P:Program}{B:Nat}{Z0:Nat→Prop}{G G':Gh}{h h':l7}{w w':World}
theorem a4y{ρ:Option Nat}{n:Nat}{args:Array Value}{R:Ending→World→Prop}:CallsIn (fz ρ) n P f args w R↔Calls P f args w R:=callsIn_wide
def X0(G:Gh)(h:l7)(w:World)(vs:List Nat)(vars:List PV)(a:Act):Prop:=∀(k s:Nat),vs[k]?=some s→∃v,a.tmps[s]?=some v∧j8 G h w D v (vars.getD k .uu)
def a4r(G:Gh)(h:l7)(w:World)(ops:List Oper)(i:Nat)(loc:List PV)(a:Act):Prop:=∀(t j:Nat),a0S ops t i=some j→∃v,a.tmps[t]?=some v∧j8 G h w D v (loc.getD j .uu)
theorem b2p{ops:List Oper}{t:Nat}:∀{i j:Nat},a0S ops t i=some j→j<i∧(ops[j]?).bind (·.dst)=some t
 |0,j,h=>by simp[a0S]at h
 |i+1,j,h=>by
  simp only[a0S]at h;split at h
  . grind
  . obtain⟨h1,a⟩:=b2p h;exact⟨i9,a⟩
theorem b5Q(a:ofV v=some p):j8 G h w D v p:=(a8i a).1
theorem b3D{loc:List PV}(m:X0 G h w vs vars a)(n:a4r G h w ops i loc a):∀x d,a0x vs ops i x=some d→j8 G h w D (a.eval x) (y9 loc vars d):=by
 intro x d hd;cases x with
 |tmp t=>
  simp only[a0x]at hd;split at hd
  . rename_i j hj;cases hd;obtain⟨v,h1,b⟩:=n t j hj;have:a.eval (.tmp t)=v:=(by simp[Act.eval,h1]);rw[this];exact b
  . obtain⟨k,h1,rfl⟩:=D0.1 hd;have o:vs[k]?=some t:=by
     obtain⟨b,l,_⟩:=List.idxOf?_eq_some_iff.1 h1
     grind
    obtain⟨v,b,l⟩:=m k t o;have:a.eval (.tmp t)=v:=(by simp[Act.eval,b]);rw[this];exact l
 |const v=>
  simp only[a0x]at hd;obtain⟨p,h1,rfl⟩:=D0.1 hd;exact b5Q h1
 |func f=>
  simp only[a0x]at hd;cases hd;show j8 G h w D (.func (.func f) #[] #[]) (.fn (.func f) [] []);unfold D;unfold j8;exact⟨_,_,rfl,⟨rfl,fun i c e=>by simp at e⟩,⟨rfl,fun i c e=>by simp at e⟩⟩
 |global g=>simp[a0x]at hd
theorem c0z{x:Operand}{d:A0}(h:a6t o rd x=some d):rd x=some d∧∀t,x=.tmp t→t∈a8S o:=by
 cases x<;>simp only[a6t]at h
 all_goals grind
theorem c6o(a:∀x d,rd x=some d→j8 G h w D (ρ x) (ev d)):∀x d,a6t o rd x=some d→j8 G h w D (ρ x) (ev d):=fun x d e=>a x d (c0z e).1
theorem a0U(h1:vs.idxOf? t=some k):vs[k]?=some t:=by
 obtain⟨a,b,_⟩:=List.idxOf?_eq_some_iff.1 h1
 grind
theorem b8p(h1:vs.idxOf? t=none):vs[k]?≠some t:=fun a=>by have:=a3a.1 h1;exact this (D4 a)
theorem b4w(b:vs.Nodup){a:Nat}(h1:vs[k]?=some t)(c:vs[a]?=some t):k=a:=by obtain⟨e,a2⟩:=B8.1 h1;obtain⟨f,d⟩:=B8.1 c;exact(List.getElem_inj b).1 (a2.trans d.symm)
theorem b1o(b:dst≠some t):(a.put dst v).tmps[t]?=a.tmps[t]?:=by
 cases dst with
 |none=>rfl
 |some d=>simp only[Act.put];exact Array.getElem?_setIfInBounds_ne (fun e=>b (by rw[e]))
theorem b1Q(b:t<a.tmps.size):(a.put (some t) v).tmps[t]?=some v:=by simp[Act.put,b]
theorem a8B:(a.put dst v).tmps.size=a.tmps.size:=by cases dst<;>simp[Act.put]
theorem b2I:(a.put dst v).defers=a.defers:=by cases dst<;>simp[Act.put]
theorem X0.put(x:Ext G h w G' h' w'){vs:List Nat}(d:vs.Nodup){vars:List PV}{a:Act}(f:X0 G h w vs vars a){dst:Option Tmp}{v:Value}{p:PV}(hd:∀t,dst=some t→t<a.tmps.size)(hp:j8 G' h' w' D v p):
 X0 G' h' w' vs (K0 vars (dst.bind (vs.idxOf? ·)) p) (a.put dst v):=by
 intro k s b;by_cases hs:dst=some s
 . subst hs;refine⟨v,b1Q (hd s rfl),?_⟩;cases hi:vs.idxOf? s with
   |none=>exact absurd b (b8p hi)
   |some c=>
    obtain rfl:=b4w d (a0U hi) b;simp only[a5M,hi,K0];rw[u9];by_cases j:c<vars.length
    . grind
    . rw[a0d I2];exact K9
 . obtain⟨u,h1,g⟩:=f k s b;refine⟨u,by rw[b1o hs];exact h1,?_⟩;have:(K0 vars (dst.bind (vs.idxOf? ·)) p).getD k .uu=vars.getD k .uu:=by
    cases dst with
    |none=>rfl
    |some t=>
     simp only[a5M];cases hi:vs.idxOf? t with
     |none=>rfl
     |some c=>
      have i:c≠k:=fun e=>by subst e;have:=(a0U hi).symm.trans b;exact hs i9
      simp only[K0];rw[u9,u9,F7 i]
   rw[this];exact g.ext x
theorem a4r.put(x:Ext G h w G' h' w'){ops:List Oper}{i:Nat}{o:Oper}(c:ops[i]?=some o){loc:List PV}{a:Act}(e:a4r G h w ops i loc a)(hlen:loc.length=i){v:Value}{p:PV}(hd:∀t,o.dst=some t→t<a.tmps.size)(hp:j8 G' h' w' D v p):
 a4r G' h' w' ops (i+1) (loc++[p]) (a.put o.dst v):=by
 intro t j hj;simp only[a0S]at hj;split at hj
 . rename_i b;cases hj;rw[c]at b;have d:o.dst=some t:=(by simpa using b);refine⟨v,by rw[d];exact b1Q (hd t d),?_⟩;rw[u9,a3X i9,hlen];simpa using hp
 . rename_i b;obtain⟨u,h1,f⟩:=e t j hj;have g:=(b2p hj).1;rw[c]at b;refine⟨u,by rw[b1o (by simpa using b)];exact h1,?_⟩;rw[u9,a1k i9,←u9];exact f.ext x
def Y1(vs:List Nat)(vars:List PV):PV:=vars.getD vs.length .uu
theorem b2t{d:Option Nat}:Y1 vs (K0 vars (d.bind (vs.idxOf? ·)) p)=Y1 vs vars:=by
 unfold Y1;cases d with
 |none=>rfl
 |some t=>
  simp only[a5M];cases hi:vs.idxOf? t with
  |none=>rfl
  |some k=>
   have:=(B8.1 (a0U hi)).1;simp only[K0,u9];rw[F7 i9]
def Inv(vs:List Nat)(N:Nat)(B:Nat)(Z0:Nat→Prop)(W0:N2 B)(ops:List Oper)(i:Nat)(st:B5)(a:Act)(w:World):Prop:=
 ∃G,s6 B Z0 G st.heap w∧X0 G st.heap w vs st.vars a∧a4r G st.heap w ops i st.loc a∧st.loc.length=i∧a.tmps.size=N∧a0u W0.m a.defers w∧W0.psi (Y1 vs st.vars) G st.heap w
theorem c7e{N:Nat}{W0:N2 B}{st:B5}(e:vs.Nodup)(f:ops[i]?=some o)(hd:∀t,o.dst=some t→t<N){G:Gh}{w:World}
 (h1:X0 G st.heap w vs st.vars a) (g:a4r G st.heap w ops i st.loc a) (d:st.loc.length=i) (b:a.tmps.size=N) (h:a0u W0.m a.defers w) (j:W0.psi (Y1 vs st.vars) G st.heap w) {w':World} {G':Gh} {ws:List (Nat×Row)}
 (k:s6 B Z0 G' (p8 st.heap ws) w') (x:Ext G st.heap w G' (p8 st.heap ws) w') (hp:j8 G' (p8 st.heap ws) w' D v p) (hb:Bl B w w'):
 Inv vs N B Z0 W0 ops (i+1) ⟨st.loc++[p],K0 st.vars (o.dst.bind (vs.idxOf? ·)) p,p8 st.heap ws⟩ (a.put o.dst v) w':=
 ⟨G',k,X0.put x e h1 (fun t c=>by rw[b];exact hd t c) hp,a4r.put x f g d (fun t c=>by rw[b];exact hd t c) hp,by simp[d],by rw[a8B];exact b,by rw[b2I];exact h.step hb,by rw[b2t];exact W0.step j x hb⟩
theorem c7s{loc:List PV}(m:X0 G h w vs vars a)(n:a4r G h w ops i loc a){g:Option (A0×Bool)}
 (e:(match o.guard with
  |none=>some none
  |some (j,b)=>match(ops[j]?).bind (·.dst)with
   |some t=>(a0x vs ops i (.tmp t)).map fun d=>some (d,b)
   |none=>none)=some g) {c:Bool} (f:gdO loc vars g=some c):Region.wanted o (yielded ops.toArray a.tmps)=c:=by
 unfold Region.wanted;cases l:o.guard with
 |none=>
  rw[l]at e;simp at e;subst e;simpa[gdO]using f
 |some p=>
  obtain⟨j,b⟩:=p;rw[l]at e;simp only at e;split at e
  . rename_i t r;obtain⟨d,h1,rfl⟩:=D0.1 e;have hr:=b3D m n _ _ h1;simp only[gdO]at f;have s:yielded ops.toArray a.tmps j=(match a.tmps[t]? with|some (.bool b)=>some b|_=>none):=by
     unfold yielded;rw[show ops.toArray[j]?=ops[j]? by simp,r];rfl
    show(yielded ops.toArray a.tmps j==some b)=c;rw[s];split at f
    . rename_i c0 he;cases f;rw[he]at hr;have hb:=a1f hr;have:a.tmps[t]?=some (.bool c0):=by
       simp only[Act.eval]at hb;cases k:a.tmps[t]? with
       |none=>simp[a3Z,k,undef]at hb
       |some q=>simp[a3Z,k]at hb;rw[hb]
      rw[this];cases c0<;>cases b<;>rfl
    . rename_i he;cases f;rw[he]at hr;obtain⟨us,hb,hs⟩:=a8l hr;simp only[Act.eval]at hb;cases k:a.tmps[t]? with
      |none=>cases b<;>rfl
      |some q=>
       simp[a3Z,k]at hb;rw[hb];cases b<;>rfl
    . cases f
  . cases e
theorem c0m:j8 G h w D undef (.tup []):=by unfold D;unfold j8;exact⟨#[],rfl,rfl,fun i c a=>by simp at a⟩
theorem c0V{ats:Array TypeId}{type:TypeId}{pos:String}{after:Array Edge}{guard:Option (Nat×Bool)}(a:a1U P f=true)(c:ρ (.func f)=.func (.func f) #[] #[]):
 (execOp ρ {dst:=dst,op:=.call {callee:=.value (.func f),args:=args,argTypes:=ats},type:=type,pos:=pos,after:=after,guard:=guard}).run P w=.ok (.enter f (args.map ρ)) w:=by
 unfold a1U at a;split at a
 . rename_i fn d;simp only[G4,a6M]at a;obtain⟨h1,b⟩:=a;have g:¬fn.body=none:=fun e=>(by rw[e]at b;cases b);have h:¬fn.name= "runtime.NumGoroutine" :=(by simpa using h1);simp[execOp,resolve,c,Deferred.ofValue,invoke,callFunc,d,g,h]
 . cases a
theorem b1P{b:Operand}{c d:Array Value}{ats:Array TypeId}{type:TypeId}{pos:String}{after:Array Edge}{guard:Option (Nat×Bool)}(a:a1U P f=true)(h:ρ b=.func (.func f) c d):
 (execOp ρ {dst:=dst,op:=.call {callee:=.value b,args:=args,argTypes:=ats},type:=type,pos:=pos,after:=after,guard:=guard}).run P w=.ok (.enter f (c++args.map ρ++d)) w:=by
 unfold a1U at a;split at a
 . rename_i fn i;simp only[G4,a6M]at a;obtain⟨h1,g⟩:=a;have j:¬fn.body=none:=fun e=>(by rw[e]at g;cases g);have k:¬fn.name= "runtime.NumGoroutine" :=(by simpa using h1);simp[execOp,resolve,h,Deferred.ofValue,invoke,callFunc,i,j,k]
 . cases a
theorem a6T{vs:Array Value}{cs:List PV}{n m:Nat}(a:J4 (j8 G h w n) vs cs)(d:cs.all one=true)(hm:0<m:=by decide):J4 (j8 G h w m) vs cs:=
 ⟨a.1,fun i c b=>by obtain⟨u,h1,e⟩:=a.2 i c b;exact⟨u,h1,one_cell (B0.1 d c (D4 b)) e hm⟩⟩
def Gh.b9h(G:Gh)(n:Nat):Gh:={G with Z:=fun b=>G.Z b∧n≤b}
theorem c3R{Z Z':Nat→Prop}{c:PV}(h0:b3s c=true)(d:one c=true)(hp:PR Z w v c):PR Z' w v c:=by
 obtain⟨n,hp⟩:=hp;cases c<;>(try (simp[b3s]at h0;done))<;>(try (simp[one,Y8]at d;done))
 case fn f a b=>
  refine⟨0,?_⟩;cases a with
  |cons=>cases n<;>(unfold K6 at hp;exact hp.elim)
  |nil=>
   cases b with
   |cons=>cases n<;>(unfold K6 at hp;exact hp.elim)
   |nil=>cases n<;>(unfold K6 at hp⊢;exact hp)
 all_goals
  refine⟨0,?_⟩;cases n<;>(unfold K6 at hp⊢;first|exact hp|exact hp.elim)
theorem b5e{g:Nat}{o:Ob}(a:(a0M szs r)[k]?=some (g,o)):o=.dead∨∃es,(B9 r)[k]?=some (.uslc es)∧g=1∧o=.arr (szs.getD k 0) 0 false es:=by
 by_cases b:∃es,(B9 r)[k]?=some (.uslc es)
 . obtain⟨es,he⟩:=b;rw[a9o he]at a
   grind
 . left
   have c:k∉(J9 (a1b szs) (fun _=>1) 0 (B9 r)).map (·.1):=fun hm=>by obtain⟨x,d,rfl⟩:=E5.1 hm;obtain⟨i,es,h1,e⟩:=b0n d;apply b;rw[e];exact⟨es,by simpa[a1b]using h1⟩
   unfold a0M at a;rw[a5q _ _ _ c]at a
   grind
theorem c2i(hr:s6 B Z0 G (a0M szs r) w)(E:noS r=true)(F:rOk r=true):s6 B (fun _=>False) (G.b9h B) (a0M szs r) w:=by
 refine⟨hr.base,fun b hb=>.inr hb.2,fun b hb=>hr.zb b hb.1,hr.lv,fun k g o d H y h I=>hr.nz k g o d H y h I.1,fun k g o d J y h=>⟨hr.fz k g o d J y h,(hr.lv _ h).1⟩,hr.inj,fun k g o d=>?_⟩;have q:=hr.ob k g o d;rcases b5e d with rfl|⟨es,he,rfl,rfl⟩
 . trivial
 . unfold F9 at q⊢;obtain⟨K,L,M,N,O⟩:=q;refine⟨K,L,M,fun h=>?_,O⟩;obtain⟨us,T,P,Q,R⟩:=N h;refine⟨us,T,P,Q,fun i e m=>?_⟩;obtain⟨S,U⟩:=R i e m;refine⟨S,fun j c n=>?_⟩;obtain⟨u,V,l⟩:=U j c n;refine⟨u,V,?_⟩;have s:PV.uslc es∈B9 r:=D4 he;have W:a2U (.uslc es)=true:=by
    obtain⟨x,X,Y⟩:=a4a.1 s;exact B0.1 (B0.1 E x X) _ Y
   have v:a6f c=true:=B0.1 (show(l9 e).all a6f=true from B0.1 W e (D4 m)) c (D4 n);have Z:(A9 c||I5 c)=true:=by have h1:es.all D5=true:=(by simpa using B0.1 F _ s);exact B0.1 (show(l9 e).all (fun c=>A9 c||I5 c)=true from B0.1 h1 e (D4 m)) c (D4 n)
   cases c<;>(try (simp[A9,I5]at Z;done))<;>(try (simp[a6f]at v;done))
   case uslc ns=>
    unfold H4 O8 at l⊢;refine⟨fun aa=>?_,l.2⟩;obtain⟨us',T',f,ab,ac,ad,ae,af,ag,ah,ai,aj,ak⟩:=l.1 aa;refine⟨us',T',f,ab,ac,ad,ae,af,ag,ah,ai,aj,fun a x z=>?_⟩;obtain⟨m1,m2⟩:=ak a x z;refine⟨m1,fun t y A=>?_⟩;obtain⟨C,al,am,an⟩:=m2 t y A;exact⟨C,al,am,c3R (B0.1 (B0.1 v x (D4 z)) y (D4 A)) C an⟩
   all_goals
    unfold H4 at l⊢;obtain⟨ao,p⟩:=l;refine⟨ao,?_⟩;unfold D at p⊢;unfold j8 at p⊢;exact p
theorem c4D{ks:Nat→Nat×Nat}{gen:Nat→Nat}(d:noS r=true)(e:j8 G (a0M szs r) w D v (Z9 ks gen r)):j8 (G.b9h B) (a0M szs r) w D v (Z9 ks gen r):=by
 refine b5m (fun{n u p c} hp a=>?_) e;have b:a2U c=true:=by obtain⟨x,f,g⟩:=a4a.1 (D4 hp);exact B0.1 (B0.1 d x f) _ g
 cases c<;>simp only[N1]at a⊢ <;>(try exact K9)
 case slc es=>simp[a2U]at b
 case N3=>simp[a2U]at b
 case fptr=>simp[a2U]at b
 all_goals (cases n<;>(unfold j8 at a⊢;exact a))
theorem b4Y(hr:s6 B Z0 G h w){hide:List Nat}(Q:∀x d,rd x=some d→j8 G h w D (ρ x) (ev d)){k:List A0}(S:N4 rd args.toList=some k){ks:List (Nat×Nat)}
 (F:Fn P f (ks.map (·.2)) (k.map fun a=>fzV (l8 h hide) (ev a)) r) (n:a4c h.length ks ((k.map ev).any (a2c (l8 h hide))) r=true) (T:∀j,j∈(ks.filter (·.2 !=0)).map (·.1)→hide.contains j=false) {R:Ending→World→Prop}
 (H:∀v w' G',s6 B Z0 G' (p8 h (J9 (O0 ks) (Z4 (l8 h hide)) 0 (B9 r))) w'→Ext G h w G' (p8 h (J9 (O0 ks) (Z4 (l8 h hide)) 0 (B9 r))) w'→j8 G' (p8 h (J9 (O0 ks) (Z4 (l8 h hide)) 0 (B9 r))) w' D v (Z9 (O0 ks) (Z4 (l8 h hide)) r)→Bl B w w'→R (.returned v) w'):
 Calls P f (args.map ρ) w R:=by
 unfold a4c at n;simp only[G4]at n;obtain⟨⟨⟨s,U⟩,V⟩,W⟩:=n;have X:∀{g1 g2:Nat→Nat} (cells:List PV) (q:Nat),(J9 (O0 ks) g1 q cells).map (·.1)=(J9 (O0 ks) g2 q cells).map (·.1):=by
  intro g1 g2 cells
  induction cells with
  |nil=>intro q;rfl
  |cons c cells Y=>intro q;cases c<;>simp only[J9,a0N,Y]
 have I:((J9 (O0 ks) (Z4 (l8 h hide)) 0 (B9 r)).map (·.1)).Nodup:=by rw[X (g2:=fun _=>0)];exact a5n U
 have J:∀p es,(B9 r)[p]?=some (.uslc es)→(O0 ks p).2=(ks.map (·.2)).getD p 0:=fun p es _=>by simp only[O0,u9,H6];cases ks[p]?<;>rfl
 have K:∀p es,(B9 r)[p]?=some (.uslc es)→∃o,h[(O0 ks p).1]?=some (Z4 (l8 h hide) (O0 ks p).1-1,o)∧0<Z4 (l8 h hide) (O0 ks p).1:=fun p es hp=>by
  have hm:=a5r (ks:=O0 ks) (gen:=fun _=>0) (q:=0) hp;have t:=B0.1 V _ (E5.2 ⟨_,hm,rfl⟩);rw[V9,G4]at t;have Z:(O0 ks p).1<h.length:=by simpa[a1K]using t.1
  have aa:hide.contains (O0 ks p).1=false:=T _ (a0W.1 t.2);obtain⟨⟨g,o⟩,l⟩:∃x,h[(O0 ks p).1]?=some x:=⟨_,m7 Z⟩
  exact⟨o,by rw[l];simp[Z4,a6x aa l],by simp[Z4]⟩
 have L:∀(Z':Nat→Prop),(∀b,G.Z b→Z' b)→((k.map ev).any (a2c (l8 h hide))=true→∀key,G.R key→Z' (G.β key))→J4 (j8 (G0 Z') [] w D) (args.map ρ) (k.map fun a=>fzV (l8 h hide) (ev a)):=fun Z' ab m=>by
  obtain⟨ac,ad⟩:=a5s S;refine⟨by simpa using ac,fun i c M=>?_⟩;rw[H6]at M;obtain⟨d,hd,rfl⟩:=D0.1 M;have hi:i<args.toList.length:=by grind
  obtain⟨ah,N,ae⟩:=ad i _ (m7 hi);rw[hd]at N;cases N;have af:i<args.size:=by simpa using hi
  refine⟨ρ args.toList[i],by simp[af],c6x hr ab (fun l=>m (List.any_eq_true.2 ⟨_,E5.2 ⟨d,D4 hd,rfl⟩,l⟩)) (Q _ _ ae)⟩
 by_cases m:(k.map ev).any (a2c (l8 h hide))=true
 . have O:noS r=true:=(by simpa[m]using W);refine(F.2 w (fun b=>G.Z b∨∃key,G.R key∧b=G.β key) (args.map ρ) ?_ (L _ (fun b hb=>.inl hb) fun _ key u=>.inr ⟨key,u,rfl⟩)).mono ?_
   . rintro b (hb|⟨key,u,rfl⟩)
     . exact hr.zb b hb
     . exact(hr.lv _ u).2
   . rintro e w' ⟨v,G',rfl,hb,h1,y⟩;obtain⟨G'',z,A,C,E⟩:=a1o hr hb (c2i h1 O s) (c4D (B:=w.heap.size) O y) (fun b ag=>.inr ag.2) s I J K;exact H v w' G'' z A C E
 . refine(F.2 w G.Z (args.map ρ) hr.zb (L G.Z (fun b hb=>hb) fun l=>absurd l m)).mono ?_;rintro e w' ⟨v,G',rfl,hb,h1,y⟩;obtain⟨G'',z,A,C,E⟩:=a1o hr hb h1 y h1.zo s I J K;exact H v w' G'' z A C E
theorem c1i(hr:s6 B Z0 G h w)(n:∀x d,rd x=some d→j8 G h w D (ρ x) (ev d)){o:Operand}{fd:A0}(q:rd o=some fd){k:List A0}(s:N4 rd args.toList=some k){ws:List (Nat×Row)}
 (l:FI P (ev fd) (k.map ev) h r ws):∃f a b,a1U P f=true∧ρ o=.func (.func f) a b∧∀R:Ending→World→Prop,
  (∀v w' G',s6 B Z0 G' (p8 h ws) w'→Ext G h w G' (p8 h ws) w'→j8 G' (p8 h ws) w' D v r→Bl B w w'→R (.returned v) w')→Calls P f (a++args.map ρ++b) w R:=by
 obtain⟨f,first,cap,t,g,m,l⟩:=l;rw[G4]at m;have j:=n _ _ q;rw[t]at j;unfold D at j;unfold j8 at j;obtain⟨a,b,h1,y,z⟩:=j;refine⟨f,a,b,g,h1,fun R A=>?_⟩;have C:J4 (j8 G h w D) (args.map ρ) (k.map ev):=by
  obtain⟨E,F⟩:=a5s s;refine⟨by simpa using E,fun i c g=>?_⟩;rw[H6]at g;obtain⟨d,hd,rfl⟩:=D0.1 g;have hi:i<args.toList.length:=by grind
  obtain⟨N,p,H⟩:=F i _ (m7 hi);rw[hd]at p;cases p;have I:i<args.size:=by simpa using hi
  exact⟨ρ args.toList[i],by simp[I],n _ _ H⟩
 refine(l B Z0 G w a (args.map ρ) b hr (a6T y m.1) C (a6T z m.2)).mono ?_;rintro e w' ⟨u,G',rfl,J,K,L,M⟩;exact A u w' G' J K L M
end
end
section
variable{rd:Operand→Option A0}{k:Nat}{app:Nat×Option Nat}{al:Bool}{ty:TypeId}{op:Op}{a:List A0}
section
variable{P:Program}{B:Nat}{Z0:Nat→Prop}{W0:N2 B}{ρ:Option Nat}{nn:Nat}
theorem b6h{FN:N7}{x:l6}{xs:List l6}{st:B5}{Q:B5→Prop}(c:∀f a k al,x.op≠ .call f a k al)(d:∀f a,x.op≠ .callv f a)(e:∀f a,x.op≠ .cally f a)(g:gdO st.loc st.vars x.guard=some true)(h:G6 FN (x::xs) st Q):
 ∃p ws,B3 (y9 st.loc st.vars) (l8 st.heap x.hide) x.op=some (p,ws)∧G6 FN xs ⟨st.loc++[p],K0 st.vars x.var p,p8 st.heap ws⟩ Q:=by
 cases b:x.op
 case call f a k al=>exact absurd b (c _ _ _ _)
 case callv f a=>exact absurd b (d _ _)
 case cally f a=>exact absurd b (e _ _)
 all_goals
  simp only[G6,g,b]at h;split at h
  . rename_i p ws i;exact⟨p,ws,i,h⟩
  . exact h.elim
theorem b5h{f:FuncId}{ks:List (Nat×Nat)}{i:Bool}(e:a2M P rd k app al ty op=some (.call f a ks i)):
 ∃args ats,op=.call {callee:=.value (.func f),args:=args,argTypes:=ats}∧N4 rd args.toList=some a:=by
 cases op<;>simp only[a2M]at e
 case call c=>
  obtain⟨callee,args,ats⟩:=c;cases callee<;>simp only[]at e
  case value g=>
   cases g<;>simp only[]at e
   case func g=>
    split at e
    . split at e<;>cases e
    . split at e
      . rename_i l j h1 h;cases e;exact⟨args,ats,rfl,h1⟩
      . cases e
   all_goals
    split at e
    . cases al<;>cases e
    . cases e
  case builtin b=>
   exfalso;unfold a8U at e;split at e<;>(try (cases e;done))<;>(repeat' (split at e))<;>(try (cases e;done))<;>(obtain⟨d,_,h⟩:=D0.1 e;cases h)
  case invoke=>cases e
 case makeMap t r=>
  exfalso;cases r with
  |none=>simp at e
  |some r=>
   simp only[]at e;split at e
   . obtain⟨d,_,h⟩:=D0.1 e;cases h
   . cases e
 all_goals
  exfalso
  (repeat' (split at e))<;>first|(cases e;done)|(obtain⟨d,_,h⟩:=D0.1 e;cases h;done)
theorem c3X{f:A0}(e:a2M P rd k app al ty op=some (.cally f a)):
 ∃i args ats,op=.call {callee:=.value i,args:=args,argTypes:=ats}∧rd i=some f∧N4 rd args.toList=some a:=by
 cases op<;>simp only[a2M]at e
 case call c=>
  obtain⟨callee,args,ats⟩:=c;cases callee<;>simp only[]at e
  case value g=>
   cases g<;>simp only[]at e
   case func g=>
    split at e
    . grind
    . split at e<;>cases e
   all_goals
    split at e
    . grind
    . cases e
  case builtin b=>
   exfalso;unfold a8U at e;split at e<;>(try (cases e;done))<;>(repeat' (split at e))<;>(try (cases e;done))<;>(obtain⟨d,_,h⟩:=D0.1 e;cases h)
  case invoke=>cases e
 case makeMap t r=>
  exfalso;cases r with
  |none=>simp at e
  |some r=>
   simp only[]at e;split at e
   . obtain⟨d,_,h⟩:=D0.1 e;cases h
   . cases e
 all_goals
  exfalso
  (repeat' (split at e))<;>first|(cases e;done)|(obtain⟨d,_,h⟩:=D0.1 e;cases h;done)
theorem c0C{f:A0}(e:a2M P rd k app al ty op=some (.callv f a)):
 ∃i args ats,op=.call {callee:=.value i,args:=args,argTypes:=ats}∧rd i=some f∧N4 rd args.toList=some a:=by
 cases op<;>simp only[a2M]at e
 case call c=>
  obtain⟨callee,args,ats⟩:=c;cases callee<;>simp only[]at e
  case value g=>
   cases g<;>simp only[]at e
   case func g=>
    split at e
    . grind
    . split at e<;>cases e
   all_goals
    split at e
    . grind
    . cases e
  case builtin b=>
   exfalso;unfold a8U at e;split at e<;>(try (cases e;done))<;>(repeat' (split at e))<;>(try (cases e;done))<;>(obtain⟨d,_,h⟩:=D0.1 e;cases h)
  case invoke=>cases e
 case makeMap t r=>
  exfalso;cases r with
  |none=>simp at e
  |some r=>
   simp only[]at e;split at e
   . obtain⟨d,_,h⟩:=D0.1 e;cases h
   . cases e
 all_goals
  exfalso
  (repeat' (split at e))<;>first|(cases e;done)|(obtain⟨d,_,h⟩:=D0.1 e;cases h;done)
theorem b8l{x:N9}(h:a2M P rd k app al ty op=some x):∀c,op≠ .defer c:=fun c e=>by subst e;simp only[a2M]at h;cases h
def FyR(B:Nat)(Z0:Nat→Prop)(W0:N2 B)(vs:List Nat)(vars:List PV)(K:PV→List PV→l7→Prop)(G:Gh)(h:l7)(w:World):Ending→World→Prop:=fun e w'=>
 ∃r vars' h' u G',e=.returned u∧K r vars' h'∧(∀k,k<vs.length→vars'.getD k .uu=vars.getD k .uu)∧s6 B Z0 G' h' w'∧Ext G h w G' h' w'∧j8 G' h' w' D u r∧W0.psi (Y1 vs vars') G' h' w'∧∀a,a0u W0.m a w→a0u W0.m a w'
abbrev FYT:=PV→List PV→List PV→l7→(PV→List PV→l7→Prop)→Prop
def a7s(P:Program)(B:Nat)(Z0:Nat→Prop)(W0:N2 B)(ρ:Option Nat)(vs:List Nat)(Y:FYT):Prop:=∀{v:PV} {args vars:List PV} {h:l7} {K:PV→List PV→l7→Prop},Y v args vars h K→
 ∀{G:Gh} {w:World} {u:Value} {a:Array Value},s6 B Z0 G h w→W0.psi (Y1 vs vars) G h w→j8 G h w D u v→J4 (j8 G h w D) a args→
  (∃f b c,a1U P f=true∧u=.func (.func f) b c∧Calls P f (b++a++c) w (FyR B Z0 W0 vs vars K G h w))∨
  (∃l,u=.func (.yield l) #[] #[]∧∀n,YieldAt (fz ρ) n P l a w (FyR B Z0 W0 vs vars K G h w))
theorem a6a{ρ:Option Nat}{vs:List Nat}{W0:N2 B}:a7s P B Z0 W0 ρ vs (fyI P):=by
 rintro v args vars h K ⟨r,ws,⟨f,first,cap,rfl,j,a,k⟩,l⟩ G w u m hr n b o
 left
 unfold D at b;unfold j8 at b;obtain⟨c,d,rfl,p,q⟩:=b;rw[G4]at a;refine⟨f,c,d,j,rfl,?_⟩;refine(k B Z0 G w c m d hr (a6T p a.1) o (a6T q a.2)).mono ?_;rintro e w' ⟨u,G',rfl,h1,g,s,i⟩;exact⟨r,vars,_,u,G',rfl,l,fun _ _=>rfl,h1,g,s,W0.step n g i,fun t hd=>hd.step i⟩
theorem c7N{ρ:Operand→Value}{dst:Option Tmp}{a:Operand}{l:Nat}{args:Array Operand}{ats:Array TypeId}{type:TypeId}{pos:String}{after:Array Edge}{guard:Option (Nat×Bool)}{w:World}(b:ρ a=.func (.yield l) #[] #[]):
 (execOp ρ {dst:=dst,op:=.call {callee:=.value a,args:=args,argTypes:=ats},type:=type,pos:=pos,after:=after,guard:=guard}).run P w=(Instr.yield l (args.map ρ)).run P w:=by
 simp[execOp,resolve,b,Deferred.ofValue,invoke]
theorem b4u{vs:List Nat}{N:Nat}{FN:N7}(ad:FN.fn=Fn P)(ae:FN.fi=FI P)(af:a7s P B Z0 W0 ρ vs FN.fy)(W:vs.Nodup){ops:List Oper}{al:Bool}{Q:Exit→Act→World→Prop}{Q':B5→Prop}(ag:∀i st a w,Inv vs N B Z0 W0 ops i st a w→Q' st→Q .normal a w):
 ∀(rest:List Oper) (acc:List l6) (k O:Nat) (xs:List l6),ops.drop acc.length=rest→a4Z P vs N ops al acc k rest=some (xs,O)→∃tail,xs=acc++tail∧
  ∀st a w,Inv vs N B Z0 W0 ops acc.length st a w→a2k st.heap.length tail=true→G6 FN tail st Q'→wpOpsIn (fz ρ) nn P ops.toArray Q (List.range' acc.length rest.length) a w
 | [],acc,k,O,xs,X,m=>by
  simp only[a4Z,s7,s9]at m;obtain⟨rfl,rfl⟩:=m;refine⟨[],l5,fun st a w hinv _ q=>?_⟩;simp only[G6]at q;exact ag _ st a w hinv q
 |o::rest,acc,k,O,xs,X,m=>by
  have Y:ops[acc.length]?=some o:=by have:=congrArg (·[0]?) X;simpa using this
  have aO:ops.drop (acc.length+1)=rest:=by rw[←a2X,X];rfl
  simp only[a4Z]at m;split at m
  . cases m
  . rename_i A F;split at m
    . cases m
    . rename_i g aw;split at m
      . rename_i ah;obtain⟨tail,rfl,ai⟩:=b4u ad ae af W ag rest (acc++[{op:=A,var:=o.dst.bind (vs.idxOf? ·),guard:=g,hide:=[]}]) (k+b3V A) O xs (by grind) m;refine⟨{op:=A,var:=o.dst.bind (vs.idxOf? ·),guard:=g,hide:=[]}::tail,l5,fun st a w hinv aj q=>?_⟩;obtain⟨G,H,R,S,Z,T,ak,am⟩:=hinv;simp only[a2k,List.all_cons,G4]at aj;obtain⟨ax,an⟩:=aj;have ay:∀j,j∈I0 A→j<st.heap.length∧([]:List Nat).contains j=false:=fun j hj=>⟨by have:=B0.1 ax j hj;simpa[a1K]using this,rfl⟩
        have U:=c6o (o:=o) (b3D R S);have hd:∀t,o.dst=some t→t<N:=fun t I=>(by simp only[b3r,I]at ah;simpa[a1K]using ah);have J:∀{p ws v w' G'},s6 B Z0 G' (p8 st.heap ws) w'→Ext G st.heap w G' (p8 st.heap ws) w'→j8 G' (p8 st.heap ws) w' D v p→Bl B w w'→
         G6 FN tail ⟨st.loc++[p],K0 st.vars (o.dst.bind (vs.idxOf? ·)) p,p8 st.heap ws⟩ Q'→wpOpsIn (fz ρ) nn P ops.toArray Q (List.range' (acc.length+1) rest.length) (a.put o.dst v) w':=fun{p ws v w' G'} r1 r2 r3 r4 r5=>by
         have:=ai ⟨st.loc++[p],K0 st.vars (o.dst.bind (vs.idxOf? ·)) p,p8 st.heap ws⟩ (a.put o.dst v) w' (by simp only[a0D,a0a,a7J];exact c7e W Y hd R S Z T ak am r1 r2 r3 r4) (by simp only[a6i];exact an) r5
         simpa using this
        have ao:∀(a:Act) (w:World) f,o.about P w a.eval=some f→(fz ρ).fn f:=fun _ _ _ _=>trivial;have az:o.semAt (fz ρ).round a.eval=execOp a.eval o:=Oper.semAt_eq _ _ _ (b8l F);have aA:∀K,(∀c,gdO st.loc st.vars g=some c→(if c then o.uponIn (fz ρ) nn P a K Q ((execOp a.eval o).run P w)else K (a.put o.dst undef) w))→wpOpIn (fz ρ) nn P ops.toArray Q acc.length K a w:=fun K aB=>by
         unfold wpOpIn;rw[show ops.toArray[acc.length]?=some o by simpa using Y];simp only;cases x:gdO st.loc st.vars g with
         |none=>simp only[G6,x]at q
         |some c=>
          have hw:=c7s R S aw x;have:=aB c x;rw[hw];cases c
          . exact⟨ao _ _,by simpa using this⟩
          . refine⟨ao _ _,?_⟩;rw[az];simpa using this
        rw[show List.range' acc.length (o::rest).length=acc.length::List.range' (acc.length+1) rest.length by simp[List.range'_succ],wpOpsIn_cons];refine aA _ fun c x=>?_;cases c with
        |false=>
         simp only[G6,x]at q;simp only[a3W,if_false];exact J (ws:=[]) H Ext.refl c0m (Bl.refl _ _) q
        |true=>
         simp only[if_true];by_cases ap:∃f b ks V,A=.call f b ks V
         . obtain⟨f,b,ks,V,rfl⟩:=ap;obtain⟨args,ats,y,L⟩:=b5h F;simp only[G6,x]at q;obtain⟨r,_,E,aC,z⟩:=q;rw[ad]at E;obtain⟨dst,op,type,pos,after,guard⟩:=o;simp only at y;subst y;have C:=c0V (P:=P) (w:=w) (ρ:=a.eval) (dst:=dst) (args:=args) (ats:=ats) (type:=type) (pos:=pos) (after:=after) (guard:=guard) E.1 rfl;rw[C];refine⟨fun e=>(by cases e),a4y.2 ?_⟩;exact b4Y H U L E aC (fun _ _=>rfl) fun v w' G' r1 r2 r3 r4=>J r1 r2 r3 r4 z
         by_cases aq:∃f b,A=.cally f b
         . obtain⟨fd,b,rfl⟩:=aq;obtain⟨aD,args,ats,y,aa,L⟩:=c3X F;simp only[G6,x]at q;obtain⟨dst,op,type,pos,after,guard⟩:=o;simp only at y;subst y;have aE:J4 (j8 G st.heap w D) (args.map a.eval) (b.map (y9 st.loc st.vars)):=by
            obtain⟨ar,au⟩:=a5s L;refine⟨by simpa using ar,fun i c m=>?_⟩;rw[H6]at m;obtain⟨d,hd,rfl⟩:=D0.1 m;have hi:i<args.toList.length:=(by grind);obtain⟨aP,aQ,aR⟩:=au i _ (m7 hi)
            grind
           have aS:∀(e:Ending) (w':World),FyR B Z0 W0 vs st.vars (fun r vs' h=>h.length=st.heap.length∧G6 FN tail ⟨st.loc++[r],K0 vs' (dst.bind (vs.idxOf? ·)) r,h⟩ Q') G st.heap w e w'→
            (match e with
             | .returned v=>wpOpsIn (fz ρ) nn P ops.toArray Q (List.range' (acc.length+1) rest.length) (a.put dst v) w'
             |_=>False):=by
            rintro e w' ⟨r,vars',h',u,G',rfl,⟨hlen,z⟩,aT,r1,r2,r3,r4,r5⟩;have aF:X0 G st.heap w vs vars' a:=fun k s aG=>by
             obtain⟨v,ar,au⟩:=R k s aG
             grind
            have:=ai ⟨st.loc++[r],K0 vars' (dst.bind (vs.idxOf? ·)) r,h'⟩ (a.put dst u) w' (by simp only[a0D,a0a,a7J];exact⟨G',r1,X0.put r2 W aF (fun t I=>by rw[T];exact hd t I) r3,a4r.put r2 Y S Z (fun t I=>by rw[T];exact hd t I) r3,by simp[Z],by rw[a8B];exact T,by rw[b2I];exact r5 _ ak,by rw[b2t];exact r4⟩) (by simp only[hlen];exact an) z
            simpa using this
           rcases af q H am (U _ _ aa) aE with⟨f,aH,aI,ab,M,ac⟩|⟨l,M,aJ⟩
           . have C:=b1P (P:=P) (w:=w) (ρ:=a.eval) (dst:=dst) (args:=args) (ats:=ats) (type:=type) (pos:=pos) (after:=after) (guard:=guard) ab M;rw[C];refine⟨fun e=>(by cases e),a4y.2 (ac.mono fun e w' aK=>?_)⟩
             grind
           . have C:=c7N (P:=P) (w:=w) (ρ:=a.eval) (dst:=dst) (args:=args) (ats:=ats) (type:=type) (pos:=pos) (after:=after) (guard:=guard) M;obtain⟨fn,aU,aV,body,aL,aM⟩:=aJ (nn-1);rw[C,aL];refine⟨fun e=>(by cases e),aM.mono fun e w' aK=>?_⟩
             grind
         by_cases av:∃f b,A=.callv f b
         . obtain⟨fd,b,rfl⟩:=av;obtain⟨aD,args,ats,y,aa,L⟩:=c0C F;simp only[G6,x,fiH]at q;obtain⟨r,ws,E,z⟩:=q;rw[ae]at E;obtain⟨dst,op,type,pos,after,guard⟩:=o;simp only at y;subst y;obtain⟨f,aH,aI,ab,M,ac⟩:=c1i H U aa L E;have C:=b1P (P:=P) (w:=w) (ρ:=a.eval) (dst:=dst) (args:=args) (ats:=ats) (type:=type) (pos:=pos) (after:=after) (guard:=guard) ab M;rw[C];refine⟨fun e=>(by cases e),a4y.2 (ac _ fun v w' G' r1 r2 r3 r4=>J r1 r2 r3 r4 z)⟩
         . obtain⟨p,ws,aN,z⟩:=b6h (fun f b ks V e=>ap ⟨f,b,ks,V,e⟩) (fun f b e=>av ⟨f,b,e⟩) (fun f b e=>aq ⟨f,b,e⟩) x q;obtain⟨n,v,w',G',g1,g2,g3,g4,g5,g6⟩:=b7Q H U F ay aN;rw[g1];rcases g2 with rfl|⟨rfl,rfl⟩
           . exact J g3 g4 g5 g6 z
           . exact J g3 g4 g5 g6 z
      . cases m
end
end
section
variable{lk:E1}{news:List PV}{ev:A0→PV}{sz k n i kt b:Nat}{v m z x c d s r:PV}{op:N9}{hide:List Nat}{S q:Nat→Bool}
section
variable{P:Program}{B:Nat}{Z0:Nat→Prop}{W0:N2 B}
theorem d0b{lk':E1}(h:L5 op=0):B3 ev lk op=B3 ev lk' op:=by
 cases op<;>(try (simp[L5]at h;done))<;>(try rfl)
 case append k sz b m s x=>simp only[L5]at h;split at h<;>simp at h
theorem b3C{ws:List (Nat×Row)}(h:a1N lk k sz b s news=some (v,ws)):∀y∈ws,y.1=a4S k s:=by
 cases s<;>simp only[a1N]at h<;>(try (cases h;done))
 all_goals
  (repeat' (split at h))<;>(try (cases h;done))<;>(simp only[s7,s9]at h;obtain⟨_,rfl⟩:=h;intro y a;simp only[H5]at a;subst a;rfl)
theorem b2i{ok:Bool}{p:PV}{ks vs:List PV}{ws:List (Nat×Row)}(h:a3L kt ok z x ks vs=some (p,ws)):ws=[]:=by
 unfold a3L at h
 (repeat' (split at h))<;>(try (cases h;done))<;>(simp only[s7,s9]at h;exact h.2.symm)
theorem c7g{ok:Bool}{p:PV}{ws:List (Nat×Row)}(h:a7i lk kt ok z m x=some (p,ws)):ws=[]:=by
 unfold a7i at h;split at h
 . split at h
   . split at h
     . exact b2i h
     . cases h
   . cases h
 . exact b2i h
 . exact b2i h
 . cases h
theorem b5X{p:PV}{ws:List (Nat×Row)}(c:L5 op≤2)(h:B3 ev lk op=some (p,ws)):∀y∈ws,y.1∈I0 op:=by
 cases op<;>(try (simp[L5]at c;done))<;>simp only[B3]at h
 case append k sz b m s x=>
  have hm:m=2:=by simp only[L5]at c;split at c<;>first|assumption|(exfalso;omega)
  subst hm;split at h
  . rename_i news i f;obtain rfl:=c2x f;split at h
    . rename_i d;split at h
      . rename_i v j g;simp only[s7,s9,a4C]at h;obtain⟨_,rfl⟩:=h;intro y a;have h1:=b3C g y a;simp only[a9r,G4]at d;obtain⟨⟨_,e⟩,_⟩:=d;simp only[bne_self_eq_false,Bool.false_or,G4,beq_iff_eq]at e;rw[h1,e.2];simp[I0]
      . cases h
    . cases h
  . cases h
 case lookup kt ok z m x=>rw[c7g h];intro y a;cases a
 all_goals
  (repeat' (split at h))<;>(try (cases h;done))<;>(simp only[s7,s9]at h;obtain⟨_,rfl⟩:=h;intro y a;first|(simp only[H5]at a;subst a;simp[I0];done)|(cases a;done))
theorem c5J(h:L5 op=0):I0 op=[]:=by
 cases op<;>(try (simp[L5]at h;done))<;>(try rfl)
 case append k sz b m s x=>simp only[L5]at h;split at h<;>simp at h
def isA:Ob→Bool
 | .arr .. =>true
 |_=>false
def M7:Ob→Bool
 | .var _=>true
 |_=>false
theorem a8y{o:Ob}(h:isA o=true):o≠ .dead:=by cases o<;>simp[isA]at h⊢
theorem b1q{o:Ob}(h:isA o=true):M7 o=false:=by cases o<;>simp[isA]at h⊢ <;>rfl
theorem b8j{ks:List Nat}(h:a4l lk c=some (d,ks)):∀k∈ks,isA (lk k).2=true:=by
 cases c<;>simp only[a4l]at h<;>(try (cases h;done))<;>(try (simp only[s7,s9]at h;obtain⟨_,rfl⟩:=h;intro k a;cases a;done))
 case own k g b s o l=>
  split at h
  . rename_i he;split at h
    . split at h
      . grind
      . simp only[s7,s9]at h;obtain⟨_,rfl⟩:=h;intro e a;simp only[H5]at a;subst a;rw[he];rfl
    . cases h
  . cases h
theorem b3Z{lk:E1}:∀{cs b:List PV} {ks:List Nat},a2m lk cs=some (b,ks)→∀k∈ks,isA (lk k).2=true
 | [],b,ks,h=>by simp only[a2m,s7,s9]at h;obtain⟨_,rfl⟩:=h;intro k a;cases a
 |c::cs,b,ks,h=>by
  simp only[a2m]at h;split at h
  . rename_i d f g ls h1 e;split at h
    . simp only[s7,s9]at h;obtain⟨_,rfl⟩:=h;intro k a;rcases I4.1 a with a|a
      . exact b3Z e k a
      . exact b8j h1 k a
    . cases h
  . cases h
theorem c6z{e:PV}{ks:List Nat}(h:a7y lk e=some (d,ks)):∀k∈ks,isA (lk k).2=true:=by
 unfold a7y at h;split at h
 . rename_i h1;simp only[s7,s9]at h;obtain⟨_,rfl⟩:=h;exact b3Z h1
 . cases h
theorem b7O{lk:E1}:∀{cs b:List PV} {ks:List Nat},a3C lk cs=some (b,ks)→∀k∈ks,isA (lk k).2=true
 | [],b,ks,h=>by simp only[a3C,s7,s9]at h;obtain⟨_,rfl⟩:=h;intro k a;cases a
 |c::cs,b,ks,h=>by
  simp only[a3C]at h;split at h
  . rename_i d f g ls h1 e;split at h
    . simp only[s7,s9]at h;obtain⟨_,rfl⟩:=h;intro k a;rcases I4.1 a with a|a
      . exact b7O e k a
      . exact c6z h1 k a
    . cases h
  . cases h
theorem b5E{ks:List Nat}:∀y∈kill lk ks,y.1∈ks:=fun y a=>by obtain⟨k,b,rfl⟩:=E5.1 a;exact b
theorem c2q{m:Nat}{p:PV}{ws:List (Nat×Row)}(h:a2N lk m p=some (news,ws)):∀y∈ws,isA (lk y.1).2=true:=by
 cases p<;>simp only[a2N]at h<;>(try (cases h;done))<;>(try (simp only[s7,s9]at h;obtain⟨_,rfl⟩:=h;intro y a;cases a;done))
 case own k g c s o l=>
  split at h
  . rename_i he;have d:isA (lk k).2=true:=(by rw[he];rfl);split at h
    . split at h
      . split at h
        . rename_i h1;split at h
          . cases h
          . simp only[s7,s9]at h;obtain⟨_,rfl⟩:=h;intro y a;have:=b5E y a;rcases I4.1 this with b|b
            . exact b7O h1 _ b
            . grind
        . cases h
      . grind
    . cases h
  . cases h
 grind
theorem b3h{m:Nat}{p:PV}{ws:List (Nat×Row)}(h:a1Q lk m p=some (news,ws)):∀y∈ws,isA (lk y.1).2=true:=by
 unfold a1Q at h;split at h
 . cases p<;>simp only[a8m]at h<;>(try (cases h;done))
   grind
 . exact c2q h
theorem b0M{h:l7}(a:(l8 h hide k).2≠ .dead):hide.contains k=false:=by
 unfold l8 at a
 grind
theorem b2r{g b:Nat}{fr c:Bool}{ks vs d e:List PV}(f:lk k=(b,.mp fr ks vs)):∀y∈[((k,(g,Ob.mp c d e)):Nat×Row)],(lk y.1).2≠ .dead∧M7 y.2.2=M7 (lk y.1).2:=by intro y a;simp only[H5]at a;subst a;simp[f,M7]
theorem b8x{a:Nat}{p:PV}{ws:List (Nat×Row)}(h:a5t lk a kt sz z m x=some (p,ws)):∀y∈ws,y.1=a∨((lk y.1).2≠ .dead∧M7 y.2.2=M7 (lk y.1).2):=by
 unfold a5t at h;split at h
 case h_2=>cases h
 split at h
 case h_2=>cases h
 rename_i c;split at h
 case isFalse=>cases h
 split at h
 . split at h
   . split at h
     . split at h
       . split at h
         . simp only[s7,s9]at h;obtain⟨_,rfl⟩:=h;intro y b;rcases a0p.1 b with rfl|b
           . exact .inr (b2r c _ a3v)
           . grind
         . cases h
       . cases h
     . cases h
   . grind
   . cases h
 . grind
 . cases h
theorem c9t{b:Nat}{p:PV}{ws:List (Nat×Row)}(h:a5t lk b kt sz z m x=some (p,ws)):∀y∈ws,M7 y.2.2=false:=by
 unfold a5t at h
 (repeat' (split at h))<;>first
  |(cases h;done)
  |(simp only[s7,s9]at h
    obtain⟨_,rfl⟩:=h;intro y a
    first
     |(cases a;done)
     |(simp only[a0p,List.not_mem_nil,or_false]at a
       rcases a with rfl|rfl<;>rfl))
theorem c8N{h:l7}{p:PV}{ws:List (Nat×Row)}(i:isApp op=true)(a:B3 ev (l8 h hide) op=some (p,ws))(hs:∀k∈I0 op,hide.contains k=false):∀y∈ws,hide.contains y.1=false:=by
 cases op<;>(try (simp[isApp]at i;done))
 case lookupT k kt sz z m x=>
  intro y c;rcases b8x a y c with e|⟨e,_⟩
  . rw[e];exact hs k (by simp[I0])
  . exact b0M e
 case append k sz b m s x=>
  simp only[B3]at a;split at a
  . rename_i news n j;split at a
    . split at a
      . rename_i v q d;simp only[s7,s9]at a;obtain⟨_,rfl⟩:=a;intro y c;rcases I4.1 c with c|c
        . exact b0M (a8y (b3h j y c))
        . have h1:=b3C d y c;cases f:ev s
          case own r g t s' o l=>
           rw[f]at h1 d;simp only[a4S]at h1;rw[h1];simp only[a1N]at d;split at d
           . rename_i he;exact b0M (by rw[he];simp)
           . cases d
          all_goals (rw[f]at h1;simp only[a4S]at h1;rw[h1];exact hs k (by simp[I0]))
      . cases a
    . cases a
  . cases a
def Res(FN:N7)(x:l6)(st:B5)(p:PV)(ws:List (Nat×Row)):Prop:=
 (gdO st.loc st.vars x.guard=some false∧p=.tup []∧ws=[])∨
 (gdO st.loc st.vars x.guard=some true∧((∃f args ks al r,x.op=.call f args ks al∧(al=true→args.all (fun a=>a3d (y9 st.loc st.vars a))=true)∧FN.fn f (ks.map (·.2)) (args.map fun a=>fzV (l8 st.heap x.hide) (y9 st.loc st.vars a)) r∧
  a4c st.heap.length ks ((args.map (y9 st.loc st.vars)).any (a2c (l8 st.heap x.hide))) r=true∧p=Z9 (O0 ks) (Z4 (l8 st.heap x.hide)) r∧ws=J9 (O0 ks) (Z4 (l8 st.heap x.hide)) 0 (B9 r))∨
  (∃f args,x.op=.callv f args∧fiH FN.fi x.hide (y9 st.loc st.vars) (y9 st.loc st.vars f) (args.map (y9 st.loc st.vars)) st.heap p ws)∨
  ((∀f a k al,x.op≠ .call f a k al)∧(∀f a,x.op≠ .callv f a)∧(∀f a,x.op≠ .cally f a)∧B3 (y9 st.loc st.vars) (l8 st.heap x.hide) x.op=some (p,ws))))
theorem a3F{FN:N7}{x:l6}{st:B5}{p:PV}{ws:List (Nat×Row)}(h:Res FN x st p ws)(a:L5 x.op≤2):∀y∈ws,y.1∈I0 x.op:=by
 rcases h with⟨_,_,rfl⟩|⟨_,⟨f,args,ks,al,r,b,_,_,c,_,rfl⟩|⟨f,args,b,_⟩|⟨_,_,_,g⟩⟩
 . intro y d;simp at d
 . intro y d;rw[b];unfold a4c at c;simp only[G4]at c;obtain⟨⟨⟨_,_⟩,j⟩,_⟩:=c;obtain⟨i,es,h1,k⟩:=b0n d;have hm:=a5r (ks:=O0 ks) (gen:=fun _=>0) (q:=0) h1;have e:=B0.1 j _ (E5.2 ⟨_,hm,rfl⟩);rw[G4]at e;have:=a0W.1 e.2;simp only[I0];rw[k];simpa using this
 . rw[b]at a;simp[L5]at a
 . exact b5X a g
theorem b3m{FN:N7}{x:l6}{st:B5}{p:PV}{ws:List (Nat×Row)}(h:Res FN x st p ws)(a:isApp x.op=true)(hs:∀k∈I0 x.op,x.hide.contains k=false):∀y∈ws,x.hide.contains y.1=false:=by
 rcases h with⟨_,_,rfl⟩|⟨_,⟨f,args,ks,al,r,b,_,_,e,_,rfl⟩|⟨f,args,b,_⟩|⟨_,_,_,c⟩⟩
 . intro y d;cases d
 . rw[b]at a;simp[isApp]at a
 . rw[b]at a;simp[isApp]at a
 . exact c8N a c hs
theorem c1V{h h':l7}(h1:agr [] h h'):h'=h:=a3u fun k=>h1.2 k rfl
theorem b6r{fi:PV→List PV→l7→PV→List (Nat×Row)→Prop}{a:List PV}{h:l7}{ws:List (Nat×Row)}(b:fiH fi hide ev v a h r ws):(∀h',agr hide h h'→fi v a h' r ws)∧a2f hide ev ws=true:=by
 cases hide with
 |nil=>exact⟨fun h' e=>by rw[c1V e];exact b,by simp[a2f]⟩
 |cons k l=>exact b
theorem c2s{ws:List (Nat×Row)}(a:a2f hide ev ws=true):∀y∈ws,hide.contains y.1=false:=fun y b=>by unfold a2f at a;rw[G4]at a;simpa using B0.1 a.1 y b
theorem c9h{ws:List (Nat×Row)}(a:a2f hide ev ws=true)(b:hide.contains (n+1000000)=true):a2a ws (ev (avO n))=true:=by
 unfold a2f at a;rw[G4]at a;have:=B0.1 a.2 _ (a0W.1 b);rw[a1j]at this;rcases this with h|h
 . rw[a1K]at h;omega
 . simpa using h
theorem a7U(h:quiet op=true):L5 op=2:=by cases op<;>(try (simp[quiet,a8O,a5C,isLit]at h;done))<;>rfl
section
variable{ks:Nat→Nat×Nat}{gen gen':Nat→Nat}
theorem b6A{kz:Nat×Nat}(h:∀es,c=.uslc es→gen kz.1=gen' kz.1):N1 kz gen c=N1 kz gen' c:=by
 cases c<;>simp only[N1]
 grind
theorem b8D:∀{cs:List PV} {p:Nat},(∀i es,cs[i]?=some (.uslc es)→gen (ks (p+i)).1=gen' (ks (p+i)).1)→a1T ks gen p cs=a1T ks gen' p cs
 | [],p,_=>rfl
 |c::cs,p,h=>by
  have h1:N1 (ks p) gen c=N1 (ks p) gen' c:=b6A fun es e=>h 0 es (by simp[e]);have a:a1T ks gen (p+1) cs=a1T ks gen' (p+1) cs:=b8D fun i es e=>by have:=h (i+1) es (by simpa using e);rwa[show p+(i+1)=p+1+i by omega]at this
  simp only[a1T];rw[h1,a]
theorem b6m{p:Nat}(h:∀i es,(l9 c)[i]?=some (.uslc es)→gen (ks (p+i)).1=gen' (ks (p+i)).1):a2h ks gen p c=a2h ks gen' p c:=by
 cases c
 case agg cs=>
  have h1:a1T ks gen p cs=a1T ks gen' p cs:=b8D h;simp only[a2h];rw[h1]
 all_goals (simp only[a2h];exact b6A fun es e=>h 0 es (by simp[l9,e]))
theorem c1a:∀{vs:List PV} {p:Nat},(∀i es,(vs.flatMap l9)[i]?=some (.uslc es)→gen (ks (p+i)).1=gen' (ks (p+i)).1)→a1x ks gen p vs=a1x ks gen' p vs
 | [],p,_=>rfl
 |c::vs,p,h=>by
  simp only[a1x];rw[b6m (gen':=gen') fun i es e=>h i es ?_,c1a fun i es e=>?_]
  . have:=h ((l9 c).length+i) es (by rw[a2Z,a3X i9];simpa using e)
    grind
  . grind
theorem c5W(h:∀i es,(B9 r)[i]?=some (.uslc es)→gen (ks i).1=gen' (ks i).1):Z9 ks gen r=Z9 ks gen' r:=by
 have h0:∀i es,((a0k r).flatMap l9)[i]?=some (.uslc es)→gen (ks (0+i)).1=gen' (ks (0+i)).1:=fun i es e=>by rw[V9];exact h i es e
 cases r
 case tup vs=>simp only[Z9];rw[c1a (by simpa[a0k]using h0)]
 all_goals (simp only[Z9];exact b6m (by simpa[a0k]using h0))
theorem c1g:∀{cells:List PV} {p:Nat},(∀i es,cells[i]?=some (.uslc es)→gen (ks (p+i)).1=gen' (ks (p+i)).1)→J9 ks gen p cells=J9 ks gen' p cells
 | [],p,_=>rfl
 |c::cs,p,h=>by
  have hr:=c1g (cells:=cs) (p:=p+1) fun i es e=>by have:=h (i+1) es (by simpa using e);rwa[show p+(i+1)=p+1+i by omega]at this
  cases c<;>simp only[J9]<;>(try exact hr)
  case uslc es=>rw[hr,show gen (ks p).1=gen' (ks p).1 from h 0 es rfl]
end
theorem c5S{lk':E1}{p:PV}(h:a3d p=true):fzV lk p=fzV lk' p:=by
 have a:∀c,(A9 c||(match c with| .nils=>true|_=>false))=true→fzC lk c=fzC lk' c:=fun c a=>by cases c<;>first|rfl|(simp[A9]at a;done)
 cases p
 case agg cs=>
  simp only[fzV];congr 1;exact K3 fun c hm=>a c (B0.1 h c hm)
 case ptr=>simp[a3d,l9,A9]at h
 case eptr=>simp[a3d,l9,A9]at h
 all_goals (simp only[fzV,fzP];refine a _ ?_;simp only[a3d,l9,List.all_cons,List.all_nil,Bool.and_true]at h;exact h)
theorem c2O{p:PV}(h:a3d p=true):a2c lk p=false:=by unfold a2c;rw[List.any_eq_false];intro c hm;have:=B0.1 h c hm;cases c<;>simp[A9,a5i]at this⊢
theorem c5e{ks:List (Nat×Nat)}{own:Bool}(h:a4c n ks own r=true){es:List PV}(hi:(B9 r)[i]?=some (.uslc es)):(O0 ks i).1∈(ks.filter (·.2 !=0)).map (·.1):=by
 unfold a4c at h;simp only[G4]at h;obtain⟨⟨⟨_,_⟩,a⟩,_⟩:=h;have hm:=a5r (ks:=O0 ks) (gen:=fun _=>0) (q:=0) hi;have b:=B0.1 a _ (E5.2 ⟨_,hm,rfl⟩)
 grind
theorem b9z{ks:List Nat}:∀y∈kill lk ks,y.2.2=.dead:=fun y a=>by obtain⟨k,b,rfl⟩:=E5.1 a;rfl
theorem c3c{m:Nat}{p:PV}{ws:List (Nat×Row)}(h:a2N lk m p=some (news,ws)):∀y∈ws,M7 y.2.2=false:=by
 cases p<;>simp only[a2N]at h<;>(try (cases h;done))<;>(try (simp only[s7,s9]at h;obtain⟨_,rfl⟩:=h;intro y a;cases a;done))
 case own k g b s o l=>
  split at h
  . split at h
    . split at h
      . split at h
        . split at h
          . cases h
          . simp only[s7,s9]at h;obtain⟨_,rfl⟩:=h;intro y a;rw[b9z y a];rfl
        . cases h
      . split at h
        . simp only[s7,s9]at h;obtain⟨_,rfl⟩:=h;split
          . intro y a;cases a
          . intro y a;simp only[H5]at a;subst a;rfl
        . cases h
    . cases h
  . cases h
 grind
theorem b2E{m:Nat}{p:PV}{ws:List (Nat×Row)}(h:a1Q lk m p=some (news,ws)):∀y∈ws,M7 y.2.2=false:=by
 unfold a1Q at h;split at h
 . cases p<;>simp only[a8m]at h<;>(try (cases h;done))
   grind
 . exact c3c h
theorem b8y{ws:List (Nat×Row)}(h:a1N lk k sz b s news=some (v,ws)):∀y∈ws,M7 y.2.2=false:=by
 cases s<;>simp only[a1N]at h<;>(try (cases h;done))
 all_goals
  (repeat' (split at h))<;>(try (cases h;done))<;>(simp only[s7,s9]at h;obtain⟨_,rfl⟩:=h;intro y a;simp only[H5]at a;subst a;rfl)
theorem c7Y{ws:List (Nat×Row)}(h:a1N lk k sz b s news=some (v,ws)):∀y∈ws,y.1=k∨isA (lk y.1).2=true:=by
 intro y a;have h1:=b3C h y a;cases s<;>simp only[a1N]at h<;>(try (cases h;done))
 case nils=>exact .inl h1
 case ne=>exact .inl h1
 case own c g d s' o l=>
  simp only[a4S]at h1;split at h
  . rename_i he;rw[h1,he];exact .inr rfl
  . cases h
theorem b0R{a:PV}{ws:List (Nat×Row)}(h:a5b lk sz a v=some ws):∀y∈ws,(lk y.1).2≠ .dead∧M7 y.2.2=M7 (lk y.1).2:=by
 unfold a5b at h;split at h
 . cases a<;>(try (cases h;done))
   case ptr k g o=>
    dsimp only at h;split at h
    . rename_i he;split at h
      . cases h;intro y b;simp only[H5]at b;subst b;rw[he];exact⟨l5,rfl⟩
      . cases h
    . cases h
   case eptr k g d s i j=>
    dsimp only at h;split at h
    . rename_i he;split at h
      . split at h
        . split at h
          . split at h
            . rename_i c;split at h
              . cases h
              . cases h;intro y b;rcases I4.1 b with b|b
                . have h1:=b3Z c _ (b5E y b);exact⟨a8y h1,by rw[b9z y b,b1q h1];rfl⟩
                . simp only[H5]at b;subst b;rw[he];exact⟨l5,rfl⟩
            . cases h
          . cases h
        . cases h
      . cases h
    . cases h
   case nptr k g ver s i j m l=>
    dsimp only at h;split at h
    . rename_i he;split at h
      . split at h
        . split at h
          . split at h
            . split at h
              . cases h;intro y b;simp only[H5]at b;subst b;rw[he];exact⟨l5,rfl⟩
              . cases h
            . cases h
          . cases h
        . cases h
      . cases h
    . cases h
 . cases h
theorem c5g{a:PV}{ws:List (Nat×Row)}(h:a7j lk n a v=some ws):∀y∈ws,(lk y.1).2≠ .dead∧M7 y.2.2=M7 (lk y.1).2:=by
 cases a<;>simp only[a7j]at h<;>(try exact b0R h)
 case eptr k g d s i j=>
  split at h
  . cases v<;>(try (cases h;done));simp only[]at h;split at h
    . rename_i e sz ver fr es c;split at h
      . simp only[s7]at h;subst h;intro y b;simp only[H5]at b;subst b;rw[c];exact⟨l5,rfl⟩
      . cases h
    . cases h
  . exact b0R h
theorem c8r{p:PV}{b ws:List (Nat×Row)}(h:a7c lk sz d news b=some (p,ws))(h0:∀y∈b,isA (lk y.1).2=true∧M7 y.2.2=false):∀y∈ws,isA (lk y.1).2=true∧M7 y.2.2=false:=by
 unfold a7c at h;split at h
 . cases d<;>(try (cases h;done))
   case nils=>simp only[s7,s9]at h;obtain⟨_,rfl⟩:=h;exact h0
   case' own k g c s o l=>skip
   case' osl k g c s o l=>skip
   all_goals
    dsimp only at h;split at h
    . rename_i he;split at h
      . split at h
        . grind
        . simp only[s7,s9]at h;obtain⟨_,rfl⟩:=h;intro y a;rcases I4.1 a with a|a
          . exact h0 y a
          . simp only[H5]at a;subst a;rw[he];exact⟨rfl,rfl⟩
      . cases h
    . cases h
 . cases h
theorem c1v{ks:List Nat}(h:a6v lk c=some (d,ks)):∀k∈ks,isA (lk k).2=true:=by
 unfold a6v at h;split at h
 . exact b8j h
 . grind
theorem c8A{p:PV}{ws:List (Nat×Row)}(h:a7p lk kt m x v=some (p,ws)):∀y∈ws,(lk y.1).2≠ .dead∧M7 y.2.2=M7 (lk y.1).2:=by
 unfold a7p at h;split at h
 case h_2=>cases h
 split at h
 case h_2=>cases h
 rename_i b;split at h
 case isFalse=>cases h
 split at h
 case h_2=>cases h
 rename_i c;split at h
 case isTrue=>cases h
 have key:∀{ks vs:List PV} {g:Nat},∀y∈(kill lk _++[(_,(g,Ob.mp false ks vs))]:List (Nat×Row)),(lk y.1).2≠ .dead∧M7 y.2.2=M7 (lk y.1).2:=fun y a=>by
  rcases I4.1 a with a|a
  . simp only[kill,E5]at a;obtain⟨k,d,rfl⟩:=a;have:=c1v c k d;exact⟨a8y this,by rw[b1q this];rfl⟩
  . exact b2r b y a
 grind
theorem c9V{p:PV}{ws:List (Nat×Row)}(h:a6R lk m=some (p,ws)):∀y∈ws,(lk y.1).2≠ .dead∧M7 y.2.2=M7 (lk y.1).2:=by
 unfold a6R at h;split at h
 . split at h
   . rename_i a;split at h
     . simp only[s7,s9]at h;obtain⟨_,rfl⟩:=h;exact b2r a
     . cases h
   . cases h
 . grind
 . cases h
theorem c2k{p:PV}{ws:List (Nat×Row)}(h:a6U lk z m=some (p,ws)):∀y∈ws,(lk y.1).2≠ .dead∧M7 y.2.2=M7 (lk y.1).2:=by
 unfold a6U at h;split at h
 . grind
 . split at h
   . rename_i b
     (repeat' (split at h))<;>(try (cases h;done))
     simp only[s7,s9]at h;obtain⟨_,rfl⟩:=h;intro y a;simp only[H5]at a;subst a;rw[b];exact⟨l5,rfl⟩
   . cases h
 . cases h
theorem c4y{p:PV}{ws:List (Nat×Row)}(h:B3 ev lk op=some (p,ws)):∀y∈ws,y.1∈I0 op∨((lk y.1).2≠ .dead∧M7 y.2.2=M7 (lk y.1).2):=by
 have i:∀{ws:List (Nat×Row)},(∀y∈ws,isA (lk y.1).2=true∧M7 y.2.2=false)→∀y∈ws,y.1∈I0 op∨((lk y.1).2≠ .dead∧M7 y.2.2=M7 (lk y.1).2):=fun h y c=>by obtain⟨h1,o⟩:=h y c;exact .inr ⟨a8y h1,by rw[o,b1q h1]⟩
 by_cases j:L5 op≤2
 . exact fun y c=>.inl (b5X j h y c)
 . cases op<;>(try (simp[L5]at j;done))<;>simp only[B3]at h<;>(try (cases h;done))
   case store sz a v=>
    split at h
    . rename_i g hs;simp only[s7,s9]at h;obtain⟨_,rfl⟩:=h;exact fun y c=>.inr (b0R hs y c)
    . cases h
   case storeN sz a v av=>
    split at h
    . rename_i g hs;split at h
      . simp only[s7,s9]at h;obtain⟨_,rfl⟩:=h;exact fun y c=>.inr (b0R hs y c)
      . cases h
    . cases h
   case mapUpd kt m x v=>exact fun y c=>.inr (c8A h y c)
   case clearM m=>exact fun y c=>.inr (c9V h y c)
   case clearS z x=>exact fun y c=>.inr (c2k h y c)
   case lookupT k kt sz z m x=>exact fun y c=>(b8x h y c).imp (fun e=>by simp[I0,e]) id
   case storeA n a v=>
    split at h
    . rename_i g hs;simp only[s7,s9]at h;obtain⟨_,rfl⟩:=h;exact fun y c=>.inr (c5g hs y c)
    . cases h
   case append k sz b m s x=>
    split at h
    . rename_i news q f;split at h
      . split at h
        . rename_i v g l;simp only[s7,s9]at h;obtain⟨_,rfl⟩:=h;intro y c;rcases I4.1 c with c|c
          . exact i (fun y c=>⟨b3h f y c,b2E f y c⟩) y c
          . rcases c7Y l y c with h1|h1
            . exact .inl (by rw[h1];simp[I0])
            . exact .inr ⟨a8y h1,by rw[b8y l y c,b1q h1]⟩
        . cases h
      . cases h
    . cases h
   case copy sz d s=>
    split at h
    . rename_i news q f;exact i (c8r h fun y c=>⟨b3h f y c,b2E f y c⟩)
    . cases h
theorem b6g{FN:N7}{x:l6}{st:B5}{p:PV}{ws:List (Nat×Row)}(h:Res FN x st p ws)(c:a4j x.op=false):∀y∈ws,y.1∈I0 x.op∨(x.hide.contains y.1=false∧M7 y.2.2=M7 (st.heap.getD y.1 (0,.dead)).2):=by
 have h0:=h;rcases h with⟨_,_,rfl⟩|⟨_,⟨f,args,ks,al,r,b,_,_,i,_,rfl⟩|⟨f,args,b,_⟩|⟨_,_,_,e⟩⟩
 . intro y a;cases a
 . exact fun y a=>.inl (a3F h0 (by rw[b];exact m9 _) y a)
 . rw[b]at c;cases c
 . intro y a;refine(c4y e y a).imp id fun⟨h1,g⟩=>?_;have d:=b0M h1;refine⟨d,?_⟩;rw[g];unfold l8;rw[d];rfl
theorem c0w:∀{ws:List (Nat×Row)} {h:l7} {k:Nat} {r:Row},(p8 h ws)[k]?=some r→(k,r)∈ws∨h[k]?=some r
 | [],h,k,r,e=>.inr e
 |x::ws,h,k,r,e=>by
  rcases c0w (show(p8 (h.set x.1 x.2) ws)[k]?=some r from e)with e|e
  all_goals grind
theorem b4t{FN:N7}{Q:B5→Prop}:∀{xs:List l6} {st:B5},xs.any (fun x=>a7B x.op)=false→G6 FN xs st Q→∃(T:Nat→B5) (p:Nat→PV) (ws:Nat→List (Nat×Row)),T 0=st∧Q (T xs.length)∧
 ∀i x,xs[i]?=some x→Res FN x (T i) (p i) (ws i)∧T (i+1)=⟨(T i).loc++[p i],K0 (T i).vars x.var (p i),p8 (T i).heap (ws i)⟩
 | [],st,_,h=>⟨fun _=>st,fun _=>.uu,fun _=>[],rfl,h,fun i x g=>by simp at g⟩
 |x::xs,st,k,h=>by
  simp only[List.any_cons,Bool.or_eq_false_iff]at k;have o:∀f a,x.op≠ .cally f a:=fun f a e=>by rw[e]at k;cases k.1
  have:∃p ws,Res FN x st p ws∧G6 FN xs ⟨st.loc++[p],K0 st.vars x.var p,p8 st.heap ws⟩ Q:=by
   cases d:gdO st.loc st.vars x.guard with
   |none=>simp only[G6,d]at h
   |some c=>
    cases c with
    |false=>simp only[G6,d]at h;exact⟨_,[],.inl ⟨d,rfl,rfl⟩,h⟩
    |true=>
     by_cases l:∃f b ks j,x.op=.call f b ks j
     . obtain⟨f,b,ks,j,g⟩:=l;simp only[G6,d,g]at h;obtain⟨r,q,m,s,h'⟩:=h;exact⟨_,_,.inr ⟨d,.inl ⟨f,b,ks,j,r,g,q,m,s,rfl,rfl⟩⟩,h'⟩
     . by_cases n:∃f b,x.op=.callv f b
       . obtain⟨f,b,g⟩:=n;simp only[G6,d,g]at h;obtain⟨r,ws,m,h'⟩:=h;exact⟨_,_,.inr ⟨d,.inr (.inl ⟨f,b,g,m⟩)⟩,h'⟩
       . obtain⟨p,ws,t,h'⟩:=b6h (fun f b ks j e=>l ⟨f,b,ks,j,e⟩) (fun f b e=>n ⟨f,b,e⟩) o d h;exact⟨p,ws,.inr ⟨d,.inr (.inr ⟨fun f b ks j e=>l ⟨f,b,ks,j,e⟩,fun f b e=>n ⟨f,b,e⟩,o,t⟩)⟩,h'⟩
  obtain⟨u,v,h0,h1⟩:=this;obtain⟨T,p,ws,t1,t2,t3⟩:=b4t k.2 h1;refine⟨fun i=>match i with|0=>st|i+1=>T i,fun i=>match i with|0=>u|i+1=>p i,fun i=>match i with|0=>v|i+1=>ws i,rfl,t2,fun i y w=>?_⟩
  grind
def J7(q:Nat→Bool):Nat→Option Nat
 |0=>none
 |i+1=>if q i then some i else J7 q i
theorem b6F{q:Nat→Bool}:∀{n j:Nat},J7 q n=some j→j<n∧q j=true
 |0,j,h=>by simp[J7]at h
 |n+1,j,h=>by
  simp only[J7]at h;split at h
  . grind
  . obtain⟨h1,a⟩:=b6F h;exact⟨i9,a⟩
theorem a8s{q q':Nat→Bool}:∀{n:Nat},(∀j,j<n→q j=q' j)→J7 q n=J7 q' n
 |0,_=>rfl
 |n+1,h=>by simp only[J7];rw[h n i9,a8s fun j hj=>h j i9]
theorem b4m{q:Nat→Bool}{i:Nat}:∀{n:Nat},i≤n→(∀j,i≤j→j<n→q j=false)→J7 q n=J7 q i
 |0,h,_=>by
  obtain rfl:i=0:=i9;rfl
 |n+1,h,a=>by
  by_cases hi:i=n+1
  . subst hi;rfl
  . simp only[J7];rw[a n i9 i9,if_neg l5];exact b4m i9 fun j h1 b=>a j h1 i9
theorem b3L(hi:i<n)(hS:S i=false)(a:∀j,j<n→((j<i∧S j=false)∨(i<j∧S j=true))→q j=false):J7 (fun j=>S j&&q j) n=J7 q i:=by
 rw[b4m (a5N hi) fun j h1 b=>?_]
 . refine a8s fun j hj=>?_;cases hs:S j
   . grind
   . rfl
 . grind
theorem b7N(hi:i<n)(a:q i=true)(b:∀j,j<n→i<j→S j=true→q j=false):J7 (fun j=>(S j||j==i)&&q j) n=some i:=by
 rw[b4m (i:=i+1) i9 fun j h1 c=>?_]
 . simp only[J7];simp[a]
 . grind
theorem b7w(a:q i=false):J7 (fun j=>(S j||j==i)&&q j) n=J7 (fun j=>S j&&q j) n:=by grind
theorem b1B{ops:List Oper}{t:Nat}:∀{i:Nat},a0S ops t i=J7 (fun j=>decide ((ops[j]?).bind (·.dst)=some t)) i
 |0=>rfl
 |i+1=>by simp only[a0S,J7,decide_eq_true_eq];rw[b1B]
theorem b6Q:∀{ws:List (Nat×Row)} {h h':l7} {k:Nat},k∈ws.map (·.1)→h.length=h'.length→(p8 h ws)[k]?=(p8 h' ws)[k]?
 | [],_,_,_,a,_=>by simp at a
 |(b,r)::ws,h,h',k,a,c=>by
  show(p8 (h.set b r) ws)[k]?=(p8 (h'.set b r) ws)[k]?;by_cases hm:k∈ws.map (·.1)
  . exact b6Q hm (by simpa using c)
  . have:k=b:=(by simp only[a0N,a0p]at a;exact a.resolve_right hm);subst this;rw[a5q _ _ _ hm,a5q _ _ _ hm,List.getElem?_set_self',List.getElem?_set_self']
    grind
structure Trace(FN:N7)(xs:List l6)(vars:List PV)(h:l7)(T:Nat→B5)(p:Nat→PV)(ws:Nat→List (Nat×Row)):Prop where
 t0:T 0=⟨[],vars,h⟩
 st:∀i x,xs[i]?=some x→Res FN x (T i) (p i) (ws i)∧T (i+1)=⟨(T i).loc++[p i],K0 (T i).vars x.var (p i),p8 (T i).heap (ws i)⟩
section
variable{FN:N7}{xs:List l6}{vars:List PV}{h:l7}{T:Nat→B5}{p:Nat→PV}{ws:Nat→List (Nat×Row)}
theorem Trace.next(t:Trace FN xs vars h T p ws)(hi:i<xs.length):T (i+1)=⟨(T i).loc++[p i],K0 (T i).vars (xs[i]).var (p i),p8 (T i).heap (ws i)⟩:=(t.st i _ (m7 hi)).2
theorem Trace.loc(t:Trace FN xs vars h T p ws):∀{i:Nat},i≤xs.length→(T i).loc.length=i∧∀j,j<i→(T i).loc.getD j .uu=p j
 |0,_=>by rw[t.t0];exact⟨rfl,fun j hj=>i9⟩
 |i+1,hi=>by
  obtain⟨h1,a⟩:=t.loc (i:=i) i9;rw[t.next i9]
  grind
theorem Trace.len(t:Trace FN xs vars h T p ws):∀{i:Nat},i≤xs.length→(T i).heap.length=h.length
 |0,_=>by rw[t.t0]
 |i+1,hi=>by rw[t.next i9];simp only[a6i];exact t.len i9
theorem Trace.c7D(t:Trace FN xs vars h T p ws)(hi:i<xs.length)(a:a4j (xs[i]).op=false)(b:k∉I0 (xs[i]).op):M7 ((T (i+1)).heap.getD k (0,.dead)).2=M7 ((T i).heap.getD k (0,.dead)).2:=by
 rw[t.next hi];simp only;have hr:=b6g (t.st i _ (m7 hi)).1 a;rw[u9];cases he:(p8 (T i).heap (ws i))[k]? with
 |none=>
  have:(T i).heap.length≤k:=by have:=List.getElem?_eq_none_iff.1 he;rwa[a6i]at this
  rw[u9,a0d this]
 |some r=>
  simp only[a4F];rcases c0w he with hm|hm
  . grind
  . grind
theorem Trace.kinds(t:Trace FN xs vars h T p ws)(b:∀m (hm:m<xs.length),a4j (xs[m]).op=false){k a:Nat}:∀{n:Nat},a+n≤xs.length→(∀m (hm:m<xs.length),a≤m→m<a+n→k∉I0 (xs[m]).op)→M7 ((T (a+n)).heap.getD k (0,.dead)).2=M7 ((T a).heap.getD k (0,.dead)).2
 |0,_,_=>rfl
 |n+1,d,hm=>by rw[show a+(n+1)=a+n+1 by omega,t.c7D i9 (b _ i9) (hm (a+n) i9 i9 i9)];exact t.kinds b i9 fun m c h1 e=>hm m c h1 i9
def wr(ws:Nat→List (Nat×Row))(k j:Nat):Bool:=((ws j).map (·.1)).contains k
theorem Trace.heap(t:Trace FN xs vars h T p ws)(k:Nat):∀{i:Nat},i≤xs.length→(T i).heap[k]?=match J7 (wr ws k) i with|some j=>(T (j+1)).heap[k]?|none=>h[k]?
 |0,_=>by rw[t.t0];rfl
 |i+1,hi=>by
  simp only[J7];by_cases hw:wr ws k i=true
  . rw[if_pos hw]
  . rw[if_neg hw,←t.heap k (i:=i) i9,t.next i9];exact a5q _ _ _ fun hm=>hw (a0W.2 hm)
theorem Trace.vr(t:Trace FN xs vars h T p ws){q:Nat→Bool}{k:Nat}(c:∀j (hj:j<xs.length),(xs[j]).var=some k→q j=true)(d:∀j (hj:j<xs.length),q j=true→(xs[j]).var=some k):∀{i:Nat},i≤xs.length→(T i).vars.getD k .uu=.uu∨(T i).vars.getD k .uu=match J7 q i with|some j=>p j|none=>vars.getD k .uu
 |0,_=>by rw[t.t0];exact .inr rfl
 |i+1,hi=>by
  simp only[J7];have b:i<xs.length:=i9;rw[t.next b];by_cases a:(xs[i]).var=some k
  . rw[if_pos (c i b a),a];simp only[K0,u9]
    grind
  . rw[if_neg fun e=>a (d i b e)];have:(K0 (T i).vars (xs[i]).var (p i)).getD k .uu=(T i).vars.getD k .uu:=by
     cases f:(xs[i]).var with
     |none=>rfl
     |some g=>
      simp only[K0,u9];rw[F7 fun e=>a (by rw[f,e])]
    rw[this];exact t.vr c d i9
end
end
end
section
variable{P:Program}{B:Nat}{Z0:Nat→Prop}{W0:N2 B}
def b6w(x y:N9):Prop:=y=x∨∃sz a v av,x=.store sz a v∧y=.storeN sz a v av
theorem b4f{ws:List Nat}{xs:List l6}{i:Nat}{x:l6}:b6w x.op (a2y ws xs i x).op∧(a2y ws xs i x).guard=x.guard∧(a2y ws xs i x).var=x.var∧I0 (a2y ws xs i x).op=I0 x.op∧∀k∈a8x ws xs i,k∈(a2y ws xs i x).hide:=by
 unfold a2y;split
 . rename_i h1 b;exact⟨.inr ⟨_,_,_,_,h1,rfl⟩,rfl,rfl,by rw[h1];rfl,fun k a=>a⟩
 . rename_i h1;exact⟨.inl h1.symm,rfl,rfl,by rw[h1],fun k a=>a4G _ a⟩
 . exact⟨.inl rfl,rfl,rfl,rfl,fun k a=>a⟩
structure b7M(P:Program)(vs:List Nat)(N:Nat)(ops:List Oper)(i:Nat)(o:Oper)(x:l6):Prop where
 op:∃k app al x0,a2M P (a6t o (a0x vs ops i)) k app al o.type o.op=some x0∧b6w x0 x.op
 gd:(match o.guard with
     |none=>some none
     |some (j,b)=>match(ops[j]?).bind (·.dst)with
      |some t=>(a0x vs ops i (.tmp t)).map fun d=>some (d,b)
      |none=>none)=some x.guard
 var:x.var=o.dst.bind (vs.idxOf? ·)
 dst:∀t,o.dst=some t→t<N
theorem b7l{vs:List Nat}{N:Nat}{ops:List Oper}{al:Bool}:∀(rest:List Oper) (acc:List l6) (k b:Nat) (xs:List l6),ops.drop acc.length=rest→a4Z P vs N ops al acc k rest=some (xs,b)→
 ∃tail,xs=acc++tail∧tail.length=rest.length∧∀(i:Nat) o,rest[i]?=some o→∃x,tail[i]?=some x∧b7M P vs N ops (acc.length+i) o x∧∃k app al,a2M P (a6t o (a0x vs ops (acc.length+i))) k app al o.type o.op=some x.op
 | [],acc,k,b,xs,e,a=>by
  simp only[a4Z,s7,s9]at a;exact⟨[],by simp[a.1],rfl,fun i o l=>by simp at l⟩
 |o::rest,acc,k,b,xs,e,a=>by
  have r:ops.drop (acc.length+1)=rest:=by rw[←a2X,e];rfl
  simp only[a4Z]at a;split at a
  . cases a
  . rename_i c f;split at a
    . cases a
    . rename_i g m;split at a
      . rename_i h;obtain⟨tail,rfl,h1,n⟩:=b7l rest (acc++[{op:=c,var:=o.dst.bind (vs.idxOf? ·),guard:=g,hide:=[]}]) (k+b3V c) b xs (by grind) a;refine⟨{op:=c,var:=o.dst.bind (vs.idxOf? ·),guard:=g,hide:=[]}::tail,l5,by simp[h1],fun i y d=>?_⟩;cases i with
        |zero=>
         simp only[List.getElem?_cons_zero,s7]at d;subst d;exact⟨_,rfl,⟨⟨_,_,_,_,f,.inl rfl⟩,m,rfl,fun t p=>by simp only[b3r,p]at h;simpa[a1K]using h⟩,_,_,_,f⟩
        |succ i=>
         obtain⟨x,q,j⟩:=n i y (by simpa using d);refine⟨x,by simpa using q,?_⟩;simp only[a0D,a0a,a7J]at j;rw[show acc.length+(i+1)=acc.length+1+i by omega];exact j
      . cases a
theorem c2c{acc:List Nat}{o:Oper}{j:Nat}(h:(a5H acc o).testBit j=true):∃e∈o.after.toList,Region.binds .any e=true∧e.on<acc.length∧(j=e.on∨(acc.getD e.on 0).testBit j=true):=by
 unfold a5H at h;generalize o.after.toList=l at h
 induction l with
 |nil=>simp at h
 |cons e l b=>
  simp only[List.foldr_cons]at h;split at h
  . rename_i a;simp only[G4,a1K]at a
    grind
  . grind
theorem b3i:∀(rest:List Oper) (acc:List Nat),∃tail,I3 acc rest=acc++tail∧tail.length=rest.length∧∀(i:Nat) o,rest[i]?=some o→tail[i]?=some (a5H (acc++tail.take i) o)
 | [],acc=>⟨[],by simp[I3],rfl,fun i o b=>by simp at b⟩
 |o::rest,acc=>by
  obtain⟨tail,h1,c,d⟩:=b3i rest (acc++[a5H acc o]);refine⟨a5H acc o::tail,by simp[I3,h1],by simp[c],fun i y a=>?_⟩;cases i with
  |zero=>simp only[List.getElem?_cons_zero,s7]at a;subst a;simp
  |succ i=>have:=d i y (by simpa using a);simpa using this
theorem a8t{ops:List Oper}{i j:Nat}{o:Oper}(b:ops[i]?=some o)(h:((I3 [] ops).getD i 0).testBit j=true):∃e∈o.after.toList,Region.binds .any e=true∧e.on<i∧(j=e.on∨((I3 [] ops).getD e.on 0).testBit j=true):=by
 obtain⟨tail,h1,c,a⟩:=b3i ops [];simp only[a4C]at h1 a;rw[h1]at h⊢;have hi:i<tail.length:=by grind
 rw[u9,a i o b,a4F]at h;obtain⟨e,d,f,g,k⟩:=c2c h
 grind
theorem c9a{acc:List Nat}{o:Oper}{e:Edge}(he:e∈o.after.toList)(hb:Region.binds .any e=true)(b:e.on<acc.length){j:Nat}(hj:(acc.getD e.on 0).testBit j=true):(a5H acc o).testBit j=true:=by
 unfold a5H;generalize o.after.toList=l at he
 induction l with
 |nil=>cases he
 |cons a l c=>
  simp only[List.foldr_cons];rcases a0p.1 he with rfl|he
  . rw[if_pos (by simp[hb,b])]
    grind
  . grind
theorem b5s{ops:List Oper}{m i:Nat}(f:((I3 [] ops).getD m 0).testBit i=true):∀(j:Nat),j<ops.length→((I3 [] ops).getD j 0).testBit m=true→((I3 [] ops).getD j 0).testBit i=true:=by
 intro j
 induction j using Nat.strongRecOn with
 |_ j g=>
  intro hj h1;obtain⟨e,b,c,d,h⟩:=a8t (m7 hj) h1;have a:((I3 [] ops).getD e.on 0).testBit i=true:=by grind
  obtain⟨tail,t1,t2,t3⟩:=b3i ops [];simp only[a4C]at t1 t3;rw[t1]at a⊢;rw[u9,t3 j _ (m7 hj),a4F];refine c9a b c I2 ?_;simp only[u9,a0y,if_pos d]at a⊢;exact a
theorem b1x:∀{ops:List Oper} {k:Nat},a4b k ops=true→∀(i:Nat) o,ops[i]?=some o→∀e∈o.after.toList,Region.binds .any e=true→e.on<k+i
 | [],_,_,i,o,b=>by simp at b
 |o::r,k,h,i,y,a=>by
  simp only[a4b,G4]at h;cases i with
  |zero=>
   simp only[List.getElem?_cons_zero,s7]at a;subst a;intro e he hb;have:=Array.all_eq_true'.1 h.1 e (by simpa using he);rw[hb]at this;simpa[a1K]using this
  |succ i=>
   intro e he hb;have:=b1x h.2 i y (by simpa using a) e he hb;omega
structure a0K(P:Program)(vs:List Nat)(N:Nat)(ops:List Oper)(xs:List l6):Prop where
 len:xs.length=ops.length
 ok:∀i o,ops[i]?=some o→∃x,xs[i]?=some x∧b7M P vs N ops i o x
 un:∀i j x y a b,xs[i]?=some x→xs[j]?=some y→ops[i]?=some a→ops[j]?=some b→T3 (I3 [] ops) i j=true→
  a.apart ops.toArray b=true∧b.apart ops.toArray a=true∧a2v x y=true∧∀k∈I0 y.op,k∈x.hide
 ed:a4b 0 ops=true
 cy:xs.any (fun x=>a7B x.op)=false
 av:∀y∈xs,avV xs y=true
 cv:∀(i j:Nat) (x y:l6),xs[i]?=some x→xs[j]?=some y→a5C x.op=true→a4j y.op=false
theorem a9t{ws:List Nat}{i j:Nat}(h:T3 ws i j=true):T3 ws j i=true:=by
 unfold T3 at*;split at h
 . grind
 . grind
theorem c5u{x y:l6}(h:a2v x y=true):a2v y x=true:=by
 unfold a2v at*;simp only[a1j,G4,decide_eq_true_eq,beq_iff_eq]at*;rcases h with(((((((h|h)|h)|h)|h)|h)|h)|h)
 . omega
 . omega
 . omega
 all_goals grind
theorem b3o{vs:List Nat}{N k w:Nat}{ops:List Oper}{xs:List l6}(h:a4V P vs N k ops true=some (xs,w)):a0K P vs N ops xs:=by
 unfold a4V at h;split at h
 . cases h
 . rename_i c g z;simp only[if_true]at h;split at h
   . rename_i hd;unfold b8C at hd;simp only[G4]at hd;obtain⟨⟨⟨⟨A,B⟩,S⟩,hd⟩,C⟩:=hd;simp only[s7,s9]at h;obtain⟨rfl,rfl⟩:=h;obtain⟨tail,h1,D,s⟩:=b7l ops [] k g c rfl z;simp only[a4C,a7J,V9]at h1 s;subst h1;have t:∀(i:Nat),((c.zipIdx.map fun y=>a2y (I3 [] ops) c y.2 y.1)[i]?)=(c[i]?).map fun x=>a2y (I3 [] ops) c i x:=fun i=>by
      rw[H6,List.getElem?_zipIdx];cases c[i]?<;>simp
     refine⟨by simp[D],fun i o E=>?_,fun i j x y a b n l p hb hu=>?_,C,?_,fun y l=>B0.1 A y l,fun i j x y n l T=>?_⟩
     . obtain⟨x,F,f,m,G,H,I⟩:=s i o E;obtain⟨l1,J,K,_⟩:=b4f (ws:=I3 [] ops) (xs:=c) (i:=i) (x:=x);refine⟨a2y (I3 [] ops) c i x,by rw[t,F];rfl,⟨m,G,H,_,I,l1⟩,by rw[J];exact f.gd,by rw[K];exact f.var,f.dst⟩
     . rw[t]at n l;obtain⟨x0,u,rfl⟩:=D0.1 n;obtain⟨d,q,rfl⟩:=D0.1 l;have L:i<ops.length:=(B8.1 p).1;have M:j<ops.length:=(B8.1 hb).1;have key:∀(i j:Nat) (x0 d:l6) (a b:Oper),i<j→j<ops.length→c[i]?=some x0→c[j]?=some d→ops[i]?=some a→ops[j]?=some b→T3 (I3 [] ops) j i=true→a.apart ops.toArray b=true∧b.apart ops.toArray a=true∧a2v (a2y (I3 [] ops) c i x0) (a2y (I3 [] ops) c j d)=true:=(by grind);have O:i≠j:=fun e=>(by subst e;simp[T3]at hu);have f:∀k∈I0 (a2y (I3 [] ops) c j d).op,k∈(a2y (I3 [] ops) c i x0).hide:=fun k v=>by
        rw[(b4f (ws:=I3 [] ops) (xs:=c) (i:=j) (x:=d)).2.2.2.1]at v;refine(b4f (ws:=I3 [] ops) (xs:=c) (i:=i) (x:=x0)).2.2.2.2 k ?_;unfold a8x;refine List.mem_flatten.2 ⟨I0 d.op,E5.2 ⟨(d,j),a7M.2 ⟨?_,by simpa using hu⟩,rfl⟩,v⟩;exact List.mem_zipIdx_iff_getElem?.2 q
       rcases a9z O with Q|R
       . obtain⟨g,m,r⟩:=key i j x0 d a b Q M u q p hb (a9t hu);exact⟨g,m,r,f⟩
       . obtain⟨g,m,r⟩:=key j i d x0 b a R L q u hb p hu;exact⟨m,g,c5u r,f⟩
     . simpa using B
     . grind
   . cases h
end
section
variable{x y:l6}{j k t:Nat}{o:Oper}{q:PV}
def dq(ops:List Oper)(t:Nat)(j:Nat):Bool:=decide ((ops[j]?).bind (·.dst)=some t)
structure a1d(P:Program)(B:Nat)(Z0:Nat→Prop)(W0:N2 B)(vs:List Nat)(N:Nat)(ops:List Oper)(vars:List PV)(h:l7)(T:Nat→B5)(p:Nat→PV)(ws:Nat→List (Nat×Row))(S:Nat→Bool)(G:Gh)(hS:l7)(a:Act)(w:World):Prop where
 hr:s6 B Z0 G hS w
 len:hS.length=h.length
 hp:∀k:Nat,hS[k]?=match J7 (fun j=>S j&&wr ws k j) ops.length with|some j=>(T (j+1)).heap[k]?|none=>h[k]?
 slw:∀t j,J7 (fun j=>S j&&dq ops t j) ops.length=some j→∃v,a.tmps[t]?=some v∧j8 G hS w D v (p j)
 sl0:∀t,J7 (fun j=>S j&&dq ops t j) ops.length=none→∀k,vs[k]?=some t→∃v,a.tmps[t]?=some v∧j8 G hS w D v (vars.getD k .uu)
 sz:a.tmps.size=N
 df:a0u W0.m a.defers w
 be:W0.psi (Y1 vs vars) G hS w
section
variable{P:Program}{B:Nat}{Z0:Nat→Prop}{W0:N2 B}{vs:List Nat}{N:Nat}{ops:List Oper}{xs:List l6}{vars:List PV}{h:l7}{T:Nat→B5}{p:Nat→PV}{ws:Nat→List (Nat×Row)}{S:Nat→Bool}{G G':Gh}{hS:l7}{a:Act}{w w':World}
structure Next(ops:List Oper)(S:Nat→Bool)(i:Nat):Prop where
 lt:i<ops.length
 out:S i=false
 down:∀j k,S j=true→j<ops.length→((I3 [] ops).getD j 0).testBit k=true→S k=true
 mine:∀k,((I3 [] ops).getD i 0).testBit k=true→S k=true
theorem Next.a7v{i:Nat}(n:Next ops S i)(hj:j<ops.length)(h:(j<i∧S j=false)∨(i<j∧S j=true)):T3 (I3 [] ops) i j=true:=by
 unfold T3;rcases h with⟨h1,a⟩|⟨h1,a⟩
 . rw[if_pos h1];cases hb:((I3 [] ops).getD i 0).testBit j
   . rfl
   . have:=n.mine j hb;rw[a]at this;cases this
 . rw[if_neg i9,if_pos h1];cases hb:((I3 [] ops).getD j 0).testBit i
   . rfl
   . have:=n.down j i a hj hb;rw[n.out]at this;cases this
theorem a5B(a:ops[j]?=some o):dq ops t j=true↔o.dst=some t:=by unfold dq;rw[a];simp
theorem c8o(d:a0K P vs N ops xs){i:Nat}(n:Next ops S i)(a:ops[i]?=some o)(c:t∈o.looksAt ops.toArray):J7 (fun j=>S j&&dq ops t j) ops.length=a0S ops t i:=by
 rw[b1B];refine b3L n.lt n.out fun j hj e=>?_;obtain⟨x,f,_⟩:=d.ok i o a;obtain⟨b,hb⟩:∃b,ops[j]?=some b:=⟨_,m7 hj⟩
 obtain⟨y,g,_⟩:=d.ok j b hb;obtain⟨h1,h,_,_⟩:=d.un i j x y o b f g a hb (n.a7v hj e);have:=(Oper.apart_spec h).1;show dq ops t j=false;cases k:dq ops t j
 . rfl
 . exact absurd c (this t ((a5B hb).1 k))
theorem c4C(h:t∈a8S o):t∈o.looksAt ops.toArray:=a4G _ h
theorem b9q(d:a0K P vs N ops xs)(l:Trace (fns P) xs vars h T p ws)(r:a1d P B Z0 W0 vs N ops vars h T p ws S G hS a w){i:Nat}(n:Next ops S i)(u:ops[i]?=some o)(y:t∈o.looksAt ops.toArray){dd:A0}(hd:a0x vs ops i (.tmp t)=some dd):
 ∃v,a.tmps[t]?=some v∧j8 G hS w D v (y9 (T i).loc (T i).vars dd):=by
 have e:=c8o d n u y;simp only[a0x]at hd;split at hd
 . rename_i j hj;cases hd;rw[hj]at e;obtain⟨v,h1,f⟩:=r.slw t j e;refine⟨v,h1,?_⟩;have z:=(b2p hj).1;have:=(l.loc (i:=i) (by rw[d.len];exact a5N n.lt)).2 j z;simp only[y9];rw[this];exact f
 . rename_i hj;obtain⟨k,h1,rfl⟩:=D0.1 hd;rw[hj]at e;obtain⟨v,f,A⟩:=r.sl0 t e k (a0U h1);refine⟨v,f,?_⟩;have m:∀j (c:j<xs.length),∃b,ops[j]?=some b∧(xs[j]).var=b.dst.bind (vs.idxOf? ·):=fun j c=>by
    obtain⟨x,q,C⟩:=d.ok j _ (m7 (d.len▸c));rw[m7 c]at q;cases q;exact⟨_,m7 (d.len▸c),C.var⟩
   have E:∀j (c:j<xs.length),(xs[j]).var=some k→dq ops t j=true:=fun j c s=>by obtain⟨b,hb,g⟩:=m j c;rw[g]at s;obtain⟨F,H,I⟩:=Y4.1 s;have:F=t:=a0c ((a0U I).symm.trans (a0U h1));subst this;exact(a5B hb).2 H
   have J:∀j (c:j<xs.length),dq ops t j=true→(xs[j]).var=some k:=fun j c K=>by obtain⟨b,hb,g⟩:=m j c;rw[g,(a5B hb).1 K];exact h1
   rcases l.vr E J (i:=i) (by rw[d.len];exact a5N n.lt)with h4|h4
   . simp only[y9];rw[h4];exact K9
   . rw[show J7 (dq ops t) i=none by rw[←hj,b1B];rfl]at h4;simp only[y9];rw[h4];exact A
theorem c2T(d:a0K P vs N ops xs)(j:Trace (fns P) xs vars h T p ws)(r:a1d P B Z0 W0 vs N ops vars h T p ws S G hS a w){i:Nat}(n:Next ops S i)(k:ops[i]?=some o):
 ∀x dd,a6t o (a0x vs ops i) x=some dd→j8 G hS w D (a.eval x) (y9 (T i).loc (T i).vars dd):=by
 intro x dd l;obtain⟨h1,m⟩:=c0z l;cases x with
 |tmp t=>
  obtain⟨v,b,s⟩:=b9q d j r n k (c4C (m t rfl)) h1;have:a.eval (.tmp t)=v:=by simp[Act.eval,b]
  rw[this];exact s
 |const v=>
  simp only[a0x]at h1;obtain⟨q,b,rfl⟩:=D0.1 h1;exact b5Q b
 |func f=>
  simp only[a0x]at h1;cases h1;show j8 G hS w D (.func (.func f) #[] #[]) (.fn (.func f) [] []);unfold D;unfold j8;exact⟨_,_,rfl,⟨rfl,fun i c e=>by simp at e⟩,⟨rfl,fun i c e=>by simp at e⟩⟩
 |global g=>simp[a0x]at h1
theorem b1Y(d:a0K P vs N ops xs)(b:Trace (fns P) xs vars h T p ws)(r:a1d P B Z0 W0 vs N ops vars h T p ws S G hS a w){i:Nat}(n:Next ops S i)(c:∀j y,j<ops.length→xs[j]?=some y→T3 (I3 [] ops) i j=true→wr ws k j=false):
 hS[k]?=(T i).heap[k]?:=by
 have e:J7 (fun j=>S j&&wr ws k j) ops.length=J7 (wr ws k) i:=by
  refine b3L n.lt n.out fun j hj f=>?_;obtain⟨y,g⟩:∃y,xs[j]?=some y:=⟨_,m7 (by rw[d.len];exact hj)⟩
  exact c j y hj g (n.a7v hj f)
 rw[r.hp k,b.heap k (i:=i) (by rw[d.len];exact a5N n.lt),e]
 all_goals rfl
theorem b3a{h h':l7}{hide:List Nat}(e:hide.contains k=false→h[k]?=h'[k]?):l8 h hide k=l8 h' hide k:=by
 unfold l8
 grind
theorem b4c(d:a0K P vs N ops xs)(c:Trace (fns P) xs vars h T p ws){i:Nat}(b:xs[i]?=some x)(a:xs[j]?=some y)(hu:T3 (I3 [] ops) i j=true)(e:L5 y.op≤2)(n:x.hide.contains k=false):wr ws k j=false:=by
 have f:i<ops.length:=by rw[←d.len];exact(B8.1 b).1
 have g:j<ops.length:=by rw[←d.len];exact(B8.1 a).1
 obtain⟨_,_,_,l⟩:=d.un i j x y _ _ b a (m7 f) (m7 g) hu;cases hw:wr ws k j
 . rfl
 . exfalso;obtain⟨z,m,o⟩:=E5.1 (a0W.1 hw);have:=l _ (a3F (c.st j y a).1 e z m)
   grind
theorem b8f(d:a0K P vs N ops xs)(b:Trace (fns P) xs vars h T p ws)(r:a1d P B Z0 W0 vs N ops vars h T p ws S G hS a w){i:Nat}(n:Next ops S i)(e:xs[i]?=some x)(f:∀j y,j<ops.length→xs[j]?=some y→T3 (I3 [] ops) i j=true→L5 y.op≤2)(g:x.hide.contains k=false):
 hS[k]?=(T i).heap[k]?:=
 b1Y d b r n fun j y hj c hu=>b4c d b e c hu (f j y hj c hu) g
def a7k:N9→Bool
 | .load .. =>true
 |_=>false
theorem a3O(a:a5Y x y=true):a7k x.op=true:=by
 unfold a5Y at a;split at a
 . rename_i h;rw[h];rfl
 . cases a
theorem a6w{op:N9}(h:a7k op=true):L5 op=2∧I0 op=[]:=by cases op<;>(try (cases h;done));exact⟨rfl,rfl⟩
theorem b2y(d:a0K P vs N ops xs){i:Nat}(a:xs[i]?=some x)(b:xs[j]?=some y)(hu:T3 (I3 [] ops) i j=true):a2v x y=true:=by
 have c:i<ops.length:=by rw[←d.len];exact(B8.1 a).1
 have e:j<ops.length:=by rw[←d.len];exact(B8.1 b).1
 exact(d.un i j x y _ _ a b (m7 c) (m7 e) hu).2.2.1
theorem b6s(d:a0K P vs N ops xs)(f:Trace (fns P) xs vars h T p ws)(r:a1d P B Z0 W0 vs N ops vars h T p ws S G hS a w){i:Nat}(n:Next ops S i)(c:xs[i]?=some x)(q:L5 x.op≠0)(g:quiet x.op=false)(s:L5 x.op≠1)(e:a7k x.op=false)(l:a4j x.op=false):
 l8 hS x.hide=l8 (T i).heap x.hide:=by
 funext k;refine b3a fun m=>b8f d f r n c (fun j y hj o hu=>?_) m;have b:=b2y d c o hu;unfold a2v at b;simp only[a1j,G4,decide_eq_true_eq,beq_iff_eq]at b;rcases b with(((((((b|b)|b)|b)|b)|b)|b)|b)
 . omega
 . omega
 . exact b.2
 . rw[a7U b.2];exact m9 _
 . rw[g]at b;cases b.1
 . rcases b with b|b
   . rw[a3O b]at e;cases e
   . rw[(a6w (a3O b)).1];exact m9 _
 . rw[l]at b;cases b.1
 . omega
theorem b7R{FN:N7}{st:B5}{p:PV}{ws:List (Nat×Row)}(h:Res FN x st p ws)(a:a4j x.op=true):a2f x.hide (y9 st.loc st.vars) ws=true∨ws=[]:=by
 rcases h with⟨_,_,rfl⟩|⟨_,⟨f,args,ks,al,r,b,_⟩|⟨f,args,b,d⟩|⟨_,e,_,g⟩⟩
 . exact .inr rfl
 . rw[b]at a;cases a
 . exact .inl (b6r d).2
 . cases c:x.op<;>(try (rw[c]at a;cases a;done));exact absurd c (e _ _)
theorem b3B{FN:N7}{st:B5}{p:PV}{ws:List (Nat×Row)}(h:Res FN x st p ws)(a:a4j x.op=true):∀y∈ws,x.hide.contains y.1=false:=by
 rcases b7R h a with h1|h1
 . exact c2s h1
 grind
theorem b2V(d:a0K P vs N ops xs)(f:Trace (fns P) xs vars h T p ws)(q:a2k h.length xs=true)(r:a1d P B Z0 W0 vs N ops vars h T p ws S G hS a w){i:Nat}(n:Next ops S i)(e:xs[i]?=some x)(g:L5 x.op=1∨L5 x.op=2)(l:k∈I0 x.op):
 l8 hS x.hide k=l8 (T i).heap x.hide k:=by
 have s:∀{i:Nat} {x:l6},xs[i]?=some x→∀k∈I0 x.op,x.hide.contains k=false:=fun e k g=>by have:=B0.1 (B0.1 q _ (D4 e)) _ g;simp only[G4,a6M]at this;exact this.2
 refine b3a fun t=>b1Y d f r n fun j y hj c hu=>?_;obtain⟨_,_,b,v⟩:=d.un i j x y _ _ e c (m7 n.lt) (m7 hj) hu;obtain⟨_,_,_,A⟩:=d.un j i y x _ _ c e (m7 hj) (m7 n.lt) (a9t hu);by_cases u:L5 y.op≤2
 . exact b4c d f e c hu u t
 . cases hw:wr ws k j
   . rfl
   . exfalso;obtain⟨z,m,C⟩:=E5.1 (a0W.1 hw);have o:y.hide.contains z.1=true:=(by grind);unfold a2v at b;simp only[a1j,G4,decide_eq_true_eq,beq_iff_eq]at b;rcases b with(((((((b|b)|b)|b)|b)|b)|b)|b)
     . omega
     . omega
     . omega
     . have:=a7U b.2;omega
     . have:=b3m (f.st j y c).1 b.2 (s c) z m;rw[o]at this;cases this
     . rcases b with b|b
       . rw[(a6w (a3O b)).2]at l;cases l
       . have:=(a6w (a3O b)).1;omega
     . omega
     . have:=b3B (f.st j y c).1 b.2 z m;rw[o]at this;cases this
theorem c7b(d:a0K P vs N ops xs)(o:Trace (fns P) xs vars h T p ws){i:Nat}(H:xs[i]?=some x)(A:xs[j]?=some y)(c:a5Y x y=true){agg:Bool}{sz:Nat}{m:A0}(I:x.op=.load agg sz m){lk:E1}(s:a0w lk agg sz (y9 (T i).loc (T i).vars m)=some q):
 a2a (ws j) (y9 (T i).loc (T i).vars m)=true:=by
 have C:i<xs.length:=(B8.1 H).1;have D:j<xs.length:=(B8.1 A).1;unfold a5Y at c;rw[I]at c;simp only[]at c;split at c
 case h_2=>cases c
 rename_i n g;obtain⟨t1,t2⟩:=o.loc (i:=i) (a5N C);obtain⟨t3,t4⟩:=o.loc (i:=j) (a5N D);have R:∀{lk:E1} {v:PV} {agg:Bool} {sz:Nat} {q:PV},a0w lk agg sz v=some q→∀ws:List (Nat×Row),a2a ws .uu=true→a2a ws v=true:=fun _ ws h=>by cases h
 have E:∀t,(∀z∈xs,z.var≠some t)→∀a,a≤xs.length→(T a).vars.getD t .uu=vars.getD t .uu:=fun t J a=>by
  induction a with
  |zero=>intro _;rw[o.t0]
  |succ a K=>
   intro u;have F:a<xs.length:=i9;rw[o.next F,←K i9];simp only;have:=J _ (B7 F);cases B:(xs[a]).var with
   |none=>rfl
   |some t0=>
    simp only[K0,u9];rw[F7 fun e=>this (by rw[B,e])]
 have key:(∀t,n=t+1000000→∀z∈xs,z.var≠some t)→a2a (ws j) (y9 (T j).loc (T j).vars (avO n))=true→a2a (ws j) (y9 (T i).loc (T i).vars m)=true:=fun hw h1=>by
  cases m<;>simp only[avC]at g<;>(try (cases g;done))
  case l S=>
   split at g
   . rename_i L;cases g;rw[show avO n=.l n by unfold avO;rw[if_pos L]]at h1;simp only[y9]at s h1⊢;have M:n<i:=by
      refine Classical.byContradiction fun g=>?_;rw[u9,a0d i9]at s;simp[a0w]at s
     rw[t2 n M];by_cases O:n<j
     . rw[t4 n O]at h1;exact h1
     . grind
   . cases g
  case v t=>
   cases g;rw[show avO (t+1000000)=.v t by unfold avO;rw[if_neg (by rw[a1K];omega)];simp]at h1;simp only[y9]at h1⊢;rw[E t (hw t rfl) i (a5N C)];rw[E t (hw t rfl) j (a5N D)]at h1;exact h1
 have G:ws j=[]→a2a (ws j) (y9 (T i).loc (T i).vars m)=true:=fun e=>by rw[e];cases hp:y9 (T i).loc (T i).vars m<;>rw[hp]at s<;>first|rfl|(simp[a0w]at s;done)
 have w:=d.av y (D4 A);unfold avV at w;split at c
 . rename_i U a v av k;have hw:∀t,n=t+1000000→∀z∈xs,z.var≠some t:=fun t e z Q B=>by
    rw[k]at w;have:=B0.1 w n (a0W.1 c);rw[a1j]at this;rcases this with h1|h1
    . rw[a1K]at h1;omega
    . grind
   rcases(o.st j y A).1 with⟨_,_,h1⟩|⟨_,⟨f,args,ks,al,r,h1,_⟩|⟨f,args,h1,_⟩|⟨_,_,_,u⟩⟩
   . exact G h1
   . rw[k]at h1;cases h1
   . rw[k]at h1;cases h1
   . rw[k]at u;simp only[B3]at u;split at u
     . grind
     . cases u
 . rename_i f b k;have hw:∀t,n=t+1000000→∀z∈xs,z.var≠some t:=fun t e z Q B=>by
    rw[k]at w;have:=B0.1 w n (E5.2 ⟨n+1000000,a0W.1 c,i9⟩);rw[a1j]at this;rcases this with h1|h1
    . rw[a1K]at h1;omega
    . grind
   rcases b7R (o.st j y A).1 (by rw[k];rfl)with h1|h1
   . exact key hw (c9h h1 c)
   . exact G h1
 . cases c
theorem c4R{lk lk':E1}{agg:Bool}{sz:Nat}{v:PV}(h:∀k,(∀ws,a2a ws v=true→(ws.map (·.1)).contains k=false)→lk k=lk' k):a0w lk agg sz v=a0w lk' agg sz v:=by
 cases v<;>simp only[a0w]
 case ptr k g o=>rw[h k fun ws hw=>by simpa[a2a]using hw]
 case eptr k g a s i j=>rw[h k fun ws hw=>by simpa[a2a]using hw]
 case nptr k g ver s i j m l=>rw[h k fun ws hw=>by simpa[a2a]using hw]
theorem c4v(d:a0K P vs N ops xs)(f:Trace (fns P) xs vars h T p ws)(r:a1d P B Z0 W0 vs N ops vars h T p ws S G hS a w){i:Nat}(n:Next ops S i)(g:xs[i]?=some x)(o:a7k x.op=true){us:List (Nat×Row)}(e:B3 (y9 (T i).loc (T i).vars) (l8 (T i).heap x.hide) x.op=some (q,us)):
 B3 (y9 (T i).loc (T i).vars) (l8 hS x.hide) x.op=some (q,us):=by
 cases c:x.op<;>(try (rw[c]at o;cases o;done))
 case load agg sz m=>
  rw[c]at e;simp only[B3]at e⊢;split at e
  . rename_i v s;rw[←c4R (lk:=l8 (T i).heap x.hide) (lk':=l8 hS x.hide) fun k t=>(b3a fun u=>b1Y d f r n fun j y hj l hu=>?_).symm,s]
    . exact e
    . have b:=b2y d g l hu;by_cases z:L5 y.op≤2
      . exact b4c d f g l hu z u
      . unfold a2v at b;simp only[a1j,G4,decide_eq_true_eq,beq_iff_eq]at b;have A:a5Y x y=true:=by
         rcases b with(((((((b|b)|b)|b)|b)|b)|b)|b)
         . rw[c]at b;cases b
         . omega
         . omega
         . rw[c]at b;cases b.1
         . rw[c]at b;cases b.1
         . rcases b with b|b
           . exact b
           . have:=(a6w (a3O b)).1;omega
         . rw[c]at b;cases b.1
         . rw[c]at b;cases b.1
        exact t _ (c7b d f g l A c s)
  . cases e
theorem c8p(d:a0K P vs N ops xs)(H:Trace (fns P) xs vars h T p ws){i:Nat}(t:xs[i]?=some x)(o:xs[j]?=some y)(E:a5C x.op=true)(w:isApp y.op=true)(hu:T3 (I3 [] ops) i j=true)(A:M7 (l8 (T i).heap x.hide k).2=true):wr ws k j=false:=by
 have O:i<xs.length:=(B8.1 t).1;have Q:j<xs.length:=(B8.1 o).1;have R:i<ops.length:=by rw[←d.len];exact O
 have S:j<ops.length:=by rw[←d.len];exact Q
 have B:x.hide.contains k=false:=by
  unfold l8 at A;cases I:x.hide.contains k
  . rfl
  . rw[I]at A;cases A
 have ak:M7 ((T i).heap.getD k (0,.dead)).2=true:=by unfold l8 at A;rw[B]at A;exact A
 obtain⟨_,_,_,aa⟩:=d.un i j x y _ _ t o (m7 R) (m7 S) hu;cases hw:wr ws k j
 . rfl
 . exfalso;obtain⟨z,l,U⟩:=E5.1 (a0W.1 hw);have V:k∉I0 y.op:=fun g=>by
    have:=aa k g;rw[a0W.2 this]at B;cases B
   rcases b6g (H.st j y o).1 (d.cv i j x y t o E) z l with h1|⟨h1,J⟩
   . rw[U]at h1;exact V h1
   . rw[U]at h1 J;have ab:M7 z.2.2=false:=by
      rcases(H.st j y o).1 with⟨_,_,hw0⟩|⟨_,⟨f,args,ks,al,r,hyo,_⟩|⟨f,args,hyo,_⟩|⟨_,_,_,c⟩⟩
      . rw[hw0]at l;cases l
      . rw[hyo]at w;cases w
      . rw[hyo]at w;cases w
      . cases C:y.op<;>(try (rw[C]at w;cases w;done))
        case lookupT ac kt sz z0 m ad=>
         rw[C]at c;exact c9t c z l
        case append ac sz b m s ad=>
         rw[C]at c;simp only[B3]at c;split at c
         . rename_i news am ae;split at c
           . split at c
             . rename_i v an af;simp only[s7,s9]at c;obtain⟨_,c⟩:=c;rw[←c]at l;rcases I4.1 l with l|l
               . exact b2E ae z l
               . exact b8y af z l
             . cases c
           . cases c
         . cases c
     rw[ab]at J;have W:∀a b,a<b→b<xs.length→M7 ((T b).heap.getD k (0,.dead)).2≠M7 ((T a).heap.getD k (0,.dead)).2→∃m,∃hm:m<xs.length,a≤m∧m<b∧k∈I0 (xs[m]).op:=fun a b X hb K=>by apply Classical.byContradiction;intro ag;refine K ?_;have:=H.kinds (fun m hm=>d.cv i m x _ t (m7 hm) E) (k:=k) (a:=a) (n:=b-a) i9 fun m hm h1 J g=>ag ⟨m,hm,h1,i9,g⟩;rwa[show a+(b-a)=b by omega]at this
     have ah:I0 x.op=[]:=(by cases C:x.op<;>(try (rw[C]at E;cases E;done))<;>rfl);have F:∀{q:Nat} {z:l6} (u:xs[q]?=some z) (I:z.hide.contains k=false) {m:Nat} (hm:m<xs.length),k∈I0 (xs[m]).op→T3 (I3 [] ops) q m=false:=fun{q z} u I {m} hm g=>by
      cases ai:T3 (I3 [] ops) q m
      . rfl
      . have aj:q<ops.length:=(by rw[←d.len];exact(B8.1 u).1);obtain⟨_,_,_,ao⟩:=d.un q m z _ _ _ u (m7 hm) (m7 aj) (m7 (by rw[←d.len];exact hm)) ai
        grind
     have K:i≠j:=fun e=>(by subst e;simp[T3]at hu);have G:∀{a b:Nat},a<b→T3 (I3 [] ops) a b=false→((I3 [] ops).getD b 0).testBit a=true:=fun{a b} X h=>by unfold T3 at h;rw[if_neg i9,if_pos X]at h;simpa using h
     rcases a9z K with Y|Z
     . obtain⟨m,hm,m1,m2,g⟩:=W i j Y Q (by grind);have ap:i≠m:=fun e=>(by subst e;rw[m7 hm]at t;cases t;rw[ah]at g;cases g);have L:=G (show i<m by omega) (F t B hm g);have D:=F o h1 hm g;rw[show T3 (I3 [] ops) j m=T3 (I3 [] ops) m j from by
        cases u:T3 (I3 [] ops) m j
        . omega
        . exact a9t u]at D
       have M:=b5s L j S (G m2 D);unfold T3 at hu;rw[if_neg i9,if_pos Y,M]at hu;cases hu
     . obtain⟨m,hm,m1,m2,g⟩:=W j i Z O (by grind);have aq:j≠m:=fun e=>(by subst e;rw[m7 hm]at o;cases o;exact V g);have L:=G (show j<m by omega) (F o h1 hm g);have D:=F t B hm g;rw[show T3 (I3 [] ops) i m=T3 (I3 [] ops) m i from by
        cases u:T3 (I3 [] ops) m i
        . omega
        . exact a9t u]at D
       have M:=b5s L i R (G m2 D);unfold T3 at hu;rw[if_pos Z,M]at hu;cases hu
theorem c2e(d:a0K P vs N ops xs)(f:Trace (fns P) xs vars h T p ws)(r:a1d P B Z0 W0 vs N ops vars h T p ws S G hS a w){i:Nat}(n:Next ops S i)(s:xs[i]?=some x)(l:a5C x.op=true){us:List (Nat×Row)}(c:B3 (y9 (T i).loc (T i).vars) (l8 (T i).heap x.hide) x.op=some (q,us)):
 B3 (y9 (T i).loc (T i).vars) (l8 hS x.hide) x.op=some (q,us):=by
 cases e:x.op<;>(try (rw[e]at l;cases l;done))
 case loadV agg sz a=>
  rw[e]at c;simp only[B3]at c⊢;cases t:y9 (T i).loc (T i).vars a<;>(try (rw[t]at c;cases c;done))
  case ptr k g o=>
   rw[t]at c;have v:M7 (l8 (T i).heap x.hide k).2=true:=by
    simp only[a0w]at c;cases A:l8 (T i).heap x.hide k with
    |mk K ob=>cases ob<;>rw[A]at c<;>first|rfl|(cases c;done)
   have C:l8 hS x.hide k=l8 (T i).heap x.hide k:=by
    unfold l8;split
    . rfl
    . rename_i D;have E:J7 (fun j=>S j&&wr ws k j) ops.length=J7 (wr ws k) i:=by
       refine b3L n.lt n.out fun j hj u=>?_;obtain⟨y,m⟩:∃y,xs[j]?=some y:=⟨_,m7 (by rw[d.len];exact hj)⟩
       obtain⟨_,_,b,F⟩:=d.un i j x y _ _ s m (m7 n.lt) (m7 hj) (n.a7v hj u);by_cases H:L5 y.op≤2
       . cases hw:wr ws k j
         . rfl
         . exfalso;obtain⟨z,I,J⟩:=E5.1 (a0W.1 hw);have:=F _ (a3F (f.st j y m).1 H z I);rw[J]at this;exact D (a0W.2 this)
       . refine c8p d f s m l ?_ (n.a7v hj u) v;unfold a2v at b;simp only[a1j,G4,decide_eq_true_eq,beq_iff_eq]at b;rcases b with(((((((b|b)|b)|b)|b)|b)|b)|b)
         . rw[e]at b;cases b
         . omega
         . omega
         . have:=a7U b.2;omega
         . exact b.2
         . rcases b with b|b
           . have:=a3O b;rw[e]at this;cases this
           . have:=(a6w (a3O b)).1;omega
         . rw[e]at b;cases b.1
         . rw[e]at b;cases b.1
      rw[u9,u9,r.hp k,f.heap k (i:=i) (by grind),E]
      all_goals rfl
   simp only[a0w]at c⊢;rw[C];exact c
theorem c4A(al:vs.Nodup)(d:a0K P vs N ops xs)(f:Trace (fns P) xs vars h T p ws)(ab:a2k h.length xs=true)(r:a1d P B Z0 W0 vs N ops vars h T p ws S G hS a w){i:Nat}(n:Next ops S i)(J:ops[i]?=some o){v:Value}
 (ac:s6 B Z0 G' (p8 hS (ws i)) w') (x:Ext G hS w G' (p8 hS (ws i)) w') (ad:j8 G' (p8 hS (ws i)) w' D v (p i)) (hb:Bl B w w'):
 a1d P B Z0 W0 vs N ops vars h T p ws (fun j=>S j||j==i) G' (p8 hS (ws i)) (a.put o.dst v) w':=by
 obtain⟨g,l,ae⟩:=d.ok i o J;have hd:∀t,o.dst=some t→t<a.tmps.size:=fun t e=>by rw[r.sz];exact ae.dst t e
 have X:∀j,j<ops.length→i<j→S j=true→∃b y,ops[j]?=some b∧xs[j]?=some y∧o.apart ops.toArray b=true∧b.apart ops.toArray o=true∧a2v g y=true∧(∀k∈I0 y.op,k∈g.hide)∧∀k∈I0 g.op,k∈y.hide:=fun j hj F hs=>by
  obtain⟨b,hb⟩:∃b,ops[j]?=some b:=⟨_,m7 hj⟩
  obtain⟨y,q,_⟩:=d.ok j b hb;obtain⟨h1,H,c,K⟩:=d.un i j g y o b l q J hb (n.a7v hj (.inr ⟨F,hs⟩));obtain⟨_,_,_,Q⟩:=d.un j i y g b o q l hb J (a9t (n.a7v hj (.inr ⟨F,hs⟩)));exact⟨b,y,hb,q,h1,H,c,K,Q⟩
 have R:∀{i:Nat} {x:l6},xs[i]?=some x→∀k∈I0 x.op,x.hide.contains k=false:=fun af k U=>by have:=B0.1 (B0.1 ab _ (D4 af)) _ U;simp only[G4,a6M]at this;exact this.2
 have Y:∀t,o.dst=some t→J7 (fun j=>(S j||j==i)&&dq ops t j) ops.length=some i:=fun t e=>
  b7N n.lt ((a5B J).2 e) fun j hj F hs=>by
   obtain⟨b,y,hb,_,h1,_⟩:=X j hj F hs;cases L:dq ops t j
   . rfl
   . exact absurd ((a5B hb).1 L) ((Oper.apart_spec h1).2.1 t e)
 have Z:∀t,o.dst≠some t→J7 (fun j=>(S j||j==i)&&dq ops t j) ops.length=J7 (fun j=>S j&&dq ops t j) ops.length:=fun t e=>
  b7w (by cases L:dq ops t i;rfl;exact absurd ((a5B J).1 L) e)
 refine⟨ac,by rw[a6i];exact r.len,fun k=>?_,fun t j hj=>?_,fun t hj k U=>?_,by rw[a8B];exact r.sz,by rw[b2I];exact r.df.step hb,W0.step r.be x hb⟩
 . by_cases hw:wr ws k i=true
   . have ag:J7 (fun j=>(S j||j==i)&&wr ws k j) ops.length=some i:=b7N n.lt hw fun j hj F hs=>by
      obtain⟨b,y,hb,q,h1,H,c,K,Q⟩:=X j hj F hs;cases L:wr ws k j
      . rfl
      . exfalso;obtain⟨z,s,M⟩:=E5.1 (a0W.1 hw);obtain⟨A,C,O⟩:=E5.1 (a0W.1 L);have ah:L5 g.op≤2→L5 y.op≤2→False:=fun ai aj=>by
         have g5:=a3F (f.st i g l).1 ai z s;have g6:=K _ (a3F (f.st j y q).1 aj A C);have g7:=R l _ g5;rw[M,←O,a0W.2 g6]at g7;cases g7
        have aa:∀{u:l6} {m:Nat},xs[m]?=some u→a7k u.op=true→∀z∈ws m,False:=fun hu V z W=>by obtain⟨l1,ak⟩:=a6w V;have:=a3F (f.st _ _ hu).1 i9 z W;rw[ak]at this;cases this
        have hzero:∀{u:l6} {m:Nat},xs[m]?=some u→L5 u.op=0→∀z∈ws m,False:=fun hu V z W=>by have:=a3F (f.st _ _ hu).1 i9 z W;rw[c5J V]at this;cases this
        unfold a2v at c;simp only[a1j,G4,decide_eq_true_eq,beq_iff_eq]at c;rcases c with(((((((c|c)|c)|⟨c,I⟩)|⟨c,I⟩)|c)|⟨c,I⟩)|⟨c,I⟩)
        . exact hzero l c z s
        . exact hzero q c A C
        . exact ah c.1 c.2
        . have:=b3m (f.st i g l).1 c (R l) z s;have E:=K _ (a3F (f.st j y q).1 (by rw[a7U I];exact m9 _) A C);rw[M,←O,a0W.2 E]at this;cases this
        . have:=b3m (f.st j y q).1 I (R q) A C;have E:=Q _ (a3F (f.st i g l).1 (by rw[a7U c];exact m9 _) z s);rw[O,←M,a0W.2 E]at this;cases this
        . rcases c with c|c
          . exact aa l (a3O c) z s
          . exact aa q (a3O c) A C
        . have:=b3B (f.st i g l).1 c z s;have E:=K _ (a3F (f.st j y q).1 i9 A C);rw[M,←O,a0W.2 E]at this;cases this
        . have:=b3B (f.st j y q).1 I A C;have E:=Q _ (a3F (f.st i g l).1 i9 z s);rw[O,←M,a0W.2 E]at this;cases this
     rw[ag];simp only;rw[(f.st i g l).2];exact b6Q (a0W.1 hw) (by rw[r.len,f.len (by grind)])
   . rw[b7w (by simpa using hw),←r.hp k];exact a5q _ _ _ fun hm=>hw (a0W.2 hm)
 . by_cases e:o.dst=some t
   . rw[Y t e]at hj;cases hj;rw[e];exact⟨v,b1Q (hd t e),ad⟩
   . rw[Z t e]at hj;obtain⟨u,h1,H⟩:=r.slw t j hj;exact⟨u,by rw[b1o e];exact h1,H.ext x⟩
 . by_cases e:o.dst=some t
   . rw[Y t e]at hj;cases hj
   . rw[Z t e]at hj;obtain⟨u,h1,H⟩:=r.sl0 t hj k U;exact⟨u,by rw[b1o e];exact h1,H.ext x⟩
end
end
def O2(B:Nat)(Z0:Nat→Prop)(W0:N2 B)(vs:List Nat)(N:Nat)(vars:List PV)(h:l7)(a:Act)(w:World):Prop:=
 ∃G,s6 B Z0 G h w∧X0 G h w vs vars a∧a.tmps.size=N∧a0u W0.m a.defers w∧W0.psi (Y1 vs vars) G h w
section
variable{P:Program}{B:Nat}{Z0:Nat→Prop}{W0:N2 B}{ρ:Option Nat}{nn:Nat}{vs:List Nat}{N:Nat}{ops:List Oper}{xs:List l6}{vars:List PV}{h:l7}{T:Nat→B5}{p:Nat→PV}{ws:Nat→List (Nat×Row)}{S:Nat→Bool}{G G':Gh}{hS:l7}{a:Act}{w w':World}
theorem c5G{i:Nat}{loc vars:List PV}{o:Oper}(m:∀j b t d,o.guard=some (j,b)→(ops[j]?).bind (·.dst)=some t→a0x vs ops i (.tmp t)=some d→∃v,a.tmps[t]?=some v∧j8 G h w D v (y9 loc vars d)){g:Option (A0×Bool)}
 (e:(match o.guard with
  |none=>some none
  |some (j,b)=>match(ops[j]?).bind (·.dst)with
   |some t=>(a0x vs ops i (.tmp t)).map fun d=>some (d,b)
   |none=>none)=some g) {c:Bool} (f:gdO loc vars g=some c):Region.wanted o (yielded ops.toArray a.tmps)=c:=by
 unfold Region.wanted;cases k:o.guard with
 |none=>
  rw[k]at e;simp at e;subst e;simpa[gdO]using f
 |some n=>
  obtain⟨j,b⟩:=n;rw[k]at e;simp only at e;split at e
  . rename_i t l;obtain⟨d,h1,rfl⟩:=D0.1 e;obtain⟨v,p,hr⟩:=m j b t d k l h1;simp only[gdO]at f;have q:yielded ops.toArray a.tmps j=(match a.tmps[t]? with|some (.bool b)=>some b|_=>none):=by
     unfold yielded;rw[show ops.toArray[j]?=ops[j]? by simp,l];rfl
    show(yielded ops.toArray a.tmps j==some b)=c;rw[q,p];split at f
    . rename_i c0 he;cases f;rw[he]at hr;rw[a1f hr];cases c0<;>cases b<;>rfl
    . rename_i he;cases f;rw[he]at hr;obtain⟨us,hb,hs⟩:=a8l hr;rw[hb];cases b<;>rfl
    . cases f
  . cases e
theorem c1F(aw:vs.Nodup)(d:a0K P vs N ops xs)(A:Trace (fns P) xs vars h T p ws)(J:a2k h.length xs=true)(r:a1d P B Z0 W0 vs N ops vars h T p ws S G hS a w){i:Nat}(n:Next ops S i){Q:Exit→Act→World→Prop}{K:Act→World→Prop}
 (ax:∀G' ay ai w',a1d P B Z0 W0 vs N ops vars h T p ws (fun j=>S j||j==i) G' ay ai w'→K ai w'):wpOpIn (fz ρ) nn P ops.toArray Q i K a w:=by
 obtain⟨o,L⟩:∃o,ops[i]?=some o:=⟨_,m7 n.lt⟩
 obtain⟨x,C,aj⟩:=d.ok i o L;have X:∀j,j∈I0 x.op→j<hS.length∧x.hide.contains j=false:=fun j hj=>by have:=B0.1 (B0.1 J x (D4 C)) j hj;rw[r.len];simpa[a1K]using this
 have hlen:(T i).heap.length=hS.length:=by rw[r.len];exact A.len (by grind)
 have Y:=c2T d A r n L;have M:∀{v w' G'},s6 B Z0 G' (p8 hS (ws i)) w'→Ext G hS w G' (p8 hS (ws i)) w'→j8 G' (p8 hS (ws i)) w' D v (p i)→Bl B w w'→K (a.put o.dst v) w':=fun{v w' G'} r1 r2 r3 r4=>
  ax _ _ _ _ (c4A aw d A J r n L r1 r2 r3 r4)
 have ak:∀c,gdO (T i).loc (T i).vars x.guard=some c→Region.wanted o (yielded ops.toArray a.tmps)=c:=fun c Z=>
  c5G (fun j b t dd U aN hd=>b9q d A r n L (a7N _ (by grind)) hd) aj.gd Z
 unfold wpOpIn;rw[show ops.toArray[i]?=some o by simpa using L];simp only;obtain⟨k,app,al,x0,l,aa⟩:=aj.op;have am:(∀sz a v av,x.op≠ .storeN sz a v av)→x0=x.op:=fun az=>by
  rcases aa with e|⟨sz,a,v,av,_,e⟩
  . exact e.symm
  . exact absurd e (az _ _ _ _)
 rcases(A.st i x C).1 with⟨U,hp,hw⟩|⟨U,hcase⟩
 . rw[ak _ U,if_neg l5];refine⟨fun _ _=>trivial,M (G':=G) ?_ ?_ ?_ (Bl.refl _ _)⟩
   . rw[hw];exact r.hr
   . rw[hw];exact Ext.refl
   . rw[hp];exact c0m
 . rw[ak _ U,if_pos rfl];refine⟨fun _ _=>trivial,?_⟩;rw[show o.semAt (fz ρ).round a.eval=execOp a.eval o from Oper.semAt_eq _ _ _ (b8l l)];rcases hcase with⟨f,b,ks,aO,q,z,aP,O,ab,hp,hw⟩|⟨fd,b,z,O⟩|⟨aA,aB,_,u⟩
   . have ac:=am (by grind);subst ac;have V:L5 x.op≠0:=(by rw[z];simp[L5]);have I:∀k∈I0 x.op,l8 hS x.hide k=l8 (T i).heap x.hide k:=fun k ad=>b2V d A J r n C (.inr (by rw[z];rfl)) ad;have an:(b.map fun a=>fzV (l8 (T i).heap x.hide) (y9 (T i).loc (T i).vars a))=(b.map fun a=>fzV (l8 hS x.hide) (y9 (T i).loc (T i).vars a))∧
      (b.map (y9 (T i).loc (T i).vars)).any (a2c (l8 (T i).heap x.hide))=(b.map (y9 (T i).loc (T i).vars)).any (a2c (l8 hS x.hide)):=by
      cases H:a8O x.op
      . rw[b6s d A r n C V (by unfold quiet;rw[H,z];rfl) (by rw[z];simp[L5]) (by rw[z];rfl) (by rw[z];rfl)];exact⟨rfl,rfl⟩
      . rw[z]at H;have ao:∀a∈b,a3d (y9 (T i).loc (T i).vars a)=true:=fun a u=>by
         simp only[a8O,a1j,B0]at H;rcases H with H|H
         . grind
         . have:=H a u;cases a<;>first|exact this|(simp at this;done)
        refine⟨K3 fun a u=>c5S (ao a u),?_⟩;have ap:∀lk,(b.map (y9 (T i).loc (T i).vars)).any (a2c lk)=false:=fun lk=>by rw[List.any_eq_false];intro c Z;obtain⟨a,u,rfl⟩:=E5.1 Z;rw[c2O (ao a u)];simp
        rw[ap,ap]
     have aq:∀j es,(B9 q)[j]?=some (.uslc es)→Z4 (l8 (T i).heap x.hide) (O0 ks j).1=Z4 (l8 hS x.hide) (O0 ks j).1:=fun j es hj=>by have:=I (O0 ks j).1 (by rw[z];exact c5e ab hj);unfold Z4;rw[this]
     rw[z]at l X;obtain⟨args,ats,R,ae⟩:=b5h l;obtain⟨dst,op,type,pos,after,guard⟩:=o;simp only at R;subst R;rw[an.1]at O;rw[an.2,hlen]at ab;rw[c5W aq]at hp;have aC:J9 (O0 ks) (Z4 (l8 (T i).heap x.hide)) 0 (B9 q)=J9 (O0 ks) (Z4 (l8 hS x.hide)) 0 (B9 q):=c1g fun j es hj=>by have:=aq j es hj;rwa[show(0:Nat)+j=j by omega]
     rw[aC]at hw;have af:=c0V (P:=P) (w:=w) (ρ:=a.eval) (dst:=dst) (args:=args) (ats:=ats) (type:=type) (pos:=pos) (after:=after) (guard:=guard) O.1 rfl;rw[af];refine⟨fun e=>(by cases e),a4y.2 ?_⟩;refine b4Y r.hr Y ae O ab (fun j hj=>(X j hj).2) fun v w' G' r1 r2 r3 r4=>?_;rw[←hw]at r1 r2 r3;rw[←hp]at r3;exact M r1 r2 r3 r4
   . have ac:=am (by grind);subst ac;have aD:agr x.hide (T i).heap hS:=⟨hlen.symm,fun k aE=>b8f d A r n C (fun j y hj aF hu=>by
      have g:=b2y d C aF hu;unfold a2v at g;simp only[a1j,G4,decide_eq_true_eq,beq_iff_eq]at g;rcases g with(((((((g|g)|g)|g)|g)|g)|g)|g)
      . rw[z]at g;cases g
      . omega
      . rw[z]at g;simp[L5]at g
      . rw[z]at g;cases g.1
      . rw[z]at g;simp[quiet,a8O,a5C,isLit]at g
      . rcases g with g|g
        . have:=a3O g;rw[z]at this;cases this
        . rw[(a6w (a3O g)).1];exact m9 _
      . omega
      . rw[z]at g;simp[L5]at g) aE⟩
     rw[z]at l;obtain⟨aQ,args,ats,R,aG,ae⟩:=c0C l;obtain⟨dst,op,type,pos,after,guard⟩:=o;simp only at R;subst R;have aH:FI P (y9 (T i).loc (T i).vars fd) (b.map (y9 (T i).loc (T i).vars)) hS (p i) (ws i):=(b6r O).1 hS aD;obtain⟨f,aR,aS,aI,aJ,aK⟩:=c1i r.hr Y aG ae aH;have af:=b1P (P:=P) (w:=w) (ρ:=a.eval) (dst:=dst) (args:=args) (ats:=ats) (type:=type) (pos:=pos) (after:=after) (guard:=guard) aI aJ;rw[af];exact⟨fun e=>(by cases e),a4y.2 (aK _ fun v w' G' r1 r2 r3 r4=>M r1 r2 r3 r4)⟩
   . have F:B3 (y9 (T i).loc (T i).vars) (l8 hS x.hide) x.op=some (p i,ws i):=by
      by_cases V:L5 x.op=0
      . rw[←u];exact d0b V
      . cases ag:a5C x.op
        . cases W:isLit x.op
          . cases ar:a7k x.op
            . by_cases E:L5 x.op=1
              . have I:∀k∈I0 x.op,l8 hS x.hide k=l8 (T i).heap x.hide k:=fun k ad=>b2V d A J r n C (.inl E) ad;cases l:x.op<;>(try (rw[l]at E;simp[L5]at E;done))<;>rw[l]at u I<;>(try (simp only[B3]at u⊢;rw[I _ (by simp[I0])];exact u));rename_i kk sz aT m s x;simp only[L5]at E;rw[l]at E;simp only[L5]at E;split at E<;>cases E
              . rw[b6s d A r n C V (by
                 cases l:x.op<;>first|rfl|exact absurd l (aA _ _ _ _)|(rw[l]at W;cases W;done)|(rw[l]at ag;cases ag;done)) E ar (by
                 cases l:x.op<;>first|rfl|exact absurd l (aB _ _))];exact u
            . exact c4v d A r n C ar u
          . cases l:x.op<;>(try (rw[l]at W;cases W;done))
            case lit=>rw[l]at u;simp only[B3]at u⊢;exact u
            case mkarr kk sz zs parts=>
             have I:l8 hS x.hide kk=l8 (T i).heap x.hide kk:=b2V d A J r n C (.inr (by rw[l];rfl)) (by rw[l];simp[I0]);rw[l]at u;simp only[B3]at u⊢;rw[I];exact u
        . exact c2e d A r n C ag u
     have aL:B3 (y9 (T i).loc (T i).vars) (l8 hS x.hide) x0=some (p i,ws i):=by
      rcases aa with e|⟨sz,a,v,av,ah,au⟩
      . rw[←e];exact F
      . rw[au]at F;rw[ah];simp only[B3]at F⊢;split at F
        . split at F
          . exact F
          . cases F
        . cases F
     have aM:∀j,j∈I0 x0→j<hS.length∧x.hide.contains j=false:=fun j hj=>X j (by
      rcases aa with e|⟨sz,a,v,av,ah,au⟩
      . rw[e];exact hj
      . rw[ah]at hj;simp[I0]at hj)
     obtain⟨nx,v,w',G',g1,g2,g3,g4,g5,g6⟩:=b7Q r.hr Y l aM aL;rw[g1];rcases g2 with rfl|⟨rfl,rfl⟩
     . exact M g3 g4 g5 g6
     . exact M g3 g4 g5 g6
def a3k(S:Nat→Bool):Nat→Nat
 |0=>0
 |n+1=>a3k S n+if S n then 0 else 1
theorem b7L{S S':Nat→Bool}(hs:∀j,S j=true→S' j=true):∀n,a3k S' n≤a3k S n
 |0=>m9 _
 |n+1=>by
  have:=b7L hs n;simp only[a3k]
  grind
theorem c1m{S:Nat→Bool}{i:Nat}(hi:S i=false):∀{n:Nat},i<n→a3k (fun j=>S j||j==i) n<a3k S n
 |0,h=>by omega
 |n+1,h=>by
  simp only[a3k];by_cases a:i=n
  . subst a;have:=b7L (S:=S) (S':=fun j=>S j||j==i) (fun j hj=>by simp[hj]) i;simp[hi];omega
  . have:=c1m hi (n:=n) i9
    grind
theorem c0y{S:Nat→Bool}:∀{n:Nat},a3k S n=0→∀j,j<n→S j=true
 |0,_,j,h=>by omega
 |n+1,h,j,hj=>by
  simp only[a3k]at h;cases hs:S n
  . rw[hs]at h;simp at h
  . by_cases a:j=n
    . subst a;exact hs
    . exact c0y (n:=n) i9 j i9
theorem b3A(S:Nat→Bool):∀n,a3k S n≤n
 |0=>m9 _
 |n+1=>by have:=b3A S n;simp only[a3k];split<;>omega
theorem b8Z(E:vs.Nodup)(d:a0K P vs N ops xs)(l:Trace (fns P) xs vars h T p ws)(r:a1d P B Z0 W0 vs N ops vars h T p ws S G hS a w)(F:∀j,j<ops.length→S j=true):s6 B Z0 G (T xs.length).heap w∧X0 G (T xs.length).heap w vs (T xs.length).vars a∧a.tmps.size=N∧a0u W0.m a.defers w∧W0.psi (Y1 vs (T xs.length).vars) G (T xs.length).heap w:=by
 have n:∀q:Nat→Bool,J7 (fun j=>S j&&q j) ops.length=J7 q xs.length:=fun q=>by rw[d.len];exact a8s fun j hj=>by rw[F j hj];rfl
 have o:hS=(T xs.length).heap:=a3u fun k=>by
  rw[r.hp k,l.heap k (m9 _),n]
  all_goals rfl
 have H:∀i,i≤xs.length→Y1 vs (T i).vars=Y1 vs vars:=fun i=>by
  induction i with
  |zero=>intro _;rw[l.t0]
  |succ i I=>
   intro hi;have s:i<xs.length:=i9;obtain⟨x,g,u⟩:=d.ok i _ (m7 (d.len▸s));rw[m7 s]at g;cases g;rw[l.next s,←I i9];simp only;rw[u.var];exact b2t
 refine⟨o▸r.hr,fun k t m=>?_,r.sz,r.df,by rw[H _ (m9 _)];exact o▸r.be⟩;have J:vs.idxOf? t=some k:=by
  cases hi:vs.idxOf? t with
  |none=>exact absurd m (b8p hi)
  |some U=>rw[b4w E (a0U hi) m]
 have A:∀j (c:j<xs.length),∃b,ops[j]?=some b∧(xs[j]).var=b.dst.bind (vs.idxOf? ·):=fun j c=>by obtain⟨x,g,u⟩:=d.ok j _ (m7 (d.len▸c));rw[m7 c]at g;cases g;exact⟨_,m7 (d.len▸c),u.var⟩
 have K:∀j (c:j<xs.length),(xs[j]).var=some k→dq ops t j=true:=fun j c C=>by obtain⟨b,hb,y⟩:=A j c;rw[y]at C;obtain⟨L,M,O⟩:=Y4.1 C;have:L=t:=a0c ((a0U O).symm.trans m);subst this;exact(a5B hb).2 M
 have Q:∀j (c:j<xs.length),dq ops t j=true→(xs[j]).var=some k:=fun j c R=>by obtain⟨b,hb,y⟩:=A j c;rw[y,(a5B hb).1 R];exact J
 rw[←o];have D:=l.vr K Q (m9 _);cases f:J7 (fun j=>S j&&dq ops t j) ops.length with
 |some j=>
  obtain⟨v,h1,z⟩:=r.slw t j f;refine⟨v,h1,?_⟩;rw[n]at f;rcases D with e|e
  . rw[e];exact K9
  . rw[e,f];exact z
 |none=>
  obtain⟨v,h1,z⟩:=r.sl0 t f k m;refine⟨v,h1,?_⟩;rw[n]at f;rcases D with e|e
  . rw[e];exact K9
  . rw[e,f];exact z
theorem c9K(b:vs.Nodup)(d:a0K P vs N ops xs)(c:Trace (fns P) xs vars h T p ws)(r:a1d P B Z0 W0 vs N ops vars h T p ws S G hS a w)(e:∀j,j<ops.length→S j=true):O2 B Z0 W0 vs N (T xs.length).vars (T xs.length).heap a w:=⟨G,b8Z b d c r e⟩
theorem c0G(z:vs.Nodup)(d:a0K P vs N ops xs)(A:Trace (fns P) xs vars h T p ws)(C:a2k h.length xs=true){Q:Exit→Act→World→Prop}(u:∀S G hS a w,a1d P B Z0 W0 vs N ops vars h T p ws S G hS a w→(∀j,j<ops.length→S j=true)→Q .normal a w):
 ∀(fuel:Nat) (b:Array Bool) (a:Act) (w:World) (G:Gh) (hS:l7),b.size=ops.length→a3k (fun j=>b.getD j false) ops.length≤fuel→
  (∀j k,b.getD j false=true→j<ops.length→((I3 [] ops).getD j 0).testBit k=true→b.getD k false=true)→
  a1d P B Z0 W0 vs N ops vars h T p ws (fun j=>b.getD j false) G hS a w→wpAnyIn (fz ρ) nn P .any ops.toArray Q fuel b a w:=by
 have l:∀(b:Array Bool) (i:Nat),b.size=ops.length→(i∈Region.ready .any ops.toArray b↔i<ops.length∧b.getD i false=false∧∃o,ops[i]?=some o∧∀e∈o.after.toList,Region.binds .any e=true→b.getD e.on false=true):=by
  intro b i c;unfold Region.ready;rw[a7M,a1v];simp only[a9A,a7K,G4,a6M];constructor
  . rintro⟨h1,f,g⟩;refine⟨h1,?_,ops[i],m7 h1,fun e he hb=>?_⟩
    . grind
    . rw[m7 h1]at g;simp only[a2o,a4F]at g;have:=Array.all_eq_true'.1 g e (by simpa using he);rw[hb]at this;simpa using this
  . grind
 have D:∀(b:Array Bool),b.size=ops.length→Region.ready .any ops.toArray b=[]→∀j,j<ops.length→b.getD j false=true:=by
  intro b c hr j
  induction j using Nat.strongRecOn with
  |_ j m=>
   intro hj;cases hs:b.getD j false
   . exfalso;have:j∈Region.ready .any ops.toArray b:=(l b j c).2 ⟨hj,hs,ops[j],m7 hj,fun e he hb=>by
      have:=b1x d.ed j _ (m7 hj) e he hb;exact m e.on i9 i9⟩
     rw[hr]at this;simp at this
   . rfl
 intro fuel
 induction fuel with
 |zero=>
  intro b a w G hS c v n r;have x:=c0y (Nat.le_zero.1 v);unfold wpAnyIn;refine⟨?_,u _ _ _ _ _ r x⟩;refine c1p.2 fun i hi=>?_;obtain⟨h1,f,_⟩:=(l b i c).1 hi;rw[x i h1]at f;cases f
 |succ fuel m=>
  intro b a w G hS c v n r;unfold wpAnyIn;refine⟨fun hr=>u _ _ _ _ _ r (D b c hr),fun i hi=>?_⟩;obtain⟨h1,f,o,g,E⟩:=(l b i c).1 hi;have F:∀k,((I3 [] ops).getD i 0).testBit k=true→b.getD k false=true:=fun k H=>by
   obtain⟨e,q,s,L,y⟩:=a8t g H;rcases y with rfl|y
   . exact E e q s
   . grind
  have t:(fun j=>(b.setIfInBounds i true).getD j false)=fun j=>(b.getD j false||j==i):=by
   funext j;simp only[a3Z];by_cases M:j=i
   . grind
   . grind
  refine c1F z d A C r ⟨h1,f,n,F⟩ fun G' I J w' O=>?_;refine m _ J w' G' I (by simpa using c) ?_ ?_ (by grind)
  . rw[t];have:=c1m (S:=fun j=>b.getD j false) f h1;omega
  . intro j k hj K hb;have q:=congrFun t j;have s:=congrFun t k;rw[q]at hj;rw[s];rw[a1j]at hj⊢;rcases hj with hj|hj
    . exact .inl (n j k hj K hb)
    . grind
theorem c6d{ops:List Oper}{h:l7}{G:Gh}{a:Act}{w:World}(b:s6 B Z0 G h w)(e:X0 G h w vs vars a)(f:a.tmps.size=N)(i:a0u W0.m a.defers w)(l:W0.psi (Y1 vs vars) G h w):
 a1d P B Z0 W0 vs N ops vars h T p ws (fun j=>(Array.replicate ops.length false).getD j false) G h a {w with drawn:=w.drawn+1}:=by
 have d:∀q:Nat→Bool,J7 (fun j=>(Array.replicate ops.length false).getD j false&&q j) ops.length=none:=fun q=>by
  have m:∀n,J7 (fun j=>(Array.replicate ops.length false).getD j false&&q j) n=none:=fun n=>by
   induction n with
   |zero=>rfl
   |succ n r=>
    simp only[J7];rw[r,if_neg];simp only[a3Z,a7O];split<;>simp
  exact m _
 have s:Bl B w {w with drawn:=w.drawn+1}:=Bl.drew (Bl.refl _ _);have c:Ext G h w G h {w with drawn:=w.drawn+1}:=⟨fun _ x=>x,fun _ _=>rfl,Ext.refl.kp (w:=w)⟩
 refine⟨?_,rfl,fun k=>?_,fun t j hj=>?_,fun t _ k u=>?_,f,i,W0.step l c s⟩
 . exact⟨b.base,b.zo,b.zb,b.lv,b.nz,b.fz,b.inj,fun k g o z=>(b.ob k g o z).ext c (fun y=>C9.refl _ _) fun y _=>rfl⟩
 . rw[d]
 . rw[d]at hj;cases hj
 . obtain⟨v,h1,A⟩:=e k t u;exact⟨v,h1,A.ext c⟩
theorem c1K(hm:P.follows .mixedOrders=true)(e:vs.Nodup){id k l:Nat}{ops:List Oper}{xs:List l6}(m:a4V P vs N k ops true=some (xs,l))(s:a2k h.length xs=true){Q':B5→Prop}(u:G6 (fns P) xs ⟨[],vars,h⟩ Q')
 {Q:Exit→Act→World→Prop} (z:∀st a w,O2 B Z0 W0 vs N st.vars st.heap a w→Q' st→Q .normal a w) (hi:O2 B Z0 W0 vs N vars h a w):(Code.region id ops.toArray true).wpIn (fz ρ) nn P Q a w:=by
 have d:=b3o m;obtain⟨T,p,ws,t0,A,C⟩:=b4t d.cy u;have f:Trace (fns P) xs vars h T p ws:=⟨t0,C⟩
 obtain⟨G,b,D,E,F,H⟩:=hi;refine wpIn_region_any hm ?_;have i:∀q:Nat→Bool,J7 (fun j=>(Array.replicate ops.length false).getD j false&&q j) ops.length=none:=fun q=>by
  have I:∀n,J7 (fun j=>(Array.replicate ops.length false).getD j false&&q j) n=none:=fun n=>by
   induction n with
   |zero=>rfl
   |succ n J=>
    simp only[J7];rw[J,if_neg];simp only[a3Z,a7O];split<;>simp
  exact I _
 have K:Bl B w {w with drawn:=w.drawn+1}:=Bl.drew (Bl.refl _ _);refine c0G (B:=B) (Z0:=Z0) (W0:=W0) (p:=p) (ws:=ws) e d f s (fun S G hS a w r L=>z _ a w (c9K e d f r L) A) _ _ _ _ G h l5 (by simpa using b3A _ _) ?_ ?_
 . intro j k hj;exfalso;revert hj;simp only[a3Z,a7O];split<;>simp
 . have c:Ext G h w G h {w with drawn:=w.drawn+1}:=⟨fun _ x=>x,fun _ _=>rfl,Ext.refl.kp (w:=w)⟩
   refine⟨?_,rfl,fun k=>?_,fun t j hj=>?_,fun t _ k M=>?_,E,F,W0.step H c K⟩
   . exact⟨b.base,b.zo,b.zb,b.lv,b.nz,b.fz,b.inj,fun k g o O=>(b.ob k g o O).ext c (fun y=>C9.refl _ _) fun y _=>rfl⟩
   . rw[show ops.toArray.size=ops.length by simp]at*;rw[i]
   . rw[show ops.toArray.size=ops.length by simp]at*;rw[i]at hj;cases hj
   . obtain⟨v,h1,R⟩:=D k t M;exact⟨v,h1,R.ext c⟩
end
section
variable{F:Fence}{n:Nat}{P:Program}{Q Q1:Exit→Act→World→Prop}{K K1:Act→World→Prop}{a:Act}{w:World}
theorem c7i{o:Oper}(c:∀a w,K1 a w→K a w)(d:∀e a w,e≠ .normal→¬Q1 e a w)(b:o.wpIn F n P a w K1 Q1):o.wpIn F n P a w K Q:=by
 unfold Oper.wpIn at*;refine⟨b.1,?_⟩;have b:=b.2;generalize(o.semAt F.round a.eval).run P w=r at*;have f:¬LetsOut Q1:=fun⟨a,w,h⟩=>d _ _ _ (fun e=>by cases e) h;cases r with
 |ok x w'=>
  cases x<;>simp only[Oper.uponIn]at b⊢ <;>
   first
    |exact c _ _ b
    |exact⟨b.1,CallsIn.mono b.2 (fun e g he=>by cases e<;>first|exact c _ _ he|exact absurd he (d _ _ _ (fun e=>by cases e))|exact absurd he f)⟩
    |exact⟨b.1,RowsIn.mono b.2 (fun _ _ he=>c _ _ he)⟩
    |exact⟨b.1,RoundIn.mono b.2 (fun e g he=>by cases e<;>first|exact c _ _ he|exact absurd he (d _ _ _ (fun e=>by cases e))|exact absurd he f)⟩
 |halt x w'=>cases x<;>simp only[Oper.uponIn]at b⊢ <;>first|exact b.elim|exact absurd b (d _ _ _ (fun e=>by cases e))
theorem c9J{ops1 ops:Array Oper}{i:Nat}(g:ops1[i]?=ops[i]?)(k:∀o j b,ops[i]?=some o→o.guard=some (j,b)→ops1[j]?=ops[j]?)(l:∀e a w,e≠ .normal→¬Q1 e a w)(c:∀a w,K1 a w→K a w)
 (h:wpOpIn F n P ops1 Q1 i K1 a w):wpOpIn F n P ops Q i K a w:=by
 unfold wpOpIn at*;rw[g]at h;cases d:ops[i]? with
 |none=>rw[d]at h;exact c _ _ h
 |some o=>
  rw[d]at h;simp only at h⊢;have hw:Region.wanted o (yielded ops1 a.tmps)=Region.wanted o (yielded ops a.tmps):=by
   unfold Region.wanted;cases m:o.guard with
   |none=>rfl
   |some p=>
    obtain⟨j,b⟩:=p;simp only;have:yielded ops1 a.tmps j=yielded ops a.tmps j:=(by unfold yielded;rw[k o j b d m]);rw[this]
  rw[hw]at h;split at h
  . rename_i f;rw[if_pos f];exact c7i c l h
  . rename_i f;rw[if_neg f];exact⟨h.1,c _ _ h.2⟩
theorem a6o(ops:List Oper)(a:Array Bool)(i:Nat)(d:a.size=ops.length):i∈Region.ready .any ops.toArray a↔i<ops.length∧a.getD i false=false∧∃o,ops[i]?=some o∧∀e∈o.after.toList,Region.binds .any e=true→a.getD e.on false=true:=by
 unfold Region.ready;rw[a7M,a1v];simp only[a9A,a7K,G4,a6M];constructor
 . rintro⟨h1,c,b⟩;refine⟨h1,?_,ops[i],m7 h1,fun e he hb=>?_⟩
   . rw[←c];simp only[a3Z]
     grind
   . rw[m7 h1]at b;simp only[a2o,a4F]at b;have:=Array.all_eq_true'.1 b e (by simpa using he)
     grind
 grind
theorem b2B{ops:List Oper}(b:a4b 0 ops=true)(a:Array Bool)(c:a.size=ops.length)(hr:Region.ready .any ops.toArray a=[]):∀j,j<ops.length→a.getD j false=true:=by
 intro j
 induction j using Nat.strongRecOn with
 |_ j d=>
  intro hj;cases hs:a.getD j false
  . exfalso;have:j∈Region.ready .any ops.toArray a:=(a6o ops a j c).2 ⟨hj,hs,ops[j],m7 hj,fun e he hb=>by
     have:=b1x b j _ (m7 hj) e he hb;exact d e.on i9 i9⟩
    grind
  . rfl
theorem c6Y{ops:List Oper}:∀(i:Nat) {j:Nat},i<ops.length→((I3 [] ops).getD i 0).testBit j=true→j<i:=by
 intro i
 induction i using Nat.strongRecOn with
 |_ i c=>
  intro j hi h;obtain⟨e,_,_,b,a⟩:=a8t (m7 hi) h;rcases a with rfl|a
  . exact b
  . have:=c e.on b i9 a;omega
theorem a8R{a:Array Bool}{i:Nat}(h:i<a.size)(j:Nat):(a.setIfInBounds i true).getD j false=(a.getD j false||j==i):=by
 simp only[a3Z]
 grind
theorem c2D{ops:List Oper}{m:Nat}(q:∀i,m≤i→i<ops.length→∀j,j<i→((I3 [] ops).getD i 0).testBit j=true)(r:a4b 0 ops=true):
 ∀(fuel i:Nat) (b:Array Bool) (a:Act) (w:World),m≤i→i≤ops.length→ops.length-i≤fuel→b.size=ops.length→(∀j,j<ops.length→(b.getD j false=true↔j<i))→wpOpsIn F n P ops.toArray Q (List.range' i (ops.length-i)) a w→wpAnyIn F n P .any ops.toArray Q fuel b a w:=by
 intro fuel
 induction fuel with
 |zero=>
  intro i b a w s t u g f h;obtain rfl:i=ops.length:=i9;rw[a6L]at h;unfold wpAnyIn;refine⟨c1p.2 fun i hi=>?_,h⟩;obtain⟨h1,d,_⟩:=(a6o ops b i g).1 hi;rw[(f i h1).2 h1]at d;cases d
 |succ fuel v=>
  intro i b a w s t u g f h;unfold wpAnyIn;by_cases hi:i=ops.length
  . subst hi;rw[a6L]at h;refine⟨fun _=>h,fun i hi=>?_⟩;obtain⟨h1,d,_⟩:=(a6o ops b i g).1 hi;rw[(f i h1).2 h1]at d;cases d
  . have p:i<ops.length:=i9;have x:b.getD i false=false:=by
     cases hs:b.getD i false
     . rfl
     . have:=(f i p).1 hs;omega
    refine⟨fun hr=>?_,fun c y=>?_⟩
    . have:=b2B r b g hr i p;rw[x]at this;cases this
    . obtain⟨h1,d,o,z,A⟩:=(a6o ops b c g).1 y;have G:¬c<i:=fun l=>(by rw[(f c h1).2 l]at d;cases d);have B:c=i:=by
       rcases a5O i c with l|hle
       . exfalso;obtain⟨e,C,D,H,k⟩:=a8t z (q c i9 h1 i l);have he:=(f e.on i9).1 (A e C D);rcases k with k|k
         . omega
         . have:=c6Y e.on i9 k;omega
       . omega
      subst B;rw[show ops.length-c=(ops.length-(c+1))+1 by omega,List.range'_succ,wpOpsIn_cons]at h;refine wpOpIn_mono (fun a w E=>?_) h;refine v (c+1) _ a w i9 i9 i9 (by simpa using g) (fun j hj=>?_) E;rw[a8R i9,a1j,f j hj];simp only[beq_iff_eq];omega
theorem c8P{ops:List Oper}{m:Nat}(hm:m≤ops.length)(B:∀i,m≤i→i<ops.length→∀j,j<i→((I3 [] ops).getD i 0).testBit j=true)(s:a4b 0 ops=true)(K:a4b 0 (ops.take m)=true)
 (L:∀i o j b,i<m→ops[i]?=some o→o.guard=some (j,b)→j<m) (M:∀e a w,e≠ .normal→¬Q1 e a w) (N:∀a w,Q1 .normal a w→wpOpsIn F n P ops.toArray Q (List.range' m (ops.length-m)) a w):
 ∀(fuel:Nat) (d c:Array Bool) (a:Act) (w:World),d.size=m→c.size=ops.length→(∀j,j<m→c.getD j false=d.getD j false)→(∀j,m≤j→j<ops.length→c.getD j false=false)→
  (∀j k,c.getD j false=true→j<ops.length→((I3 [] ops).getD j 0).testBit k=true→c.getD k false=true)→
  wpAnyIn F n P .any (ops.take m).toArray Q1 fuel d a w→wpAnyIn F n P .any ops.toArray Q (fuel+(ops.length-m)) c a w:=by
 have hlen:(ops.take m).length=m:=by rw[a1W];omega
 have t:∀i,i<m→(ops.take m)[i]?=ops[i]?:=fun i hi=>by rw[a0y,if_pos hi]
 have C:∀(fuel:Nat) (d c:Array Bool) (a:Act) (w:World),ops.length-m≤fuel→c.size=ops.length→(∀j,j<m→c.getD j false=d.getD j false)→(∀j,m≤j→j<ops.length→c.getD j false=false)→(∀j,j<m→d.getD j false=true)→Q1 .normal a w→wpAnyIn F n P .any ops.toArray Q fuel c a w:=fun fuel d c a w O f h1 g D p=>
  c2D B s fuel m c a w (m9 _) hm O f (fun j hj=>by
   by_cases q:j<m
   . rw[h1 j q,D j q];simp[q]
   . rw[g j i9 hj];simp[q]) (N _ _ p)
 intro fuel
 induction fuel with
 |zero=>
  intro d c a w E f h1 g u h;unfold wpAnyIn at h;exact C _ d c a w i9 f h1 g (fun j hj=>b2B K d i9 h.1 j i9) h.2
 |succ fuel R=>
  intro d c a w E f h1 g u h;unfold wpAnyIn at h;by_cases hd:∀j,j<m→d.getD j false=true
  . refine C _ d c a w i9 f h1 g hd (h.1 (c1p.2 fun i hi=>?_));obtain⟨D,p,_⟩:=(a6o _ d i i9).1 hi;rw[hd i i9]at p;cases p
  . rw[show fuel+1+(ops.length-m)=(fuel+(ops.length-m))+1 by omega];unfold wpAnyIn;obtain⟨l,S⟩:=Classical.not_forall.1 hd;obtain⟨T,U⟩:=Classical.not_imp.1 S;have G:¬c.getD l false=true:=(by rw[h1 l T];exact U);refine⟨fun hr=>absurd (b2B s c f hr l i9) G,fun i hi=>?_⟩;obtain⟨V,W,o,v,x⟩:=(a6o ops c i f).1 hi;have H:∀k,((I3 [] ops).getD i 0).testBit k=true→c.getD k false=true:=fun k y=>by
     obtain⟨e,I,J,ac,z⟩:=a8t v y;rcases z with rfl|z
     . exact x e I J
     . exact u e.on k (x e I J) i9 z
    have r:i<m:=by
     rcases a5O i m with X|Y
     . exact X
     . exact absurd (H l (B i Y V l i9)) G
    have Z:i∈Region.ready .any (ops.take m).toArray d:=(a6o _ d i i9).2 ⟨i9,by rw[←h1 i r];exact W,o,by rw[t i r];exact v,fun e he hb=>by have:=b1x s i o v e he hb;rw[←h1 e.on i9];exact x e he hb⟩
    refine c9J (ops1:=(ops.take m).toArray) (by simpa using t i r) (fun o j b aa ab=>by have:=L i o j b r (by simpa using aa) ab;simpa using t j this) M (fun a w y=>?_) (h.2 i Z)
    refine R _ _ a w (by simpa using E) (by simpa using f) (fun j hj=>?_) (fun j hj A=>?_) (fun j k hj A hb=>?_) y
    . rw[a8R i9,a8R i9,h1 j hj]
    . rw[a8R i9,g j hj A];have:(j==i)=false:=I2;rw[this];rfl
    . rw[a8R i9,a1j]at hj⊢;rcases hj with hj|hj
      . exact .inl (u j k hj A hb)
      . obtain rfl:j=i:=(by simpa using hj);exact .inl (H k hb)
theorem a8w{FN:N7}{Q:B5→Prop}{g:List l6}:∀{xs:List l6} {st:B5},xs.any (fun x=>a7B x.op)=false→G6 FN (xs++g) st Q→G6 FN xs st fun st=>G6 FN g st Q
 | [],st,_,h=>h
 |x::xs,st,a,h=>by
  simp only[List.any_cons,Bool.or_eq_false_iff]at a;rw[a7L]at h;cases b:gdO st.loc st.vars x.guard with
  |none=>simp only[G6,b]at h
  |some c=>
   cases c with
   |false=>simp only[G6,b]at h⊢;exact a8w a.2 h
   |true=>
    cases d:x.op
    case call f args ks al=>
     simp only[G6,b,d]at h⊢;obtain⟨r,h0,h1,e,i⟩:=h;exact⟨r,h0,h1,e,a8w a.2 i⟩
    case callv f args=>
     simp only[G6,b,d]at h⊢;obtain⟨r,ws,h1,e⟩:=h;exact⟨r,ws,h1,a8w a.2 e⟩
    case cally f args=>rw[d]at a;simp[a7B]at a
    all_goals
     simp only[G6,b,d]at h⊢;split at h
     . exact a8w a.2 h
     . exact h.elim
end
section
variable{P:Program}{B:Nat}{Z0:Nat→Prop}{W0:N2 B}{ρ:Option Nat}{nn:Nat}{vs:List Nat}{N:Nat}{ops:List Oper}{xs:List l6}{vars:List PV}{h:l7}{T:Nat→B5}{p:Nat→PV}{ws:Nat→List (Nat×Row)}{S:Nat→Bool}{G:Gh}{hS:l7}{a:Act}{w:World}
theorem c6p(i:vs.Nodup)(d:a0K P vs N ops xs)(c:Trace (fns P) xs vars h T p ws)(r:a1d P B Z0 W0 vs N ops vars h T p ws S G hS a w)(e:∀j,j<ops.length→S j=true):a4r G hS w ops ops.length (T xs.length).loc a:=fun t j hj=>by
 have b:J7 (fun j=>S j&&dq ops t j) ops.length=some j:=by rw[b1B]at hj;rw[←hj];exact a8s fun j hj=>by rw[e j hj];rfl
 obtain⟨v,h1,f⟩:=r.slw t j b;refine⟨v,h1,?_⟩;have g:=(b6F b).1;rw[(c.loc (m9 xs.length)).2 j (by rw[d.len];exact g)];exact f
theorem c9v(d:a0K P vs N ops xs)(b:Trace (fns P) xs vars h T p ws)(r:a1d P B Z0 W0 vs N ops vars h T p ws S G hS a w)(c:∀j,j<ops.length→S j=true):hS=(T xs.length).heap:=a3u fun k=>by
 have e:∀q:Nat→Bool,J7 (fun j=>S j&&q j) ops.length=J7 q xs.length:=fun q=>by rw[d.len];exact a8s fun j hj=>by rw[c j hj];rfl
 rw[r.hp k,b.heap k (m9 _),e]
 all_goals rfl
theorem b9O{ops:List Oper}{t m:Nat}:∀{i:Nat},i≤m→a0S (ops.take m) t i=a0S ops t i
 |0,_=>rfl
 |i+1,h=>by
  have h1:i<m:=i9;have a:=b9O (ops:=ops) (t:=t) (m:=m) (i:=i) i9;simp only[a0S]
  grind
end
theorem b3F{P:Program}{F:Fence}{n:Nat}{Q:Exit→Act→World→Prop}{a:Act}{w:World}{c:Code}(h:c.wpIn F n P (Exit.noGoto Q) a w):(Code.scope c).wpIn F n P Q a w:=by
 intro b k cs m hb hr;have h0:(lone (b.atR a (.code (.scope c)::k)) cs w).fenced P F:=fenced_calm hb hr rfl;have hs:step P (lone (b.atR a (.code (.scope c)::k)) cs w)=.next (lone (b.atR a (.code c::.inScope c::k)) cs w):=
  step_lone_go (by simp[stepG,stepG.exec,Frame.atR])
 have o:∀a w,step P (lone (b.atR a (.inScope c::k)) cs w)=.next (lone (b.atR a k) cs w):=fun a w=>
  step_lone_go (by simp[stepG,stepG.exec,Frame.atR])
 obtain⟨e,g,i,d,f⟩:=h b (.inScope c::k) cs m hb hr;cases e with
 |normal=>exact⟨.normal,g,i,d,.head h0 hs (StepsIn.trans f (.one (fenced_calm hb hr rfl) (o _ _)))⟩
 |exit id=>exact⟨.exit id,g,i,d,fun p j=>.head h0 hs (f.1 p (by simp[exitTo,j])),fun q j=>let⟨k₁,h1,h2⟩:=f.2 q (by simp[exitTo,j]);⟨k₁,h1,.head h0 hs h2⟩⟩
 |goto l=>exact d.elim
 |ret=>exact⟨_,g,i,d,.of_steps (.one h0 hs) f⟩
 |panic r=>exact⟨_,g,i,d,.of_steps (.one h0 hs) f⟩
 |outgrown=>exact⟨_,g,i,d,.of_steps (.one h0 hs) f⟩
def exOf:Q7→Exit
 | .normal=>.normal
 | .exit id=>.exit id
 | .ret=>.ret
section
variable{P:Program}{B:Nat}{Z0:Nat→Prop}{W0:N2 B}{ρ:Option Nat}{nn:Nat}{vs:List Nat}{N:Nat}{vars:List PV}{h:l7}{a:Act}{w:World}
def a9R(B:Nat)(Z0:Nat→Prop)(W0:N2 B)(vs:List Nat)(N:Nat)(Q':J1)(Q:Exit→Act→World→Prop):Prop:=∀e vars h a w,O2 B Z0 W0 vs N vars h a w→Q' e vars h→Q (exOf e) a w
theorem b2n{FN:N7}(g:FN.fn=Fn P)(l:FN.fi=FI P)(m:a7s P B Z0 W0 ρ vs FN.fy)(n:vs.Nodup){id k f:Nat}{ops:List Oper}{xs:List l6}(b:b1g P vs N k ops false=some (xs,f))(o:a2k h.length xs=true){Q':B5→Prop}(p:G6 FN xs ⟨[],vars,h⟩ Q')
 {Q:Exit→Act→World→Prop} (q:∀st a w,O2 B Z0 W0 vs N st.vars st.heap a w→Q' st→Q .normal a w) (hi:O2 B Z0 W0 vs N vars h a w):(Code.region id ops.toArray false).wpIn (fz ρ) nn P Q a w:=by
 have b:a4V P vs N k ops false=some (xs,f):=b;unfold a4V at b;split at b
 . cases b
 . rename_i r s u;simp only[a3W,if_false,s7,s9]at b;obtain⟨rfl,rfl⟩:=b;obtain⟨tail,h1,v⟩:=b4u (B:=B) (Z0:=Z0) (W0:=W0) g l m n (Q:=Q) (Q':=Q') (fun i st a w hinv x=>by
    obtain⟨G,c,d,_,_,e,y,z⟩:=hinv;exact q st a w ⟨G,c,d,e,y,z⟩ x) ops [] k s r rfl u
   simp only[a4C]at h1;subst h1;obtain⟨G,c,d,A,C,e⟩:=hi;have:=v ⟨[],vars,h⟩ a w ⟨G,c,d,fun t j hj=>by simp[a0S]at hj,rfl,A,C,e⟩ o p;exact wpIn_region (by simpa[List.range_eq_range']using this)
theorem b1D{c:Operand}{d:A0}(hd:a0x vs [] 0 c=some d){G:Gh}(b:X0 G h w vs vars a):j8 G h w D (a.eval c) (y9 [] vars d):=
 b3D b (ops:=[]) (i:=0) (loc:=[]) (fun t j hj=>by simp[a0S]at hj) c d hd
theorem a7I{FN:N7}(b:FN.fn=Fn P)(d:FN.fi=FI P){Q:B5→Prop}:∀{xs:List l6} {st:B5},xs.any (fun x=>a7B x.op)=false→G6 FN xs st Q→G6 (fns P) xs st Q
 | [],st,_,h=>h
 |x::xs,st,a,h=>by
  simp only[List.any_cons,Bool.or_eq_false_iff]at a;cases e:gdO st.loc st.vars x.guard with
  |none=>simp only[G6,e]at h
  |some c=>
   cases c with
   |false=>simp only[G6,e]at h⊢;exact a7I b d a.2 h
   |true=>
    cases g:x.op
    case call f args ks al=>
     simp only[G6,e,g]at h⊢;obtain⟨r,h0,h1,i,j⟩:=h;exact⟨r,h0,b▸h1,i,a7I b d a.2 j⟩
    case callv f args=>
     simp only[G6,e,g]at h⊢;obtain⟨r,ws,h1,i⟩:=h;exact⟨r,ws,d▸h1,a7I b d a.2 i⟩
    case cally f args=>rw[g]at a;cases a.1
    all_goals
     simp only[G6,e,g]at h⊢;split at h
     . exact a7I b d a.2 h
     . exact h.elim
theorem b3l{FN:N7}(hm:P.follows .mixedOrders=true)(z:FN.fn=Fn P)(A:FN.fi=FI P)(R:a7s P B Z0 W0 ρ vs FN.fy)(l:vs.Nodup){id k C:Nat}{ops:List Oper}{xs:List l6}(c:b1g P vs N k ops true=some (xs,C)){vars:List PV}{h:l7}(u:a2k h.length xs=true){Q':B5→Prop}(I:G6 FN xs ⟨[],vars,h⟩ Q')
 {Q:Exit→Act→World→Prop} (J:∀st a w,O2 B Z0 W0 vs N st.vars st.heap a w→Q' st→Q .normal a w) {a:Act} {w:World} (hi:O2 B Z0 W0 vs N vars h a w):(Code.region id ops.toArray true).wpIn (fz ρ) nn P Q a w:=by
 have hold:a4V P vs N k ops true=some (xs,C)→(Code.region id ops.toArray true).wpIn (fz ρ) nn P Q a w:=fun c=>c1K hm l c u (a7I z A (b3o c).cy I) J hi;unfold b1g at c;split at c
 . rename_i m h0 au;split at c
   . rename_i r hr;cases c;unfold b6p at hr;split at hr
     . rename_i q;simp only[G4]at q;obtain⟨⟨q,U⟩,V⟩:=q;have W:m<ops.length:=(by simpa[a1K]using V);split at hr
       . rename_i s X Y;have d:=b3o Y;have K:(ops.take m).length=m:=(by rw[a1W];omega);have D:s.length=m:=(by rw[d.len,K]);obtain⟨tail,rfl,Z⟩:=b4u (nn:=nn) (B:=B) (Z0:=Z0) (W0:=W0) (ρ:=ρ) z A R l (ops:=ops) (al:=true) (Q:=Q) (Q':=Q') (fun i st a w hinv aa=>by
          obtain⟨G,ab,ac,_,_,ad,ae,af⟩:=hinv;exact J st a w ⟨G,ab,ac,ad,ae,af⟩ aa) (ops.drop m) s X C xs (by rw[D]) hr
         have L:a2k h.length s=true∧a2k h.length tail=true:=by unfold a2k at u⊢;rw[List.all_append,G4]at u;exact u
         obtain⟨T,p,ws,t0,ag,ah⟩:=b4t d.cy (a7I z A d.cy (a8w d.cy I));have g:Trace (fns P) s vars h T p ws:=⟨t0,ah⟩
         obtain⟨G,ai,aj,ak,am,an⟩:=hi;have ao:∀i,m≤i→i<ops.length→∀j,j<i→((I3 [] ops).getD i 0).testBit j=true:=fun i av aw j hj=>by unfold b4V at q;have h1:=B0.1 q (i-m) (a1v.2 i9);rw[show m+(i-m)=i by omega]at h1;exact B0.1 h1 j (a1v.2 hj)
         refine wpIn_region_any hm ?_;have M:ops.toArray.size=m+(ops.length-m):=I2;have ax:ops.toArray.size=ops.length:=l5;have h1:=c0G (nn:=nn) (ρ:=ρ) l d g L.1 (Q:=fun e a w=>e=.normal∧wpOpsIn (fz ρ) nn P ops.toArray Q (List.range' m (ops.length-m)) a w) (fun S G hS a w r E=>⟨rfl,by
          have f:=b8Z l d g r E;have F:=c6p l d g r E;rw[c9v d g r E,K]at F;have:=Z (T s.length) a w ⟨G,f.1,f.2.1,by rw[D]at F⊢;exact fun t j hj=>F t j (by rw[b9O (m9 _)];exact hj),(g.loc (m9 _)).1,f.2.2.1,f.2.2.2.1,f.2.2.2.2⟩ (by rw[g.len (m9 _)];exact L.2) ag;rw[D,a4H]at this;exact this⟩) m (Array.replicate (ops.take m).length false) a {w with drawn:=w.drawn+1} G h l5 (by have:=b3A (fun j=>(Array.replicate (ops.take m).length false).getD j false) (ops.take m).length;omega) (fun j k hj=>by exfalso;revert hj;simp only[a3Z,a7O];split<;>simp) (c6d ai aj ak am an)
         have v:∀(n j:Nat),(Array.replicate n false).getD j false=false:=fun n j=>by simp only[a3Z,a7O];split<;>simp
         have O:=c8P (a5N W) ao U d.ed (Q:=Q) (fun i o j b ap aq f=>by
          obtain⟨x,_,ar⟩:=d.ok i o (by rw[a0y,if_pos ap];exact aq);have y:=ar.gd;rw[f]at y;simp only at y;rcases a5O j m with h|h
          . exact h
          . rw[a0y,if_neg i9]at y;simp at y) (fun e a w he H=>he H.1) (fun a w H=>H.2) m _ (Array.replicate ops.toArray.size false) a {w with drawn:=w.drawn+1} I2 l5 (fun j hj=>by rw[v,v]) (fun j _ _=>v _ _) (fun j k hj=>by rw[v]at hj;cases hj) h1
         rw[M];rw[M]at O;exact O
       . cases hr
     . cases hr
   . exact hold c
 . exact hold c
end
section
variable{x b:C7}{k g j id ver sz i:Nat}{c e:PV}{u:Value}{es ks cs:List PV}{FN:N7}
section
variable{P:Program}{B:Nat}{Z0:Nat→Prop}{W0:N2 B}{vs:List Nat}{N:Nat}
theorem b2D{G:Gh}{h:l7}{w:World}(hr:s6 B Z0 G h w){a s':Nat}(b:h[k]?=some (a,.arr s' ver true es))(hp:es.all D5=true)(c:j8 G h w D u (.own k a es.length s' 0 es.length)):j8 G h w D u (.slc (es.map B4)):=by have:=c0Z hr (Z':=G.Z) (fun _ x=>x) b rfl i9 hp (hr.fz k a _ b rfl) c;rw[a9C,M4]at this;exact a0T this
theorem b9b{G:Gh}{h:l7}{w:World}(hr:s6 B Z0 G h w)(d:h[k]?=some (g,.mp true ks cs))(hp:cs.all (fun c=>A9 c||fn0 c)=true)(q:j8 G h w D u (.mapv k g)):PR G.Z w u (.N3 ks cs):=by
 obtain⟨rfl,z,es,A,hb,C,f⟩:=a8f hr d q;have o:=hr.ob k g _ d;unfold F9 at o;have E:G.Z (G.β (root k)):=hr.fz k g _ d rfl none o.1;have h1:∀i,i<cs.length→∃N,∀c,cs[i]?=some c→∃e,es[i]?=some e∧K6 G.Z w N e.val c:=fun i hi=>by
  obtain⟨e,r,b⟩:=f i _ (m7 hi);have a:=B0.1 hp _ (B7 hi);have:∃N,K6 G.Z w N e.val cs[i]:=by
   generalize cs[i]=c at a b;by_cases j:A9 c=true
   . exact a4f j ((a4W (fun ns e=>by subst e;simp[A9]at j)).1 b)
   . have l:fn0 c=true:=(by simpa[j]using a);unfold fn0 at l;split at l
     . unfold a0n at b;obtain⟨vs,us,h1,s,t⟩:=a9g b;refine⟨1,?_⟩;unfold K6;have f:vs= #[]:=b1K s.1;have v:us= #[]:=b1K t.1;rw[h1,f,v]
     . cases l
  obtain⟨N,p⟩:=this;exact⟨N,fun c a=>by rw[m7 hi]at a;cases a;exact⟨e,r,p⟩⟩
 obtain⟨N,p⟩:=a9b (Q:=fun i N=>∀c,cs[i]?=some c→∃e,es[i]?=some e∧K6 G.Z w N e.val c) (fun i n m x y c a=>by obtain⟨e,g1,g2⟩:=y c a;exact⟨e,g1,g2.le x⟩) cs.length h1
 refine⟨N+1,?_⟩;unfold K6
 grind
theorem a7E{G:Gh}{h:l7}{w:World}(hr:s6 B Z0 G h w)(b:one c=true)(a:j8 G h w D u c):one (a0e h c)=true∧j8 G h w D u (a0e h c):=by
 by_cases n:∃k g f s o l,c=.own k g f s o l
 . obtain⟨k,g,f,s,o,l,rfl⟩:=n;simp only[a0e];split
   . rename_i i s' ver fr es j;split
     . rename_i m;obtain⟨rfl,rfl,rfl,rfl,rfl,rfl,hp⟩:=m;have d:h[k]?=some (i,.arr s' ver true es):=by
        rw[u9]at j
        grind
       exact⟨rfl,b2D hr d hp a⟩
     . exact⟨b,a⟩
   . exact⟨b,a⟩
 by_cases p:∃k g f s o l,c=.osl k g f s o l
 . obtain⟨k,g,f,s,o,l,rfl⟩:=p;simp only[a0e];split
   . rename_i i s' ver fr es j;split
     . rename_i m;obtain⟨rfl,rfl,rfl,q,rfl,hp⟩:=m;have d:h[k]?=some (i,.arr s' ver true es):=by
        rw[u9]at j
        grind
       exact⟨rfl,a0T (b0T hr (fun _ y=>y) d rfl q hp (fun y r=>hr.fz k _ _ d rfl y r) a)⟩
     . exact⟨b,a⟩
   . exact⟨b,a⟩
 by_cases hm:∃k g,c=.mapv k g
 . obtain⟨k,g,rfl⟩:=hm;simp only[a0e];split
   . rename_i i fr ks cs j;split
     . rename_i m;obtain⟨rfl,rfl,hp⟩:=m;have d:h[k]?=some (i,.mp true ks cs):=by
        rw[u9]at j
        grind
       exact⟨rfl,a6W (b9b hr d hp a)⟩
     . exact⟨b,a⟩
   . exact⟨b,a⟩
 . have e:a0e h c=c:=by
    cases c<;>first|rfl|exact absurd ⟨_,_,_,_,_,_,rfl⟩ n|exact absurd ⟨_,_,_,_,_,_,rfl⟩ p|exact absurd ⟨_,_,rfl⟩ hm
   rw[e];exact⟨b,a⟩
theorem c2Y{G:Gh}{h:l7}{w:World}(hr:s6 B Z0 G h w)(b:j8 G h w D u c):j8 G h w D u (a0e h c):=by
 by_cases d:∃k g a s o l,c=.own k g a s o l
 . obtain⟨k,g,a,s,o,l,rfl⟩:=d;exact(a7E hr rfl b).2
 by_cases f:∃k g a s o l,c=.osl k g a s o l
 . obtain⟨k,g,a,s,o,l,rfl⟩:=f;exact(a7E hr rfl b).2
 by_cases hm:∃k g,c=.mapv k g
 . obtain⟨k,g,rfl⟩:=hm;exact(a7E hr rfl b).2
 . have e:a0e h c=c:=by
    cases c<;>first|rfl|exact absurd ⟨_,_,_,_,_,_,rfl⟩ d|exact absurd ⟨_,_,_,_,_,_,rfl⟩ f|exact absurd ⟨_,_,rfl⟩ hm
   rw[e];exact b
theorem c9p{G:Gh}{h:l7}{w:World}(hr:s6 B Z0 G h w)(a:h[k]?=some (g,.var cs)):
 s6 B Z0 G (h.set k (g,.var (cs.map (a0e h)))) w∧Ext G h w G (h.set k (g,.var (cs.map (a0e h)))) w:=by
 have o:k<h.length:=(B8.1 a).1;have p:=hr.ob k g _ a;unfold F9 at p;obtain⟨s,us,T,hb,hu⟩:=p;have x:Ext G h w G (h.set k (g,.var (cs.map (a0e h)))) w:=by
  refine⟨fun _ y=>y,fun _ _=>rfl,fun m gn ob e=>?_⟩;by_cases d:m=k
  . subst d;rw[a]at e;cases e;refine⟨g,.var _,F8 o,m9 _,fun _=>⟨fun _ _ _ _ f=>?_,fun H f=>⟨cs,rfl,C9.refl _ _⟩,fun _ _ _ f=>(by cases f)⟩⟩;cases f
  . exact⟨gn,ob,by rw[F7 (Ne.symm d)];exact e,m9 _,fun _=>L0.refl m ob (C9.refl _ _) fun i j=>C9.refl _ _⟩
 refine⟨hr.update k g _ o x (fun _ _ _=>.inl (C9.refl _ _)) (fun _ _ _ _=>rfl) (m9 _) (fun b t=>hr.zb b t) (fun b hb=>.inl hb) (fun _ _ _ _ u=>u) (fun y l=>?_) (fun e=>by cases e) ?_,x⟩
 . obtain⟨z,A⟩:=hr.lv _ l;exact⟨z,A,fun _=>hr.nz k g _ a rfl y l,fun C n e=>congrArg Prod.snd (hr.inj _ _ l n e),fun m C d n e=>d (congrArg Prod.fst (hr.inj _ _ l n e)).symm⟩
 . unfold F9;refine⟨s,us,T,hb,by rw[N5];exact hu.1,fun i c q=>?_⟩;rw[H6]at q;obtain⟨c0,D,rfl⟩:=D0.1 q;obtain⟨v,h1,r⟩:=hu.2 i c0 D;obtain⟨E,F⟩:=a7E hr r.1 r.2;exact⟨v,h1,E,F.ext x⟩
theorem c1D(h:l7)(a:∀cs,c≠ .agg cs):l9 (a0e h c)=[a0e h c]:=by
 cases c<;>simp only[a0e]<;>(try rfl)
 case agg cs=>exact absurd rfl (a cs)
 all_goals (repeat' split)<;>rfl
theorem b3u(h:l7)(e:PV):l9 (a4e h e)=(l9 e).map (a0e h):=by
 by_cases a:∃cs,e=.agg cs
 . obtain⟨cs,rfl⟩:=a;rfl
 . have b:a4e h e=a0e h e:=by cases e<;>first|rfl|exact absurd ⟨_,rfl⟩ a
   have c:l9 e=[e]:=by cases e<;>first|rfl|exact absurd ⟨_,rfl⟩ a
   rw[b,c1D h fun cs e=>a ⟨cs,e⟩,c];rfl
theorem c2J{G:Gh}{h:l7}{w:World}(hr:s6 B Z0 G h w)(d:h[k]?=some (g,.arr sz ver false es)):
 s6 B Z0 G (h.set k (g,.arr sz ver false (es.map (a4e h)))) w∧Ext G h w G (h.set k (g,.arr sz ver false (es.map (a4e h)))) w:=by
 have s:k<h.length:=(B8.1 d).1;have t:=hr.ob k g _ d;unfold F9 at t;obtain⟨E,F,H,I,J⟩:=t;have hu:∀i j ns,cellAt es i j=some (.uslc ns)→cellAt (es.map (a4e h)) i j=some (.uslc ns):=fun i j ns e=>by unfold cellAt at e⊢;obtain⟨x,h1,f⟩:=Y4.1 e;rw[H6,h1];show(l9 (a4e h x))[j]?=_;rw[b3u,H6,f];rfl
 have x:Ext G h w G (h.set k (g,.arr sz ver false (es.map (a4e h)))) w:=by
  refine⟨fun _ y=>y,fun _ _=>rfl,fun p gn ob e=>?_⟩;by_cases l:p=k
  . subst l;rw[d]at e;cases e;refine⟨g,_,F8 s,m9 _,fun _=>⟨fun Y Z aa es' a=>?_,fun ab a=>(by cases a),fun _ _ _ a=>(by cases a)⟩⟩;cases a;exact⟨ver,false,es,rfl,l5,m9 _,fun _=>C9.refl _ _,fun _ i j ns m=>⟨ns,hu i j ns m,rfl,C9.refl _ _⟩⟩
  . exact⟨gn,ob,by rw[F7 (Ne.symm l)];exact e,m9 _,fun _=>L0.refl p ob (C9.refl _ _) fun i j=>C9.refl _ _⟩
 refine⟨hr.update k g _ s x (fun _ _ _=>.inl (C9.refl _ _)) (fun _ _ _ _=>rfl) (m9 _) (fun b K=>hr.zb b K) (fun b hb=>.inl hb) (fun _ _ _ _ q=>q) (fun y n=>?_) (fun e=>by cases e) ?_,x⟩
 . obtain⟨L,M⟩:=hr.lv _ n;exact⟨L,M,fun _=>hr.nz k g _ d rfl y n,fun N r e=>congrArg Prod.snd (hr.inj _ _ n r e),fun p N l r e=>l (congrArg Prod.fst (hr.inj _ _ n r e)).symm⟩
 . unfold F9;refine⟨E,by rw[N5];exact F,H,fun O=>?_,fun q=>by rw[J q];rfl⟩;obtain⟨us,T,P,Q,R⟩:=I O;refine⟨us,T,P,Q,fun i e he=>?_⟩;rw[H6]at he;obtain⟨S,U,rfl⟩:=D0.1 he;obtain⟨V,W⟩:=R i S U;refine⟨by rw[b3u,N5];exact V,fun j c m=>?_⟩;rw[b3u,H6]at m;obtain⟨c0,X,rfl⟩:=D0.1 m;obtain⟨u,h1,f⟩:=W j c0 X;refine⟨u,h1,?_⟩;by_cases v:∃ns,c0=.uslc ns
   . obtain⟨ns,rfl⟩:=v;exact f
   . have z:one c0=true∧j8 G h w D u c0:=by
      cases c0<;>first|exact absurd ⟨_,rfl⟩ v|exact f
     obtain⟨o,A⟩:=a7E hr z.1 z.2;have C:∀ns,a0e h c0≠ .uslc ns:=fun ns e=>(by rw[e]at o;cases o);generalize a0e h c0=y at o A C;cases y<;>first|exact absurd rfl (C _)|exact⟨o,A.ext x⟩
theorem b7A{G:Gh}{h:l7}{w:World}{Z':Nat→Prop}(m:∀b,G.Z b→Z' b)(n:G.R (nest k i 0)→Z' (G.β (nest k i 0)))(l:mvS c=true)(a:a0n G h w k i u c){G':Gh}{h':l7}(o:G'.Z=Z'):a0n G' h' w k i u (K8 c):=by
 have done:(A9 c||I5 c)=true→H4 G h w k i 0 u c→a0n G' h' w k i u (K8 c):=fun h1 d=>by
  obtain⟨g,p⟩:=a6b m n h1 d;subst o;have q:∀ns,K8 c≠ .uslc ns:=fun ns e=>by rw[e]at g;simp[one,Y8]at g
  exact(a4W q).2 (a1H g p)
 by_cases hp:(A9 c||I5 c)=true
 . refine done hp ?_;cases c
   case uslc ns=>exact a
   all_goals
    first
     |(simp[A9,I5]at hp;done)
     |(unfold a0n at a;unfold H4;exact⟨rfl,a⟩)
 . have j:fn0 c=true:=(by unfold mvS at l;revert l hp;cases A9 c<;>cases I5 c<;>simp);unfold fn0 at j;split at j
   . rename_i f;unfold a0n at a;show a0n G' h' w k i u (.fn (.func f) [] []);unfold a0n;obtain⟨vs,us,rfl,h1,d⟩:=a9g a;unfold D;unfold j8;exact⟨vs,us,rfl,⟨h1.1,fun i c a=>by simp at a⟩,⟨d.1,fun i c a=>by simp at a⟩⟩
   . cases j
theorem c3K{G:Gh}{h:l7}{w:World}(hr:s6 B Z0 G h w){fr:Bool}{us:List PV}(l:h[k]?=some (g,.mp fr ks us))(hp:us.all mvS=true):
 s6 B Z0 (G.a2t k) (h.set k (g,.mp fr ks (us.map K8))) w∧Ext G h w (G.a2t k) (h.set k (g,.mp fr ks (us.map K8))) w:=by
 have q:k<h.length:=(B8.1 l).1;have n:∀f y,f≠k→C9 G (G.a2t k) (f,y):=fun f y a=>⟨rfl,⟨fun x=>x.2,fun x=>⟨fun e=>absurd e a,x⟩⟩,rfl,rfl⟩
 have u:C9 G (G.a2t k) (root k):=⟨rfl,⟨fun x=>x.2,fun x=>⟨fun _=>rfl,x⟩⟩,rfl,rfl⟩
 have r:=hr.ob k g _ l;unfold F9 at r;obtain⟨v,z,es,A,C,D,E⟩:=r;have x:Ext G h w (G.a2t k) (h.set k (g,.mp fr ks (us.map K8))) w:=by
  refine⟨fun _ y=>.inl y,fun _ _=>rfl,fun f gn ob e=>?_⟩;by_cases a:f=k
  . subst a;rw[l]at e;cases e;exact⟨g,_,F8 q,m9 _,fun _=>⟨fun _ _ _ _ o=>(by cases o),fun _ o=>(by cases o),fun _ _ _ _=>⟨_,_,_,rfl,u⟩⟩⟩
  . exact⟨gn,ob,by rw[F7 (Ne.symm a)];exact e,m9 _,fun _=>L0.refl f ob (n _ _ a) fun i j=>n _ _ a⟩
 refine⟨hr.update k g _ q x (fun f y a=>.inl (n f y a)) (fun _ _ _ _=>rfl) (m9 _) ?_ (fun b hb=>hb.imp id fun⟨ij,h1,F⟩=>F▸(hr.lv _ h1).1) ?_ ?_ ?_ ?_,x⟩
 . rintro b (hb|⟨ij,d,rfl⟩)
   . exact hr.zb b hb
   . exact(hr.lv _ d).2
 . rintro f y a d H (hb|⟨ij,p,he⟩)
   . exact H hb
   . exact a (congrArg Prod.fst (hr.inj _ _ d p he))
 . intro y d;obtain⟨I,J⟩:=hr.lv (k,y) d.2;have K:y=none:=d.1 rfl;subst K;refine⟨I,J,fun L=>?_,fun M m he=>congrArg Prod.snd (hr.inj _ _ d.2 m.2 he),fun f M a m he=>a (congrArg Prod.fst (hr.inj _ _ d.2 m.2 he)).symm⟩;rintro(hb|⟨ij,p,he⟩)
   . exact hr.nz k g _ l L none d.2 hb
   . have:=hr.inj _ _ d.2 p he;simp at this
 . intro N y d;exact .inl (hr.fz k g _ l N y d.2)
 . unfold F9;refine⟨⟨fun _=>rfl,v⟩,by rw[N5];exact z,es,A,C,D,fun i c s=>?_⟩;rw[H6]at s;obtain⟨c0,t,rfl⟩:=D0.1 s;obtain⟨e,O,P⟩:=E i c0 t;exact⟨e,O,b7A (Z':=(G.a2t k).Z) (fun b hb=>.inl hb) (fun m=>.inr ⟨(i,0),m,rfl⟩) (B0.1 hp c0 (D4 t)) P rfl⟩
theorem c6O{G:Gh}{h:l7}{w:World}(hr:s6 B Z0 G h w){fr:Bool}{us:List PV}(m:h[k]?=some (g,.mp fr ks us))(hp:us.all mvS=true):
 s6 B Z0 (G.a2L k) (h.set k (g,.mp true ks (us.map K8))) w∧Ext G h w (G.a2L k) (h.set k (g,.mp true ks (us.map K8))) w:=by
 have p:k<h.length:=(B8.1 m).1;have n:∀d y,d≠k→C9 G (G.a2L k) (d,y):=fun d y a=>⟨rfl,⟨fun x=>x.2,fun x=>⟨fun e=>absurd e a,x⟩⟩,rfl,rfl⟩
 have t:C9 G (G.a2L k) (root k):=⟨rfl,⟨fun x=>x.2,fun x=>⟨fun _=>rfl,x⟩⟩,rfl,rfl⟩
 have q:=hr.ob k g _ m;unfold F9 at q;obtain⟨u,v,es,z,A,C,D⟩:=q;have x:Ext G h w (G.a2L k) (h.set k (g,.mp true ks (us.map K8))) w:=by
  refine⟨fun _ y=>.inl y,fun _ _=>rfl,fun d gn ob e=>?_⟩;by_cases a:d=k
  . subst a;rw[m]at e;cases e;exact⟨g,_,F8 p,m9 _,fun _=>⟨fun _ _ _ _ o=>(by cases o),fun _ o=>(by cases o),fun _ _ _ _=>⟨_,_,_,rfl,t⟩⟩⟩
  . exact⟨gn,ob,by rw[F7 (Ne.symm a)];exact e,m9 _,fun _=>L0.refl d ob (n _ _ a) fun i j=>n _ _ a⟩
 refine⟨hr.update k g _ p x (fun d y a=>.inl (n d y a)) (fun _ _ _ _=>rfl) (m9 _) ?_ (fun b hb=>hb.imp id fun⟨ij,h1,E⟩=>E▸(hr.lv _ h1).1) ?_ ?_ ?_ ?_,x⟩
 . rintro b (hb|⟨ij,f,rfl⟩)
   . exact hr.zb b hb
   . exact(hr.lv _ f).2
 . rintro d y a f F (hb|⟨ij,H,he⟩)
   . exact F hb
   . exact a (congrArg Prod.fst (hr.inj _ _ f H he))
 . intro y f;obtain⟨I,J⟩:=hr.lv (k,y) f.2;have K:y=none:=f.1 rfl;subst K;refine⟨I,J,fun L=>?_,fun M l he=>congrArg Prod.snd (hr.inj _ _ f.2 l.2 he),fun d M a l he=>a (congrArg Prod.fst (hr.inj _ _ f.2 l.2 he)).symm⟩;simp[a6P]at L
 . intro P y f;exact .inr ⟨y,f.2,rfl⟩
 . unfold F9;refine⟨⟨fun _=>rfl,u⟩,by rw[N5];exact v,es,z,A,C,fun i c r=>?_⟩;rw[H6]at r;obtain⟨c0,s,rfl⟩:=D0.1 r;obtain⟨e,N,O⟩:=D i c0 s;exact⟨e,N,b7A (Z':=(G.a2L k).Z) (fun b hb=>.inl hb) (fun l=>.inr ⟨some (i,0),l,rfl⟩) (B0.1 hp c0 (D4 s)) O rfl⟩
theorem O2.G7{vars:List PV}{a:Act}{w:World}:∀{l:List (Nat×Bool)} {h:l7},O2 B Z0 W0 vs N vars h a w→O2 B Z0 W0 vs N vars (a4u l h) a w
 | [],h,hi=>hi
 |(k,r)::l,h,hi=>by
  refine O2.G7 (l:=l) ?_;obtain⟨G,c,d,f,i,j⟩:=hi;cases b:h[k]? with
  |none=>
   have:h.set k ((h.getD k (0,.dead)).1,W8 h r (h.getD k (0,.dead)).2)=h:=List.set_eq_of_length_le (by simpa using b);show O2 B Z0 W0 vs N vars (h.set k _) a w;rw[this];exact⟨G,c,d,f,i,j⟩
  |some o=>
   obtain⟨g,ob⟩:=o;have hd:h.getD k (0,.dead)=(g,ob):=(by simp[List.getD,b]);show O2 B Z0 W0 vs N vars (h.set k ((h.getD k (0,.dead)).1,W8 h r (h.getD k (0,.dead)).2)) a w;rw[hd];have same:W8 h r ob=ob→O2 B Z0 W0 vs N vars (h.set k (g,W8 h r ob)) a w:=fun e=>by
    rw[e];have:h.set k (g,ob)=h:=by obtain⟨n,p⟩:=B8.1 b;rw[←p];exact b4N n
    rw[this];exact⟨G,c,d,f,i,j⟩
   have fresh:∀G' o',s6 B Z0 G' (h.set k (g,o')) w∧Ext G h w G' (h.set k (g,o')) w→O2 B Z0 W0 vs N vars (h.set k (g,o')) a w:=fun G' o' m=>
    ⟨G',m.1,fun k s hs=>by obtain⟨v,h1,q⟩:=d k s hs;exact⟨v,h1,q.ext m.2⟩,f,i,W0.step j m.2 (Bl.refl _ _)⟩
   cases ob with
   |dead=>exact same rfl
   |var cs=>exact fresh _ _ (c9p c b)
   |mp fr us vs=>
    by_cases hp:vs.all mvS=true
    . cases r with
      |false=>
       have e:W8 h false (.mp fr us vs)=.mp fr us (vs.map K8):=(by simp only[W8,hp,if_true,Bool.or_false]);rw[e];exact fresh _ _ (c3K c b hp)
      |true=>
       have e:W8 h true (.mp fr us vs)=.mp true us (vs.map K8):=(by simp only[W8,hp,if_true,Bool.or_true]);rw[e];exact fresh _ _ (c6O c b hp)
    . exact same (by simp only[W8,hp];rfl)
   |arr sz ver fr es=>
    by_cases hp:es.all D5=true
    . cases r with
      |false=>
       have e:W8 h false (.arr sz ver fr es)=.arr sz (ver+1) fr (es.map B4):=(by simp only[W8,hp,if_true,Bool.or_false]);rw[e];exact fresh _ _ (b5O c b hp)
      |true=>
       have e:W8 h true (.arr sz ver fr es)=.arr sz (ver+1) true (es.map B4):=(by simp only[W8,hp,if_true,Bool.or_true]);rw[e];exact fresh _ _ (b7v c b hp)
    . cases fr with
      |true=>exact same (by simp only[W8,hp];rfl)
      |false=>
       have e:W8 h r (.arr sz ver false es)=.arr sz ver false (es.map (a4e h)):=(by simp only[W8,hp];rfl);rw[e];exact fresh _ _ (c2J c b)
def a2g:C7→Bool
 | .seq a b| .cond _ a b=>a2g a&&a2g b
 | .block _ b| .loop b| .G7 _ b| .G5 _ _ _ _ b=>a2g b
 | .loopS .. =>false
 |_=>true
def Gh.noR(G:Gh)(k:Nat):Gh:={G with R:=fun key=>key.1≠k∧G.R key,γ:=fun key=>if key.1=k then 0 else G.γ key}
theorem c7F{G:Gh}{h:l7}{w:World}(hr:s6 B Z0 G h w)(m:h[k]?=some (g,.dead))(n:0<sz):
 s6 B Z0 (G.noR k) (h.set k (g+1,.arr sz 0 false [])) w∧Ext G h w (G.noR k) (h.set k (g+1,.arr sz 0 false [])) w∧j8 (G.noR k) (h.set k (g+1,.arr sz 0 false [])) w D (.slice none 0 0) (.own k (g+1) 0 sz 0 0):=by
 have f:k<h.length:=(B8.1 m).1;have l:∀c y,c≠k→C9 G (G.noR k) (c,y):=fun c y a=>⟨rfl,⟨fun x=>x.2,fun x=>⟨a,x⟩⟩,by simp[Gh.noR,a],rfl⟩
 have x:Ext G h w (G.noR k) (h.set k (g+1,.arr sz 0 false [])) w:=by
  refine⟨fun _ y=>y,fun _ _=>rfl,fun c gn ob e=>?_⟩;by_cases a:c=k
  . subst a;rw[m]at e;cases e;exact⟨g+1,_,F8 f,i9,fun e=>i9⟩
  . exact⟨gn,ob,by rw[F7 (Ne.symm a)];exact e,m9 _,fun _=>L0.refl c ob (l _ _ a) fun i j=>l _ _ a⟩
 refine⟨hr.update k (g+1) _ f x (fun c y a=>.inl (l c y a)) (fun _ _ _ _=>rfl) (m9 _) (fun b hb=>hr.zb b hb) (fun b hb=>.inl hb) (fun _ _ _ _ o=>o) (fun y d=>absurd rfl d.1) (fun e=>by cases e) ?_,x,?_⟩
 . unfold F9;exact⟨n,l5,by simp[Gh.noR,root],fun d=>absurd rfl d.1,fun _=>rfl⟩
 . unfold D j8;refine⟨none,0,rfl,m9 _,D6 _,.inl ⟨rfl,rfl⟩,g+1,_,F8 f,m9 _,fun _ p ver fr es e=>?_⟩;cases e;exact⟨l5,fun _=>⟨i9,fun d=>absurd rfl d.1,fun _=>⟨rfl,rfl⟩⟩⟩
theorem c2d{G:Gh}{h:l7}{w:World}(hr:s6 B Z0 G h w){c':PV}(d:h[k]?=some (g,.var cs))(z:one c'=true)(A:∀u c,cs[j]?=some c→j8 G h w D u c→j8 G h w D u c'):
 s6 B Z0 G (h.set k (g,.var (cs.set j c'))) w∧Ext G h w G (h.set k (g,.var (cs.set j c'))) w:=by
 have r:k<h.length:=(B8.1 d).1;have s:=hr.ob k g _ d;unfold F9 at s;obtain⟨C,us,T,hb,hu⟩:=s;have x:Ext G h w G (h.set k (g,.var (cs.set j c'))) w:=by
  refine⟨fun _ y=>y,fun _ _=>rfl,fun o gn ob e=>?_⟩;by_cases f:o=k
  . subst f;rw[d]at e;cases e;refine⟨g,.var _,F8 r,m9 _,fun _=>⟨fun _ _ _ _ l=>?_,fun K l=>⟨cs,rfl,C9.refl _ _⟩,fun _ _ _ l=>(by cases l)⟩⟩;cases l
  . exact⟨gn,ob,by rw[F7 (Ne.symm f)];exact e,m9 _,fun _=>L0.refl o ob (C9.refl _ _) fun i j=>C9.refl _ _⟩
 refine⟨hr.update k g _ r x (fun _ _ _=>.inl (C9.refl _ _)) (fun _ _ _ _=>rfl) (m9 _) (fun b E=>hr.zb b E) (fun b hb=>.inl hb) (fun _ _ _ _ F=>F) (fun y m=>?_) (fun e=>by cases e) ?_,x⟩
 . obtain⟨H,I⟩:=hr.lv _ m;exact⟨H,I,fun _=>hr.nz k g _ d rfl y m,fun J p e=>congrArg Prod.snd (hr.inj _ _ m p e),fun o J f p e=>f (congrArg Prod.fst (hr.inj _ _ m p e)).symm⟩
 . unfold F9;refine⟨C,us,T,hb,by rw[a4D];exact hu.1,fun i c a=>?_⟩;by_cases t:i=j
   . subst t;have q:i<cs.length:=(by simpa using(B8.1 a).1);rw[F8 q]at a;cases a;obtain⟨v,h1,n⟩:=hu.2 i _ (m7 q);exact⟨v,h1,z,(A v _ (m7 q) n.2).ext x⟩
   . rw[F7 (Ne.symm t)]at a;obtain⟨v,h1,n⟩:=hu.2 i c a;exact⟨v,h1,n.1,n.2.ext x⟩
def Gh.drc(G:Gh)(k i j:Nat):Gh:={G with R:=fun key=>key≠nest k i j∧G.R key}
theorem a6V{G:Gh}{key:Key}(h:key≠nest k i j):C9 G (G.drc k i j) key:=⟨rfl,⟨fun x=>x.2,fun x=>⟨h,x⟩⟩,rfl,rfl⟩
theorem b5U{x:PV}(b:(l9 e)[j]?=some c)(d:l9 x=[x]):l9 (N0 e j [x])=(l9 e).set j x:=by
 by_cases a:∃cs,e=.agg cs
 . obtain⟨cs,rfl⟩:=a;rfl
 . have he:l9 e=[e]:=by cases e<;>first|rfl|exact absurd ⟨_,rfl⟩ a
   have hs:N0 e j [x]=x:=by cases e<;>first|rfl|exact absurd ⟨_,rfl⟩ a
   grind
theorem c3Z{x y:PV}(d:(l9 e)[j]?=some c)(a:l9 x=[x]):N0 (N0 e j [x]) j [y]=N0 e j [y]:=by
 by_cases b:∃cs,e=.agg cs
 . obtain⟨cs,rfl⟩:=b;simp[N0,a1M]
 . have hs:∀z,N0 e j [z]=z:=fun z=>by cases e<;>first|rfl|exact absurd ⟨_,rfl⟩ b
   rw[hs x,hs y];cases x<;>first|rfl|skip
   case agg cs=>
    simp only[l9]at a;have:=congrArg (fun l:List PV=>SizeOf.sizeOf l) a;simp at this;omega
theorem c2m(a:one c=true):l9 c=[c]:=by cases c<;>first|rfl|(simp[one,Y8]at a)
theorem b2b{G:Gh}{h:l7}{w:World}(hr:s6 B Z0 G h w){s:Nat}{c0 c':PV}(p:h[k]?=some (g,.arr s ver false es))(he:es[i]?=some e)(z:(l9 e)[j]?=some c0)(m:one c'=true)
 (q:∀us T u,w.heap[G.β (root k)]?=some (.cells us T (0,0))→us[i*s+j]?=some u→H4 G h w k i j u c0→j8 G h w D u c'):
 s6 B Z0 (G.drc k i j) (h.set k (g,.arr s (ver+1) false (es.set i (N0 e j [c'])))) w∧Ext G h w (G.drc k i j) (h.set k (g,.arr s (ver+1) false (es.set i (N0 e j [c'])))) w:=by
 have K:k<h.length:=(B8.1 p).1;have L:=hr.ob k g _ p;unfold F9 at L;obtain⟨P,Q,R,S,U⟩:=L;have x:Ext G h w (G.drc k i j) (h.set k (g,.arr s (ver+1) false (es.set i (N0 e j [c'])))) w:=by
  refine⟨fun _ y=>y,fun _ _=>rfl,fun r gn ob e=>?_⟩;by_cases d:r=k
  . subst d;rw[p]at e;cases e;refine⟨g,_,F8 K,m9 _,fun _=>⟨fun ad ae af es' n=>?_,fun ag n=>(by cases n),fun _ _ _ n=>(by cases n)⟩⟩;cases n;exact⟨ver,false,es,rfl,l5,i9,fun _=>a6V l5,fun e=>i9⟩
  . exact⟨gn,ob,by rw[F7 (Ne.symm d)];exact e,m9 _,fun _=>L0.refl r ob (a6V l5) fun a b=>a6V fun e=>d (congrArg Prod.fst e)⟩
 refine⟨hr.update k g _ K x (fun r y d=>.inl (a6V fun e=>d (congrArg Prod.fst e))) (fun _ _ _ _=>rfl) (m9 _) (fun b hb=>hr.zb b hb) (fun b hb=>.inl hb) (fun _ _ _ _ A=>A) (fun y f=>?_) (fun e=>by cases e) ?_,x⟩
 . obtain⟨V,W⟩:=hr.lv _ f.2;exact⟨V,W,fun _=>hr.nz k g _ p rfl y f.2,fun X C e=>congrArg Prod.snd (hr.inj _ _ f.2 C.2 e),fun r X d C e=>d (congrArg Prod.fst (hr.inj _ _ f.2 C.2 e)).symm⟩
 . unfold F9;refine⟨P,by rw[a4D];exact Q,R,fun f=>?_,fun A=>?_⟩
   . obtain⟨us,T,M,Y,N⟩:=S f.2;refine⟨us,T,M,Y,fun E Z t=>?_⟩;by_cases F:E=i
     . subst F;rw[F8 (B8.1 he).1]at t;cases t;obtain⟨aa,O⟩:=N E _ he;rw[b5U z (c2m m)];refine⟨by rw[a4D];exact aa,fun H c v=>?_⟩;by_cases I:H=j
       . subst I;rw[F8 (B8.1 z).1]at v;cases v;obtain⟨u,l,o⟩:=O H c0 z;refine⟨u,l,?_⟩;have J:=(q us T u M l o).ext x;revert m J;clear q x;cases c'<;>intro m J<;>first|(simp[one,Y8]at m;done)|(unfold H4;exact⟨m,J⟩)
       . rw[F7 (Ne.symm I)]at v;obtain⟨u,l,o⟩:=O H c v;exact⟨u,l,o.ext x (a6V fun e=>I (by simpa using e)) fun _=>rfl⟩
     . rw[F7 (Ne.symm F)]at t;obtain⟨ab,ac⟩:=N E Z t;refine⟨ab,fun j c q=>?_⟩;obtain⟨u,l,o⟩:=ac j c q;exact⟨u,l,o.ext x (a6V fun e=>F (by simpa using congrArg (fun k:Key=>k.2.map Prod.fst) e)) fun _=>rfl⟩
   . have:=U fun y=>A ⟨l5,y⟩;rw[this];rfl
theorem c5L{G:Gh}{h:l7}{w:World}(hr:s6 B Z0 G h w)(d k i j:Nat):∃G',s6 B Z0 G' (a8k d k i j h) w∧Ext G h w G' (a8k d k i j h) w:=by
 have same:∀{h'},h'=h→∃G',s6 B Z0 G' h' w∧Ext G h w G' h' w:=fun e=>by subst e;exact⟨G,hr,Ext.refl⟩
 unfold a8k;split
 case h_2=>exact same rfl
 rename_i g s ver fr es g3 h1 y;split
 case isFalse=>exact same rfl
 rename_i M;obtain⟨rfl,o⟩:=M;split
 case h_2=>exact same rfl
 rename_i e he;split
 case h_2=>exact same rfl
 rename_i ns l;split
 case isFalse=>exact same rfl
 rename_i N;obtain⟨r,z⟩:=N;obtain⟨sz,O⟩:∃sz,(l9 (ns.headD .uu)).length=sz:=⟨_,rfl⟩
 rw[O]at z⊢;have P:d<h.length:=(B8.1 h1).1;have Q:k<h.length:=(B8.1 y).1;have t:i<es.length:=(B8.1 he).1;have A:=hr.ob d g _ h1;unfold F9 at A;obtain⟨_,_,_,R,S⟩:=A;have U:G.R (root d):=Classical.byContradiction fun m=>by rw[S m]at t;simp at t
 obtain⟨us,T,C,_,V⟩:=R U;obtain⟨u,E,x⟩:=(V i _ he).2 j (.uslc ns) l;unfold H4 O8 at x;have p:G.R (nest d i j):=Classical.byContradiction fun m=>by have:=(x.2 m).2;subst this;simp at r
 obtain⟨W,T2,f,c,rfl,X,Y,ap,Z,aa,F,aq,H⟩:=x.1 p;have I:G.σ (nest d i j)=sz:=by have q:=(H 0 ns[0] (m7 r)).1;have:=B0.1 z ns[0] (B7 r);simp at this;omega
 rw[I]at F;have ab:0<sz:=i9;obtain⟨ac,a2⟩:=b2b hr (c':=.any) h1 he l rfl (fun us' T' u hu n _=>by rw[C]at hu;cases hu;rw[E]at n;cases n;unfold D j8;exact⟨rfl,rfl⟩)
 have ad:(h.set d (g,.arr s (ver+1) false (es.set i (N0 e j [.any]))))[k]?=some (g3,.dead):=by rw[F7 o];exact y
 obtain⟨ae,af⟩:=b9n ac (us:=W) (T:=T2) (b:=G.β (nest d i j)) (γ0:=G.γ (nest d i j)) (sz:=sz) (ns:=ns) ad (hr.lv _ p).1 (hr.nz d g _ h1 rfl _ p) (fun key J e=>J.1 (hr.inj _ _ J.2 p e)) aa i9 Z ab F (fun a e ag=>by obtain⟨K,L⟩:=H a e ag;rw[I]at K L;refine⟨K,fun j ah ai=>?_⟩;obtain⟨aj,v,ak,al⟩:=L j ah ai;exact⟨aj,v,ak,al⟩)
 have am:((h.set d (g,.arr s (ver+1) false (es.set i (N0 e j [.any])))).set k (g3+1,.arr sz 0 false ns))[d]?=some (g,.arr s (ver+1) false (es.set i (N0 e j [.any]))):=by rw[F7 (Ne.symm o),F8 P]
 have an:((G.drc d i j).a1h k (G.β (nest d i j)) (G.γ (nest d i j))).β (root d)=G.β (root d):=by have:(root d:Key)≠root k:=fun e=>o (congrArg Prod.fst e);simp[Gh.a1h,Gh.drc,this]
 obtain⟨c1,c2⟩:=b2b ae (c':=.own k (g3+1) ns.length sz 0 ns.length) (j:=j) (c0:=.any) am (by rw[F8 t]) (by rw[b5U l rfl,F8 (B8.1 l).1]) rfl (fun us' T' u hu n _=>by rw[an,C]at hu;cases hu;rw[E]at n;cases n;unfold D j8;refine⟨_,c,rfl,Y,i9,.inr ⟨_,_,rfl⟩,g3+1,_,F8 (by simpa using Q),m9 _,fun _ ar vr au es' e=>?_⟩;cases e;refine⟨m9 _,fun _=>⟨i9,fun _=>⟨f,by simp[Gh.a1h],X.imp id fun h _=>i9,i9,by simp[Gh.a1h];omega⟩,fun m=>absurd (.inl rfl) m⟩⟩)
 have ao:(((h.set d (g,.arr s (ver+1) false (es.set i (N0 e j [.any])))).set k (g3+1,.arr sz 0 false ns)).set d (g,.arr s (ver+1+1) false ((es.set i (N0 e j [.any])).set i (N0 (N0 e j [.any]) j [.own k (g3+1) ns.length sz 0 ns.length]))))=
  ((h.set d (g,.arr s (ver+2) false (es.set i (N0 e j [.own k (g3+1) ns.length sz 0 ns.length])))).set k (g3+1,.arr sz 0 false ns)):=by
  rw[List.set_comm _ _ (Ne.symm o),List.set_set,List.set_set,c3Z l rfl]
 rw[←ao];exact⟨_,c1,a2.trans (af.trans c2)⟩
theorem c6i(e:PV):B4 (B4 e)=B4 e:=by
 have h0:∀c,K8 (K8 c)=K8 c:=fun c=>by cases c<;>rfl
 cases e<;>first|(simp only[B4];exact h0 _)|skip
 case agg cs=>simp only[B4,a1w];congr 1;exact K3 fun c _=>h0 c
 all_goals rfl
theorem c3g{G:Gh}{h:l7}{w:World}(hr:s6 B Z0 G h w)(b n i j:Nat):∃G',s6 B Z0 G' (a8F b n i j h) w∧Ext G h w G' (a8F b n i j h) w:=by
 have same:∀{h'},h'=h→∃G',s6 B Z0 G' h' w∧Ext G h w G' h' w:=fun e=>by subst e;exact⟨G,hr,Ext.refl⟩
 unfold a8F;split
 case h_2=>exact same rfl
 rename_i g s ver fr es g3 J d K ns h1 p;split
 case isFalse=>exact same rfl
 rename_i m;obtain⟨rfl,f,hp⟩:=m;split
 case h_2=>exact same rfl
 rename_i e he;split
 case h_2=>exact same rfl
 rename_i k a L s' o l v;split
 case isFalse=>exact same rfl
 rename_i y;obtain⟨rfl,rfl,rfl,rfl,rfl,rfl⟩:=y;have z:k<h.length:=(B8.1 p).1;obtain⟨q,a2⟩:=b7v hr p hp;have A:(h.set k (a,.arr s' (d+1) true (ns.map B4)))[b]?=some (g,.arr s ver false es):=by rw[F7 (Ne.symm f)];exact h1
 have r:(h.set k (a,.arr s' (d+1) true (ns.map B4)))[k]?=some (a,.arr s' (d+1) true (ns.map B4)):=F8 z;have C:(ns.map B4).all D5=true:=by rw[List.all_map];refine B0.2 fun x D=>?_;have:=B0.1 hp x D;simp only[Function.comp,D5,a5I]at this⊢;rw[List.all_map];refine B0.2 fun c m=>?_;have:=B0.1 this c m;cases c<;>simp[K8,A9,I5]at this⊢
 obtain⟨E,F⟩:=b2b q (c':=.slc (ns.map B4)) A he v rfl (fun us T u _ _ t=>by unfold H4 at t;have:=b2D q r C (by rw[N5];exact t.2);rw[a1w]at this;rw[show(B4∘B4)=B4 from funext c6i]at this;exact this)
 have H:((h.set k (a,.arr s' (d+1) true (ns.map B4))).set b (g,.arr s (ver+1) false (es.set i (N0 e j [.slc (ns.map B4)]))))[k]?=some (a,.arr s' (d+1) true (ns.map B4)):=by rw[F7 f];exact r
 obtain⟨c1,c2⟩:=b7o E H;have I:((h.set k (a,.arr s' (d+1) true (ns.map B4))).set b (g,.arr s (ver+1) false (es.set i (N0 e j [.slc (ns.map B4)])))).set k (a,.dead)=
  (h.set b (g,.arr s (ver+1) false (es.set i (N0 e j [.slc (ns.map B4)])))).set k (a,.dead):=by
  rw[List.set_comm _ _ f,List.set_set];exact List.set_comm _ _ (Ne.symm f)
 rw[←I];exact⟨_,c1,a2.trans (F.trans c2)⟩
theorem d0k{G:Gh}{h:l7}{w:World}(hr:s6 B Z0 G h w){x p:PV}{h':l7}(a:b0j h x=some (p,h')):∃G',s6 B Z0 G' h' w∧Ext G h w G' h' w∧∀u,j8 G h w D u x→j8 G' h' w D u p:=by
 unfold b0j at a;split at a
 . rename_i k g;split at a
   . rename_i o cs m;split at a
     . rename_i n;simp only[s7,s9]at a;obtain⟨rfl,rfl⟩:=a;obtain⟨rfl,hp⟩:=n;have t:k<h.length:=(B8.1 m).1;obtain⟨q,us,T,A,P,C⟩:=hr.ob k _ _ m;have r:∀key,C9 G {G with Z:=fun b=>G.Z b∨b=G.β (root k)} key:=fun key=>⟨rfl,Iff.rfl,rfl,rfl⟩
       have e:Ext G h w {G with Z:=fun b=>G.Z b∨b=G.β (root k)} (h.set k (o,.dead)) w:=by
        refine⟨fun _ y=>.inl y,fun _ _=>rfl,fun f gn ob e=>?_⟩;by_cases d:f=k
        . subst d;rw[m]at e;cases e;exact⟨o,_,F8 t,m9 _,fun _=>L0.dead _ _⟩
        . exact⟨gn,ob,by rw[F7 (Ne.symm d)];exact e,m9 _,fun _=>L0.refl f ob (r _) fun i j=>r _⟩
       refine⟨{G with Z:=fun b=>G.Z b∨b=G.β (root k)},hr.update k o _ t e (fun f y d=>.inl (r _)) (fun _ _ _ _=>rfl) (m9 _) ?_ (fun b (hb:G.Z b∨b=G.β (root k))=>hb.imp id fun e=>by rw[e];exact(hr.lv _ q).1) ?_ (fun y l=>?_) (fun e=>by cases e) trivial,e,fun u hu=>?_⟩
       . rintro b (hb|rfl)
         . exact hr.zb b hb
         . exact(hr.lv _ q).2
       . rintro f y d l E (hb|hb)
         . exact E hb
         . exact d (congrArg Prod.fst (hr.inj _ _ l q hb))
       . obtain⟨F,H⟩:=hr.lv _ l;exact⟨F,H,(fun I=>by cases I),fun J s e=>congrArg Prod.snd (hr.inj _ _ l s e),fun f J d s e=>d (congrArg Prod.fst (hr.inj _ _ l s e)).symm⟩
       . unfold D at hu;unfold j8 at hu;obtain⟨b,rfl,gn,ob,v,Q,K⟩:=hu;rw[m]at v;cases v;obtain rfl:=K rfl cs rfl;refine a4R (PR.a3l.2 ⟨_,0,rfl,.inr rfl,fun j c n=>?_⟩);rw[H6]at n;obtain⟨c0,z,rfl⟩:=D0.1 n;obtain⟨u,L,M,N⟩:=C _ _ z;have O:=B0.1 hp _ (E5.2 ⟨c0,D4 z,rfl⟩);obtain⟨r1,r2⟩:=c0B (Z':=fun b=>G.Z b∨b=G.β (root k)) (w':=w) (fun b hb=>.inl hb) (fun _ _=>rfl) O (a7E hr M N).2;exact⟨r1,u,by rw[V9,←V9 j,a0Y A,V9];exact L,r2⟩
     . cases a
   . cases a
 . simp only[s7,s9]at a;obtain⟨rfl,rfl⟩:=a;refine⟨G,hr,Ext.refl,fun u hu=>?_⟩;rw[a0v hu];exact a0T (PR.U8.2 ⟨none,0,0,rfl,m9 _,D6 _,fun _=>rfl,fun i e he=>by simp at he⟩)
 . cases a
theorem O2.G5(x:∀{g I:PV} {G:Gh} {h:l7} {w:World},W0.psi g G h w→W0.psi I G h w){vars:List PV}{a:Act}{w:World}{v:Nat}{c:Option Nat}{h:l7}(hi:O2 B Z0 W0 vs N vars h a w):O2 B Z0 W0 vs N (a3m v c k sz vars h).1 (a3m v c k sz vars h).2 a w:=by
 unfold a3m;split
 . split
   . obtain⟨G,d,n,f,l,m⟩:=hi;refine⟨G,d,fun i s hs=>?_,f,l,x m⟩;obtain⟨u,o,b⟩:=n i s hs;refine⟨u,o,?_⟩;simp only[u9]at b⊢;by_cases r:i=v
     . subst r;by_cases y:i<vars.length
       . rw[F8 y];exact c2Y d b
       grind
     grind
   . split
     . rename_i p h' D;obtain⟨G,d,n,f,l,m⟩:=hi;obtain⟨G',t,q,z⟩:=d0k d D;refine⟨G',t,fun i s hs=>?_,f,l,x (W0.step m q (Bl.refl _ _))⟩;obtain⟨u,o,b⟩:=n i s hs;refine⟨u,o,?_⟩;simp only[u9]at b z⊢;by_cases r:i=v
       . subst r;by_cases y:i<vars.length
         . rw[F8 y];exact z u b
         . rw[a0d I2];exact K9
       . rw[F7 (Ne.symm r)];exact b.ext q
     . exact hi
   . split
     . rename_i i D;obtain⟨G,d,n,f,l,m⟩:=hi;have go:∀{h':l7},(∃G',s6 B Z0 G' h' w∧Ext G h w G' h' w)→O2 B Z0 W0 vs N vars h' a w:=fun⟨G',t,q⟩=>
        ⟨G',t,fun i s hs=>by obtain⟨u,o,b⟩:=n i s hs;exact⟨u,o,b.ext q⟩,f,l,x (W0.step m q (Bl.refl _ _))⟩
       show O2 B Z0 W0 vs N vars (if _ then _ else _) a w;split
       . exact go (c5L d _ _ _ _)
       . exact go (c3g d _ _ _ _)
     . exact hi
 split
 . rename_i g E;split
   . rename_i J;obtain⟨G,d,n,f,l,m⟩:=hi;obtain⟨t,q,z⟩:=c7F d E J;have v1:X0 (G.noR k) (h.set k (g+1,.arr sz 0 false [])) w vs vars a:=fun k s K=>by
      obtain⟨v,o,b⟩:=n k s K;exact⟨v,o,b.ext q⟩
     split
     . rename_i A;refine⟨_,t,fun i s hs=>?_,f,l,x (W0.step m q (Bl.refl _ _))⟩;obtain⟨u,o,b⟩:=v1 i s hs;refine⟨u,o,?_⟩;simp only[u9]at b A⊢;by_cases r:i=v
       . subst r;by_cases y:i<vars.length
         . rw[F8 y];rw[A]at b;rw[a0v b];exact z
         grind
       grind
     . rename_i j F g2 A;split
       . rename_i g3 cs C;split
         . split
           . rename_i L;have M:F≠k:=fun e=>(by subst e;rw[E]at C;cases C);have O:(h.set k (g+1,.arr sz 0 false []))[F]?=some (g3,.var cs):=(by rw[F7 (Ne.symm M)];exact C);obtain⟨m1,m2⟩:=c2d t O (c':=.own k (g+1) 0 sz 0 0) rfl (j:=j) (fun u c H A=>by
              rw[L]at H;cases H;rw[a0v A];exact z)
             exact⟨_,m1,fun i s hs=>by obtain⟨u,o,b⟩:=v1 i s hs;exact⟨u,o,b.ext m2⟩,f,l,x (W0.step (W0.step m q (Bl.refl _ _)) m2 (Bl.refl _ _))⟩
           . exact⟨G,d,n,f,l,m⟩
         . exact⟨G,d,n,f,l,m⟩
       . exact⟨G,d,n,f,l,m⟩
     . exact⟨G,d,n,f,l,m⟩
   . exact hi
 . exact hi
theorem a3y(j:∀{g m:PV} {G:Gh} {h:l7} {w:World},W0.psi g G h w→W0.psi m G h w){a:Act}{w:World}{Q:J1}:∀{x:C7} {vars:List PV} {h:l7},G8 FN x Q vars h→O2 B Z0 W0 vs N vars h a w→∃d vars' h',(∀l b,d≠ .G7 l b)∧(∀v c k sz b,d≠ .G5 v c k sz b)∧(strip d=strip x∧a2g d=a2g x)∧G8 FN d Q vars' h'∧O2 B Z0 W0 vs N vars' h' a w:=by
 intro x
 induction x with
 |G7 l b i=>intro vars h f hi;exact i (show G8 FN b Q vars (a4u l h)from f) hi.G7
 |G5 v c k sz b i=>intro vars h f hi;exact i (show G8 FN b Q (a3m v c k sz vars h).1 (a3m v c k sz vars h).2 from f) (hi.G5 j)
 |skip|reg|seq|cond|block|loop|loopS|exit|ret|rfor=>intro vars h f hi;exact⟨_,vars,h,(fun l b e=>by cases e),(fun v c k sz b e=>by cases e),⟨rfl,rfl⟩,f,hi⟩
theorem a4k{vars:List PV}{a:Act}{w:World}{Q:J1}:∀{x:C7} {h:l7},G8 FN x Q vars h→O2 B Z0 W0 vs N vars h a w→∃c h',(∀l b,c≠ .G7 l b)∧I1 c=I1 x∧G8 FN c Q vars h'∧O2 B Z0 W0 vs N vars h' a w:=by
 intro x
 induction x with
 |G7 l b f=>intro h d hi;exact f (show G8 FN b Q vars (a4u l h)from d) hi.G7
 |skip|reg|seq|cond|block|loop|loopS|exit|ret|rfor|G5=>intro h d hi;exact⟨_,h,(fun l b e=>by cases e),rfl,d,hi⟩
end
theorem b9u(a:∀l b,x≠ .G7 l b)(hm:∀v c k sz b,x≠ .G5 v c k sz b)(h:strip x=.skip):x=.skip:=by cases x<;>simp[strip]at h<;>first|exact absurd rfl (a _ _)|exact absurd rfl (hm _ _ _ _ _)|rfl
theorem c6V(a:∀l b,x≠ .G7 l b)(hm:∀v c k sz b,x≠ .G5 v c k sz b)(h:strip x=.exit id):x=.exit id:=by cases x<;>simp[strip]at h<;>first|exact absurd rfl (a _ _)|exact absurd rfl (hm _ _ _ _ _)|(subst h;rfl)
theorem c6w(a:∀l b,x≠ .G7 l b)(hm:∀v c k sz b,x≠ .G5 v c k sz b)(h:strip x=.ret):x=.ret:=by cases x<;>simp[strip]at h<;>first|exact absurd rfl (a _ _)|exact absurd rfl (hm _ _ _ _ _)|rfl
theorem c5K{xs:List l6}(a:∀l b,x≠ .G7 l b)(hm:∀v c k sz b,x≠ .G5 v c k sz b)(h:strip x=.reg xs):x=.reg xs:=by cases x<;>simp[strip]at h<;>first|exact absurd rfl (a _ _)|exact absurd rfl (hm _ _ _ _ _)|(subst h;rfl)
theorem c1q{a:C7}{g:A0}{ps:List (Option Nat)}(f:∀l b,x≠ .G7 l b)(hm:∀v c k sz b,x≠ .G5 v c k sz b)(h:strip x=.rfor g ps a b):∃d e,x=.rfor g ps d e∧I1 d=a∧I1 e=b:=by
 cases x<;>first|exact absurd rfl (f _ _)|exact absurd rfl (hm _ _ _ _ _)|simp[strip]at h
 grind
theorem c6C{a:C7}(f:∀l b,x≠ .G7 l b)(hm:∀v c k sz b,x≠ .G5 v c k sz b)(h:strip x=.seq a b):∃d e,x=.seq d e∧strip d=a∧strip e=b:=by
 cases x<;>first|exact absurd rfl (f _ _)|exact absurd rfl (hm _ _ _ _ _)|simp[strip]at h
 exact⟨_,_,rfl,h.1,h.2⟩
theorem c2f{a:C7}{c:A0}(f:∀l b,x≠ .G7 l b)(hm:∀v c k sz b,x≠ .G5 v c k sz b)(h:strip x=.cond c a b):∃d e,x=.cond c d e∧strip d=a∧strip e=b:=by
 cases x<;>first|exact absurd rfl (f _ _)|exact absurd rfl (hm _ _ _ _ _)|simp[strip]at h
 grind
theorem c5B(d:∀l b,x≠ .G7 l b)(hm:∀v c k sz b,x≠ .G5 v c k sz b)(h:strip x=.block id b):∃a,x=.block id a∧strip a=b:=by
 cases x<;>first|exact absurd rfl (d _ _)|exact absurd rfl (hm _ _ _ _ _)|simp[strip]at h
 grind
theorem c2Z(d:∀l b,x≠ .G7 l b)(hm:∀v c k sz b,x≠ .G5 v c k sz b)(h:strip x=.loop b):(∃a,x=.loop a∧strip a=b)∨∃lv c0 a,x=.loopS lv c0 a∧strip a=b:=by
 cases x<;>first|exact absurd rfl (d _ _)|exact absurd rfl (hm _ _ _ _ _)|simp[strip]at h
 all_goals grind
theorem b7y(a:∀l b,x≠ .G7 l b)(h:I1 x=.skip):x=.skip:=by cases x<;>simp[I1]at h<;>first|exact absurd rfl (a _ _)|rfl
theorem c6j(a:∀l b,x≠ .G7 l b)(h:I1 x=.exit id):x=.exit id:=by cases x<;>simp[I1]at h<;>first|exact absurd rfl (a _ _)|(subst h;rfl)
theorem c4p(a:∀l b,x≠ .G7 l b)(h:I1 x=.ret):x=.ret:=by cases x<;>simp[I1]at h<;>first|exact absurd rfl (a _ _)|rfl
theorem c9o{xs:List l6}(a:∀l b,x≠ .G7 l b)(h:I1 x=.reg xs):x=.reg xs:=by cases x<;>simp[I1]at h<;>first|exact absurd rfl (a _ _)|(subst h;rfl)
theorem c4h{a:C7}(e:∀l b,x≠ .G7 l b)(h:I1 x=.seq a b):∃c d,x=.seq c d∧I1 c=a∧I1 d=b:=by
 cases x<;>first|exact absurd rfl (e _ _)|simp[I1]at h
 exact⟨_,_,rfl,h.1,h.2⟩
theorem c9G{a:C7}{c:A0}(f:∀l b,x≠ .G7 l b)(h:I1 x=.cond c a b):∃d e,x=.cond c d e∧I1 d=a∧I1 e=b:=by
 cases x<;>first|exact absurd rfl (f _ _)|simp[I1]at h
 grind
theorem c2a(c:∀l b,x≠ .G7 l b)(h:I1 x=.block id b):∃a,x=.block id a∧I1 a=b:=by
 cases x<;>first|exact absurd rfl (c _ _)|simp[I1]at h
 grind
theorem c7a(c:∀l b,x≠ .G7 l b)(h:I1 x=.loop b):∃a,x=.loop a∧I1 a=b:=by
 cases x<;>first|exact absurd rfl (c _ _)|simp[I1]at h
 exact⟨_,rfl,h⟩
section
variable{P:Program}{B:Nat}{Z0:Nat→Prop}{W0:N2 B}{vs:List Nat}{N:Nat}{vars:List PV}{h:l7}{a:Act}{w:World}
theorem b3W{ρ:Option Nat}{nn:Nat}(hm:P.follows .mixedOrders=true)(A:vs.Nodup)(C:FN.fn=Fn P)(D:FN.fi=FI P)(E:a7s P B Z0 W0 ρ vs FN.fy):∀(c:Code),noR c=true→∀(k p:Nat) (x:C7),E9 P vs N k c=some (I1 x,p)→∀(Q':J1) (Q:Exit→Act→World→Prop) (vars:List PV) (h:l7) (a:Act) (w:World),
 G8 FN x Q' vars h→O2 B Z0 W0 vs N vars h a w→a9R B Z0 W0 vs N Q' Q→c.wpIn (fz ρ) nn P Q a w:=by
 intro c
 induction c with
 |skip=>
  intro j k p x b Q' Q vars h a w f hi g;have hp:=a4k f hi;clear f hi;obtain⟨x,h,o,m,f,hi⟩:=hp;rw[←m]at b;simp only[E9,s7,s9]at b;obtain⟨b,rfl⟩:=b;obtain rfl:=b7y o b.symm;exact wpIn_skip (g .normal _ _ _ _ hi f)
 |label l=>
  intro j k p x b Q' Q vars h a w f hi g;have hp:=a4k f hi;clear f hi;obtain⟨x,h,o,m,f,hi⟩:=hp;rw[←m]at b;simp only[E9,s7,s9]at b;obtain⟨b,rfl⟩:=b;obtain rfl:=b7y o b.symm;exact wpIn_label (g .normal _ _ _ _ hi f)
 |exit id=>
  intro j k p x b Q' Q vars h a w f hi g;have hp:=a4k f hi;clear f hi;obtain⟨x,h,o,m,f,hi⟩:=hp;rw[←m]at b;simp only[E9,s7,s9]at b;obtain⟨b,rfl⟩:=b;obtain rfl:=c6j o b.symm;exact wpIn_exit (g (.exit id) _ _ _ _ hi f)
 |ret=>
  intro j k p x b Q' Q vars h a w f hi g;have hp:=a4k f hi;clear f hi;obtain⟨x,h,o,m,f,hi⟩:=hp;rw[←m]at b;simp only[E9,s7,s9]at b;obtain⟨b,rfl⟩:=b;obtain rfl:=c4p o b.symm;exact wpIn_ret (g .ret _ _ _ _ hi f)
 |region id ops d=>
  intro j k p x b Q' Q vars h a w f hi g;have hp:=a4k f hi;clear f hi;obtain⟨x,h,o,m,f,hi⟩:=hp;rw[←m]at b;simp only[E9]at b;split at b
  . rename_i xs s F;simp only[s7,s9]at b;obtain⟨b,rfl⟩:=b;obtain rfl:=c9o o b.symm;obtain⟨H,f⟩:=f;rw[show ops=ops.toList.toArray by simp];cases d with
    |false=>exact b2n C D E A F H f (fun st a w hi t=>g .normal _ _ _ _ hi t) hi
    |true=>exact b3l hm C D E A F H f (fun st a w hi t=>g .normal _ _ _ _ hi t) hi
  . cases b
 |seq c1 c2 u v=>
  intro j k p x b Q' Q vars h a w f hi g;have hp:=a4k f hi;clear f hi;obtain⟨x,h,o,m,f,hi⟩:=hp;rw[←m]at b;simp only[E9]at b;split at b
  . rename_i q s h1;split at b
    . rename_i y I z;simp only[s7,s9]at b;obtain⟨b,rfl⟩:=b;obtain⟨q,y,rfl,rfl,rfl⟩:=c4h o b.symm;simp only[noR,G4]at j;refine wpIn_seq (u j.1 _ _ _ h1 _ _ _ _ _ _ f hi fun e vars h a w hi he=>?_);cases e with
      |normal=>exact v j.2 _ _ _ z _ _ _ _ _ _ he hi g
      |exit id=>exact g (.exit id) _ _ _ _ hi he
      |ret=>exact g .ret _ _ _ _ hi he
    . cases b
  . cases b
 |cond M c1 c2 u v=>
  intro j k p x b Q' Q vars h a w f hi g;have hp:=a4k f hi;clear f hi;obtain⟨x,h,o,m,f,hi⟩:=hp;rw[←m]at b;simp only[E9]at b;split at b
  . rename_i q s h1;split at b
    . rename_i y I z;split at b
      . rename_i dd J;simp only[s7,s9]at b;obtain⟨b,rfl⟩:=b;obtain⟨q,y,rfl,rfl,rfl⟩:=c9G o b.symm;simp only[noR,G4]at j;obtain⟨G,O,K,R⟩:=id hi;have hr:=b1D J K;simp only[G8]at f;split at f
        . rename_i he;rw[he]at hr;exact wpIn_cond_true (a1f hr) (u j.1 _ _ _ h1 _ _ _ _ _ _ f hi g)
        . rename_i he;rw[he]at hr;exact wpIn_cond_false (a1f hr) (v j.2 _ _ _ z _ _ _ _ _ _ f hi g)
        . exact f.elim
      . cases b
    . cases b
  . cases b
 |block id c r=>
  intro j k p x b Q' Q vars h a w f hi g;have hp:=a4k f hi;clear f hi;obtain⟨x,h,o,m,f,hi⟩:=hp;rw[←m]at b;simp only[E9]at b;split at b
  . rename_i q s h1;simp only[s7,s9]at b;obtain⟨b,rfl⟩:=b;obtain⟨q,rfl,rfl⟩:=c2a o b.symm;refine wpIn_block (r j _ _ q h1 _ _ _ _ _ _ f hi fun e vars h a w hi he=>?_);cases e with
    |normal=>exact g .normal _ _ _ _ hi he
    |exit i=>
     simp only[xin]at he;show Exit.inBlock id Q (.exit i) a w;simp only[Exit.inBlock];split at he
     . rename_i e;rw[if_pos e];exact g .normal _ _ _ _ hi he
     . rename_i e;rw[if_neg e];exact g (.exit i) _ _ _ _ hi he
    |ret=>exact g .ret _ _ _ _ hi he
  . cases b
 |loop c r=>
  intro j k p x b Q' Q vars h a w f hi g;have hp:=a4k f hi;clear f hi;obtain⟨x,h,o,m,f,hi⟩:=hp;rw[←m]at b;simp only[E9]at b;split at b
  . rename_i q s h1;simp only[s7,s9]at b;obtain⟨b,rfl⟩:=b;obtain⟨q,rfl,rfl⟩:=c7a o b.symm;obtain⟨n,f⟩:=f;refine wpIn_loop_rounds n ?_
    induction n generalizing vars h a w with
    |zero=>exact f.elim
    |succ n L=>
     refine r j _ _ q h1 _ _ _ _ _ _ f hi fun e vars h a w hi he=>?_;cases e with
     |normal=>exact L _ _ _ _ hi he
     |exit id=>exact g (.exit id) _ _ _ _ hi he
     |ret=>exact g .ret _ _ _ _ hi he
  . cases b
 |scope c r=>
  intro j k p x b Q' Q vars h a w f hi g;have hp:=a4k f hi;clear f hi;obtain⟨x,h,o,m,f,hi⟩:=hp;rw[←m]at b;simp only[E9]at b;refine b3F (r j _ _ _ b _ _ _ _ _ _ f hi fun e vars h a w hi he=>?_);cases e with
  |normal=>exact g .normal _ _ _ _ hi he
  |exit id=>exact g (.exit id) _ _ _ _ hi he
  |ret=>exact g .ret _ _ _ _ hi he
 |rangeFunc=>intro j;simp[noR]at j
 |_=>
  intro j k p x b;simp only[E9]at b;cases b
end
end
end Go.Proofs.YtbhfgadikmfjdaaGreat.Am
