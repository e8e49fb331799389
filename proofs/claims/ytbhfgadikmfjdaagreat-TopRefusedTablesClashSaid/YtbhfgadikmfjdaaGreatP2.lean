/-
  The plain machine, that it is sound, and walks: part 2 (joined and shortened by a program of the prover's).
-/
import Derived.Test.YtbhfgadikmfjdaaGreatP1
import Derived.Laws.StructEq
import Derived.Laws.BytesString
import Derived.MapKept
import Derived.WideKeyRuns
import Derived.Scope
import Derived.LoopN
set_option linter.unusedSimpArgs false
set_option linter.unusedVariables false
set_option linter.unusedSectionVars false
namespace Go.Proofs.YtbhfgadikmfjdaaGreat.Am
open Go.RowKit
section
variable{t e:TypeId}{k n i j:Nat}{v u a:Value}{p c z q:PV}{hide:List Nat}{r:Bool}
section
variable{P:Program}{B:Nat}{Z0:Nat→Prop}{G:Gh}{h:l5}{w:World}
theorem a8e(hp:A6 c=true):l6 c=[c]:=by cases c<;>first|rfl|(simp[A6]at hp)
theorem b0P{x:PV}(hp:A6 c=true)(hx:(l6 c)[j]?=some x):j=0∧x=c:=by
 rw[a8e hp]at hx
 grind
theorem b5P(hp:A6 c=true)(hv:j8 G h w D u c):F9 G h w k i j u c:=by cases c<;>first|(simp[A6]at hp;done)|(unfold F9;exact⟨rfl,hv⟩)
theorem c5H(hp:A6 c=true)(hv:F9 G h w k i j u c):j8 G h w D u c:=by cases c<;>first|(simp[A6]at hp;done)|(unfold F9 at hv;exact hv.2)
theorem a9T{es:List PV}(hp:es.all A6=true){e:PV}(he:es[i]?=some e):A6 e=true:=A8.1 hp e (C8 he)
theorem b4W(hr:p7 B Z0 G h w)(hk:k<h.length∧hide.contains k=false){us:Array Value}{T:TypeId}{cs:List PV}(hu:I6 (fun v c=>one c=true∧j8 G h w D v c) us cs)
 (hp:cs.all A6=true) (h0:0<cs.length) (hm:cs.length≤1000000) {s:Sem Next} (hs:s.run P w=.ok (.value (.pointer (some ⟨w.heap.size,0,none⟩))) (w.alloc (.cells us T))):
 Good P B Z0 G h w s (.eptr k ((l8 h hide k).1+1) cs.length 1 0 0) [(k,((l8 h hide k).1+1,.arr 1 0 false cs))]:=by
 obtain⟨⟨g,old⟩,hh⟩:∃r,h[k]?=some r:=⟨_,l9 hk.1⟩
 rw[a6p hk.2 hh];have hβ:(G.put k w.heap.size cs.length).β (root k)=w.heap.size:=by simp[Gh.put]
 have hγ:(G.put k w.heap.size cs.length).γ (root k)=cs.length:=by simp[Gh.put]
 have hR:(G.put k w.heap.size cs.length).R (root k):=by simp[Gh.put]
 obtain⟨h1,h2⟩:=b1o (w':=w.alloc (.cells us T)) (o':=.arr 1 0 false cs) hr hh (ob:=.cells us T) rfl cs.length rfl (fun e=>by cases e) (fun x=>by unfold E5;rw[hβ,hγ];refine⟨i9,m0 _,by unfold maxLen;omega,fun _=>⟨us,T,heap_alloc_new w _,by rw[hu.1];omega,fun i e he=>?_⟩,fun hn=>absurd hR hn⟩;have hpe:=a9T hp he;refine⟨by rw[a8e hpe];rfl,fun j c hc=>?_⟩;obtain⟨rfl,rfl⟩:=b0P hpe hc;obtain⟨u,h6,h7,h8⟩:=hu.2 i c he;exact⟨u,by rw[Nat.mul_one,a3t];exact h6,b5P hpe (h8.ext x)⟩)
 refine⟨_,_,_,_,hs,.inl rfl,h1,h2,?_,a5z hr _⟩;unfold D;unfold j8;refine⟨_,_,rfl,g+1,.arr 1 0 false cs,D7 hk.1,m0 _,fun _ sz ver fr es e=>?_⟩;cases e;exact⟨m0 _,fun _=>⟨hβ.symm,fun _=>rfl,h0⟩⟩
theorem c5x(hr:p7 B Z0 G h w)(hk:k<h.length∧hide.contains k=false){zs:List PV}(hz:a0c P t=some z)(hzs:(l6 z).map a1N=zs)(hp:zs.all A6=true)(h0:0<zs.length)(hm:zs.length≤1000000):
 Good P B Z0 G h w (do pure (.value (←Instr.alloc t true (.tuple #[])))) (.eptr k ((l8 h hide k).1+1) zs.length 1 0 0) [(k,((l8 h hide k).1+1,.arr 1 0 false zs))]:=by
 obtain⟨i,v,h1,h2,h3⟩:=a4r hz;have hl:=a5W (G:=G) (h:=h) (w:=w) h3;have hl2:I6 (fun u c=>one c=true∧j8 G h w D u c) v.cells zs:=by subst hzs;refine⟨by rw[I8];exact hl.1,fun i c hc=>?_⟩;rw[H5]at hc;obtain⟨c0,hc0,rfl⟩:=C5.1 hc;obtain⟨u,q1,q2,q3⟩:=hl.2 i c0 hc0;exact⟨u,q1,c4J q2 q3⟩
 refine b4W hr hk (T:=t) (us:=v.cells) hl2 hp h0 hm ?_;simp[Instr.alloc,a9M h1 h2,newVar,newRow]
theorem c7B(hr:p7 B Z0 G h w)(hk:k<h.length∧hide.contains k=false)(hv:j8 G h w D v p)(hp:(l6 p).all A6=true)(h0:0<(l6 p).length)(hm:(l6 p).length≤1000000):
 Good P B Z0 G h w (do pure (.value (←Instr.box t v))) (.eptr k ((l8 h hide k).1+1) (l6 p).length 1 0 0) [(k,((l8 h hide k).1+1,.arr 1 0 false (l6 p)))]:=by
 refine b4W hr hk (T:=t) (us:=v.cells) (a4R hv (A8.2 fun c hc=>a3U (A8.1 hp c hc))) hp h0 hm ?_;simp[Instr.box,newVar,newRow]
theorem c7u{sz m:Nat}(hv:j8 G h w D v p)(hk:b1l sz p m=some q):∃b o,v=.pointer (some ⟨b,o,none⟩)∧j8 G h w D (.pointer (some ⟨b,o+m*sz,none⟩)) q:=by
 cases p<;>simp only[b1l]at hk<;>(try exact b3j hv hk)
 case eptr k g gl s i j=>
  split at hk
  . rename_i hc;obtain⟨rfl,rfl,hlt⟩:=hc;simp only[p9]at hk;subst hk;unfold D at hv⊢;unfold j8 at hv⊢;obtain⟨b,f,rfl,gn,ob,h1,h2,h3⟩:=hv
    grind
  . exact b3j hv hk
theorem b6s(hr:p7 B Z0 G h w){r:PV}(hi:a1s P t=some true)(hs:H8 P t=some n)(hv:j8 G h w D v p)(hk:a5R (l8 h hide) n p=some r):
 ∃u,(Instr.loadAt t v).run P w=.ok u w∧j8 G h w D u r:=by
 cases p<;>simp only[a5R]at hk<;>(try exact a8V hr hi hs hv hk)
 case eptr k g gl s i j=>
  split at hk
  . rename_i hc;obtain⟨rfl,rfl,rfl,rfl⟩:=hc;split at hk
    . rename_i g' sz ver fr es hlk;split at hk
      . rename_i hc2;obtain⟨rfl,hgl,rfl,hp⟩:=hc2;cases hk;have hh:=T9 hlk k7;unfold D at hv;unfold j8 at hv;obtain⟨b,f,rfl,gn,ob,h1,h2,h3⟩:=hv;rw[hh]at h1;cases h1;obtain⟨_,h3⟩:=h3 rfl _ _ _ _ rfl;obtain⟨rfl,h4,h0⟩:=h3 hgl;have hf:f=0:=i9;subst hf;have hcs:a7D (fun _ v c=>one c=true∧j8 G h w D v c) w (G.β (root k)) 0 es:=fun j c hc=>by
         obtain⟨_,us,T,h5,_,_,h8⟩:=a3n hr hh hc;have hpc:=a9T hp hc;obtain⟨u,h9,h10⟩:=h8 0 c (by rw[a8e hpc];rfl);refine⟨u,by rw[a0U h5,U3];simpa using h9,a3U hpc,c5H hpc h10⟩
        obtain⟨u,h6,_,h8⟩:=a7C (P:=P) (off:=0) hi hs hcs (show a1Z true gl es 0=some (.agg ((es.drop 0).take gl))by simp[a1Z,hgl]);refine⟨u,h6,?_⟩;obtain⟨vs,rfl,e1,h9,h10⟩:=h8 rfl;have e2:(es.drop 0).take gl=es:=(by grind);rw[e2]at h9 h10;exact a9n (o:=0) (R:=fun _ v c=>one c=true∧j8 G h w D v c) h10 h9 fun _ _ _ _ x=>x
      . cases hk
    . cases hk
  . exact a8V hr hi hs hv hk
theorem c6V(hr:p7 B Z0 G h w){pa pv:PV}{ws:List (Nat×Row)}(hs:H8 P t=some n)(h0:n≠0)(ha:j8 G h w D a pa)(hv:j8 G h w D v pv)
 (hk:a6N (l8 h hide) n pa pv=some ws):Good P B Z0 G h w (do Instr.storeAt t a v;pure .skip) .uu ws:=by
 cases pa<;>simp only[a6N]at hk<;>(try exact b2S hr hs h0 ha hv hk)
 case eptr k g gl s i j=>
  split at hk
  . rename_i hc;obtain⟨rfl,rfl,rfl,rfl⟩:=hc;cases pv<;>(try (cases hk;done));rename_i cs;simp only[]at hk;split at hk
    . rename_i g' sz ver fr es hlk;split at hk
      . rename_i hc2;obtain⟨rfl,hgl,rfl,rfl,hp,hcl,hpc⟩:=hc2;simp only[p9]at hk;subst hk;have hh:=T9 hlk k7;unfold D at ha;unfold j8 at ha;obtain⟨b,f,rfl,gn,ob,h1,h2,h3⟩:=ha;rw[hh]at h1;cases h1;obtain⟨_,h3⟩:=h3 rfl _ _ _ _ rfl;obtain⟨rfl,h4,h0⟩:=h3 hgl;have hf:f=0:=i9;subst hf;obtain⟨e0,he0⟩:∃e,es[0]?=some e:=⟨es[0],l9 i9⟩
        obtain⟨hR,us,T,h5,h6,_,_⟩:=a3n hr hh he0;have hob:=hr.ob k _ _ hh;unfold E5 at hob;have hvc:=a4R hv (p:=.agg cs) (A8.2 fun c hc=>a3U (A8.1 hpc c hc));have hvs:v.cells.size=gl:=(by rw[hvc.1];exact hcl);have hroom:0+v.cells.toList.length≤us.size:=(by grind);have hrun:=b0u (P:=P) (o:=0) hs hvs (b0w (fun u c y=>a6L y.1 y.2) hvc) h5 i9;obtain⟨x1,x2⟩:=b4m (w':=w.setRow (G.β (root k)) (Y8 us 0 v.cells.toList)) (ver':=ver) (es':=cs) (γ0:=G.γ (root k)) (b:=G.β (root k)) (mk:=fun _ _=>none) hr hh (.inl ⟨hR,rfl,rfl⟩) (setRow_heap w _ us _ T (0,0) h5) (fun x _ hx=>setRow_other w _ _ _ hx) k7
         (fun _ _ _ e=>absurd e k7) (fun _ _ _ _ _ e=>absurd e k7) (by rw[a6v hroom];exact h6) i9 hob.2.2.1 i9 (m0 _)
         (fun _ i j ns hc=>by
          exfalso;unfold cellAt at hc;cases hei:es[i]? with
          |none=>rw[hei]at hc;simp at hc
          |some e=>
           rw[hei]at hc;have hpe:=a9T hp hei;have hc':(l6 e)[j]?=some (.uslc ns):=(by simpa using hc);obtain⟨_,rfl⟩:=b0P hpe hc';simp[A6]at hpe)
         (fun i e he=>by
          have hpe:=a9T hpc he;refine⟨by rw[a8e hpe];rfl,fun j c hc=>?_⟩;obtain⟨rfl,rfl⟩:=b0P hpe hc;have hil:i<cs.length:=(B4.1 he).1;obtain⟨u,g1,g2,g3⟩:=hvc.2 i c he;refine⟨u,?_,?_⟩
          . rw[a3K hroom,if_pos (by grind)];simpa using g1
          . unfold a9O;exact b5P hpe g3)
        exact⟨.skip,undef,_,_,by simp[hrun],.inr ⟨rfl,rfl⟩,x1,x2,L3,a6a (Bl.refl _ _) (hr.lv _ hR).1 _ (by assumption)⟩
      . cases hk
    . cases hk
  . exact b2S hr hs h0 ha hv hk
theorem c3p(hk:a5J P t=some n):∃e,P.underlying t=some (.array n e)∧H8 P e=some 1∧n≠0:=by
 unfold a5J at hk;split at hk
 . grind
 . cases hk
theorem c2B(hr:p7 B Z0 G h w){lo hi:Option Value}{plo phi:Option PV}(ht:a5J P t=some n)(hv:j8 G h w D v p)
 (h1:OV G h w lo plo) (h2:OV G h w hi phi) (hk:b1D n p plo phi=some q):∃u,(Instr.sliceAt t v lo hi none).run P w=.ok u w∧j8 G h w D u q:=by
 cases p<;>simp only[b1D]at hk<;>(try (cases hk;done));rename_i k g gl s i j;split at hk
 . rename_i hc;obtain⟨rfl,rfl,rfl,rfl,hmx⟩:=hc;split at hk
   . rename_i l u hb;cases hk;obtain⟨e,hu,hz,hn0⟩:=c3p ht;obtain⟨ie,hie,hsz⟩:=a1h hz;obtain⟨hb,b1,b2⟩:=b1E (P:=P) (isS:=false) (mx:=none) (pmx:=none) (m0 gl) h1 h2 trivial hb;unfold D at hv;unfold j8 at hv;obtain⟨b,f,rfl,gn,ob,q4,q5,q6⟩:=hv;refine⟨.slice (some (if gl=l then⟨b,f,none⟩else⟨b,f+l,none⟩)) (u-l) (gl-l),?_,?_⟩
     . simp[Instr.sliceAt,run_underlying hu,Instr.sureAddr,hb,sizeOf,typeInfo,hie,hsz,Addr.add_lit]
     . unfold D;unfold j8;refine⟨_,_,rfl,i9,by unfold maxLen;omega,.inr ?_,gn,ob,q4,q5,fun e1 sz ver fr es e2=>?_⟩
       . split
         . exact⟨_,_,rfl⟩
         . exact⟨_,_,rfl⟩
       . obtain⟨h7,h8⟩:=q6 e1 sz ver fr es e2;refine⟨h7,fun e3=>?_⟩;obtain⟨h9,h10,h11⟩:=h8 e3;subst e2;have hob:=hr.ob k _ _ q4;unfold E5 at hob;obtain⟨_,o2,_,_,o5⟩:=hob;refine⟨i9,fun hR=>?_,fun hR=>?_⟩
         . by_cases hl:gl=l
           . exact⟨f,by rw[if_pos hl,h9],.inl i9,i9,i9⟩
           . exact⟨f+l,by rw[if_neg hl,h9],.inr (fun e5=>by have:=h10 e5;omega),i9,i9⟩
         . grind
   . cases hk
 . cases hk
theorem c3r{b:Value}{x y:PV}(d:Nat)(ht:a6Q P t=some k)(ha:j8 G h w D a x)(hb:j8 G h w D b y)(hk:eqC k x y=some r):(Op.equalIn (d+1) t a b).run P w=.ok r w:=by
 unfold a6Q at ht;cases x<;>cases y<;>simp only[eqC]at hk<;>(try (cases hk;done))<;>split at hk<;>(try (cases hk;done))
 case bool.bool i j hk0=>
  subst hk0;cases hk;obtain rfl:=a1c ha;obtain rfl:=a1c hb;split at ht<;>first|(cases ht;done)|(rename_i hu;exact run_equalIn_bool' w d t i j hu)|(simp at ht)
 case int.int k1 i k2 j hk0=>
  obtain⟨rfl,rfl⟩:=hk0;cases hk;obtain rfl:=V0 ha;obtain rfl:=V0 hb;split at ht<;>first|(cases ht;done)|(rename_i hu;exact run_equalIn_int w d t _ _ i j hu)|(simp at ht)
 case str.str i j hk0=>
  subst hk0;cases hk;obtain rfl:=a2q ha;obtain rfl:=a2q hb;split at ht<;>first|(cases ht;done)|(rename_i hu;exact run_equalIn_string w d t i j hu)|(simp at ht)
theorem c1j(ht:a6Q P t=some k):a1s P t=some false:=by
 unfold a6Q at ht;unfold a1s
 grind
theorem b5S{vs:Array Value}(ht:a6Q P t=some k)(hs:H8 P t=some 1)(hu:vs[i]?=some u):(part t vs i).run P w=.ok u w:=by
 obtain⟨ie,hie,hsz⟩:=a1h hs;have hi:=c1j ht;have ha:(isAgg t).run P w=.ok false w:=by
  unfold a1s at hi;unfold isAgg;split at hi
  . cases hi
  . cases hi
  . rename_i d h1 h2 hud;simp only[N8,run_underlying hud,Q8];cases d<;>first|rfl|exact absurd rfl (h1 _)|exact absurd rfl (h2 _ _)
  . cases hi
 unfold part;simp[ha,hu,sizeOf,typeInfo,hie,hsz]
theorem b9E{xs ys:Array Value}{l m:List PV}(hx:I6 (j8 G h w 5) xs l)(hy:I6 (j8 G h w 5) ys m)(d:Nat):∀(fs:List Field) (i:Nat) (ts:List Nat) (r:Bool),b1i P i fs=some ts→a4V ts (l.drop i) (m.drop i)=some r→(Op.eqFields (d+1) xs ys fs).run P w=.ok r w
 | [],i,ts,r,hf,he=>by
  cases hf;cases hl:l.drop i<;>cases hm:m.drop i<;>rw[hl,hm]at he<;>simp only[a4V]at he<;>first|(cases he;done)|skip
  cases he;simp[Op.eqFields]
 |f::fs,i,ts,r,hf,he=>by
  simp only[b1i]at hf;split at hf
  . rename_i hc;obtain⟨c1,c2,c3⟩:=hc;split at hf
    . rename_i k ts' hk hts;cases hf;cases hl:l.drop i with
      |nil=>rw[hl]at he;simp[a4V]at he
      |cons a l'=>
       cases hm:m.drop i with
       |nil=>rw[hl,hm]at he;simp[a4V]at he
       |cons b m'=>
        rw[hl,hm]at he;simp only[a4V]at he;split at he
        . rename_i x y h1 h2;cases he;have hla:l[i]?=some a:=(by have:=congrArg List.head? hl;rw[List.head?_drop]at this;exact this);have hmb:m[i]?=some b:=(by have:=congrArg List.head? hm;rw[List.head?_drop]at this;exact this);obtain⟨u,p1,p2⟩:=hx.2 i a hla;obtain⟨v,q1,q2⟩:=hy.2 i b hmb;have e1:=b5S (w:=w) hk c3 p1;have e2:=b5S (w:=w) hk c3 q1;have e3:=c3r (w:=w) d hk p2.up q2.up h1;have hl':l.drop (i+1)=l':=(by rw[←List.tail_drop,hl];rfl);have hm':m.drop (i+1)=m':=(by rw[←List.tail_drop,hm];rfl);have ih:=b9E hx hy d fs (i+1) ts' y hts (by grind);simp only[Op.eqFields,if_pos c1,N8,c2,e1,e2,e3,Q8];cases x
          . simp
          . simp[ih]
        . cases he
    . cases hf
  . cases hf
theorem c5e{op:BinOp}{x y:Operand}{b:Value}{l m:List PV}{ts:List Nat}(ho:op=.eql∨op=.neq)(ht:b3V P t=some ts)(ha:j8 G h w D a (.agg l))(hb:j8 G h w D b (.agg m))(hk:a4V ts l m=some r):
 ∃v,(do eqGuard op t x y a b;Go.binOp op t a b:Sem Value).run P w=.ok v w∧j8 G h w D v (.bool ((op==.neq) !=r)):=by
 obtain⟨xs,rfl,hx⟩:=a4K ha;obtain⟨ys,rfl,hy⟩:=a4K hb;unfold b3V at ht;split at ht
 . rename_i fs hu;split at ht
   . rename_i hc;have hfo:P.fieldsOf t=fs:=(by unfold Program.fieldsOf;rw[hu]);have hg:=run_eqGuard_agg w op t x y xs ys hc.2;have he:(Op.equalIn 10000 t (.agg xs) (.agg ys)).run P w=.ok r w:=by
      rw[run_equalIn_agg w 9999 t xs ys (by grind) hc.1,hfo];exact b9E hx hy 9998 fs.toList 0 ts r ht (by simpa using hk)
     rcases ho with rfl|rfl
     . refine⟨.bool r,?_,by rw[show((BinOp.eql==BinOp.neq) !=r)=r by cases r<;>rfl];exact a1l⟩;simp only[N8,hg,Q8,run_eql_struct,he]
     . refine⟨.bool (!r),?_,by rw[show((BinOp.neq==BinOp.neq) !=r)=!r by cases r<;>rfl];exact a1l⟩;simp only[N8,hg,Q8,run_neq_struct,he]
   . cases ht
 . cases ht
theorem b9T:∀{cs:List PV} {bs:List UInt8},a1B cs=some bs→∃ns:List Int,cs=ns.map (.int .u8)∧bs=ns.map fun n=>UInt8.ofNat n.toNat
 | [],bs,hk=>by cases hk;exact⟨[],rfl,rfl⟩
 |c::cs,bs,hk=>by
  simp only[a1B]at hk;split at hk
  . rename_i b bs' h1 h2;cases hk;obtain⟨ns,rfl,rfl⟩:=b9T h2;unfold a7n at h1;split at h1
    . split at h1
      . rename_i hk;subst hk;cases h1;exact⟨_::ns,rfl,rfl⟩
      . cases h1
    . cases h1
  . cases hk
theorem c2A(ns:List Int):∀s:ByteArray,ns.foldl (fun r n=>r.push (UInt8.ofNat n.toNat)) s=⟨⟨s.data.toList++ns.map fun n=>UInt8.ofNat n.toNat⟩⟩:=by
 induction ns with
 |nil=>intro s;simp
 |cons n ns ih=>
  intro s;rw[a2B,ih];simp[ByteArray.push]
theorem c2I(hr:p7 B Z0 G h w){src dst:TypeId}{news:List PV}{ws:List (Nat×Row)}{bs:List UInt8}(hs:P.underlying src=some (.slice e))(he:P.underlying e=some (.int .u8))(hd:P.underlying dst=some .string)
 (hv:j8 G h w D v p) (hk:a1q (l8 h hide) 2 p=some (news,ws)) (hb:a1B news=some bs):∃u,(convert src dst v).run P w=.ok u w∧j8 G h w D u (.str ⟨⟨bs⟩⟩):=by
 obtain⟨ns,rfl,rfl⟩:=b9T hb;have hz:a2w 1 (ns.map (PV.int .u8))=true:=A8.2 fun x hx=>by obtain⟨n,_,rfl⟩:=E9.1 hx;rfl
 obtain⟨G1,V,mk,_,_,hsrc,_,hmk,_⟩:=b1W hr H6 hv hz hk;obtain⟨⟨a,c,rfl,ha⟩,hcells⟩:=hsrc;refine⟨.string ⟨⟨ns.map fun n=>UInt8.ofNat n.toNat⟩⟩,?_,a4J⟩;have hconv:(convert src dst (.slice a (ns.map (PV.int .u8)).length c)).run P w=(Conv.bytesToString (.slice a (ns.map (PV.int .u8)).length c)).run P w:=run_convert_bytes_string w src dst e a _ c hs he hd;rw[hconv];cases a with
 |none=>
  rcases ha with ha|⟨b,f,ha,_⟩
  . have:ns=[]:=(by simpa using ha);subst this;simp[Conv.bytesToString];rfl
  . cases ha
 |some a=>
  have hl:(loadCells a (ns.map (PV.int .u8)).length).run P w=.ok (ns.map (Value.int .u8)).toArray w:=by
   rcases ha with ha|⟨b,f,ha,hcell⟩
   . have:ns=[]:=(by simpa using ha);subst this;simp[loadCells,loadCellsFrom]
   . cases ha;have:=run_loadCells (P:=P) w ⟨b,f,none⟩ (ns.map (PV.int .u8)).length (fun j=>V j) (fun j hj=>by rw[Addr.add_lit];exact hcell j (by simpa using hj));rw[this];congr 2;refine a0t k7 fun i h1 h2=>?_;simp only[a1e,a4G];have hi:i<ns.length:=(by simpa using h2);obtain⟨_,hq⟩:=hcells i (PV.int .u8 ns[i]) (by simp[hi]);have hq:=hq 0 (.int .u8 ns[i]) rfl;have hm:mk i 0=none:=by
      cases hm:mk i 0 with
      |none=>rfl
      |some k2=>
       exfalso;rw[hm]at hq;obtain⟨ns',e1,_⟩:=hq;cases e1
     rw[hm]at hq;have:=V0 hq.2;simpa using this
  rw[run_bytesToString w a _ c ns hl,c2A];rfl
theorem c8B(hl:a6d c=true)(hv:j8 G h w D u c):a0I G h w u c:=by
 cases c<;>first|(simp[a6d,A6]at hl;done)|skip
 case own=>exact(b0v (n:=D)).2 hv
 case slc=>unfold a0I;exact a2M hv
 case nils=>unfold a0I;exact Z7 hv
 all_goals (unfold D at hv;unfold j8 at hv;unfold a0I;exact hv)
theorem c2U(hl:a6d c=true):l6 c=[c]:=by cases c<;>first|rfl|(simp[a6d,A6]at hl)
theorem c4z(hr:p7 B Z0 G h w){parts:Array (Nat×Value)}{xs:List (Nat×PV)}{es:List PV}(hu:a3E P t=some e)(hs:H8 P e=some 1)(hz:a0c P e=some z)
 (hn:n*1≤16777216) (hzl:(l6 z).length=1) (hp:a4c G h w parts.toList xs) (hm:a2Z 1 (List.replicate n z) xs=some es) (hl:es.all a6d=true):
 Good P B Z0 G h w (do pure (.value (←Instr.buildSlice t n parts))) (.lst es) []:=by
 obtain⟨A',hrun,h5,hlen,hbound⟩:=b0s (P:=P) hu hs hz i9 hn hzl hp hm;obtain⟨p1,p2⟩:=b2g hr (.cells A' e) ⟨_,_,_,rfl⟩;refine⟨.value (.slice (some ⟨w.heap.size,0,none⟩) n n),_,w.alloc (.cells A' e),_,by simp[hrun],.inl rfl,p1,p2,?_,a5z hr _⟩;unfold D;unfold j8;refine⟨_,n,by rw[hlen],i9,by unfold maxLen;omega,fun i x hx=>?_⟩;obtain⟨g1,g2⟩:=h5.2 i x hx;have hlx:=A8.1 hl x (C8 hx);obtain⟨_,u,g3,g4⟩:=g2 0 x (by rw[c2U hlx];rfl);refine⟨_,_,u,rfl,.inr rfl,?_,(c8B hlx g4).ext p2⟩;rw[a0U (heap_alloc_new w _),U3];simpa using g3
theorem c8o(hr:p7 B Z0 G h w){s:Nat}{parts:Array (Nat×Value)}(hu:a3E P t=some e)(hs:H8 P e=some s)(hz:a0c P e=some z)
 (hs0:s≠0) (hzl:(l6 z).length=s) (hp:a4c G h w parts.toList []):
 Good P B Z0 G h w (do pure (.value (←Instr.buildSlice t 0 parts))) .ne []:=by
 obtain⟨A',hrun,h5,hlen,hbound⟩:=b0s (P:=P) hu hs hz hs0 i9 hzl hp (show a2Z s (List.replicate 0 z) []=some []from rfl);obtain⟨p1,p2⟩:=b2g hr (.cells A' e) ⟨_,_,_,rfl⟩;refine⟨.value (.slice (some ⟨w.heap.size,0,none⟩) 0 0),_,w.alloc (.cells A' e),_,by simp[hrun],.inl rfl,p1,p2,?_,a5z hr _⟩;unfold D;unfold j8;exact⟨_,_,rfl⟩
theorem c6G{y:Nat×Nat}(hk:a9J P t=some y):∃e,P.underlying t=some (.array y.1 e)∧H8 P e=some y.2:=by
 unfold a9J at hk;split at hk
 . rename_i m e hu;obtain⟨s,h1,rfl⟩:=C5.1 hk;exact⟨e,hu,h1⟩
 . cases hk
theorem c7m{y:Nat×Nat}{lo hi:Option Value}{plo phi:Option PV}(ht:a9J P t=some y)(hv:j8 G h w D v p)
 (h1:OV G h w lo plo) (h2:OV G h w hi phi) (hk:b0R y.1 y.2 p plo phi=some q):∃u,(Instr.sliceAt t v lo hi none).run P w=.ok u w∧j8 G h w D u q:=by
 obtain⟨n,sz⟩:=y;cases p<;>simp only[b0R]at hk<;>(try (cases hk;done));rename_i k g o;split at hk
 case isFalse=>cases hk
 rename_i hmx;split at hk
 case h_2=>cases hk
 rename_i l u hb;cases hk;obtain⟨e,hu,hz⟩:=c6G ht;obtain⟨ie,hie,hsz⟩:=a1h hz;simp only at hu hsz;obtain⟨hb,b1,b2⟩:=b1E (P:=P) (isS:=false) (mx:=none) (pmx:=none) (m0 n) h1 h2 trivial hb;unfold D at hv;unfold j8 at hv;obtain⟨b,rfl,gn,ob,q4,q5,q6⟩:=hv;refine⟨.slice (some (if n=l then⟨b,o,none⟩else⟨b,o+l*sz,none⟩)) (u-l) (n-l),?_,?_⟩
 . simp[Instr.sliceAt,run_underlying hu,Instr.sureAddr,hb,sizeOf,typeInfo,hie,hsz,Addr.add_lit]
 . unfold D;unfold j8;by_cases hl:n=l
   . rw[if_pos hl];exact⟨b,o,_,rfl,i9,by unfold maxLen;omega,.inl i9,gn,ob,q4,q5,q6⟩
   . rw[if_neg hl];exact⟨b,o+l*sz,_,rfl,i9,by unfold maxLen;omega,.inr rfl,gn,ob,q4,q5,q6⟩
theorem c4Y{op:BinOp}{x y:Operand}(ho:op=.eql∨op=.neq)(hu:P.underlying t=some (.slice e))(hv:j8 G h w D v p)(hk:b1m p=some r):
 ∃u,(do eqGuard op t x y v (.slice none 0 0);Go.binOp op t v (.slice none 0 0):Sem Value).run P w=.ok u w∧j8 G h w D u (.bool ((op==.neq) !=r)):=by
 have key:∃a l c,v=.slice a l c∧a.isNone=r:=by
  cases p<;>simp only[b1m]at hk<;>(try (cases hk;done))
  case nils=>cases hk;exact⟨none,0,0,Z7 hv,rfl⟩
  case ne=>
   cases hk;unfold D at hv;unfold j8 at hv;obtain⟨b,o,rfl⟩:=hv;exact⟨some _,0,0,rfl,rfl⟩
  case lst es=>
   cases hk;unfold D at hv;unfold j8 at hv;obtain⟨a,c,rfl,_⟩:=hv;exact⟨some a,_,c,rfl,rfl⟩
  case slc es=>
   split at hk
   . cases hk
   . rename_i hl;cases hk;obtain⟨a,c,sz,rfl,h2,h3,h4,h5⟩:=PR.U2.1 (a2M hv);cases a with
     |none=>have:=h4 rfl;omega
     |some a=>exact⟨some a,_,c,rfl,rfl⟩
  case own k g gl s o l=>
   split at hk
   . cases hk
   . cases hk;unfold D at hv;unfold j8 at hv;obtain⟨a,c,rfl,q1,q2,q3,_⟩:=hv;rcases q3 with⟨rfl,rfl⟩|⟨b,f,rfl⟩
     . omega
     . exact⟨some _,_,c,rfl,rfl⟩
  case nown k g ver i j o l=>
   split at hk
   . cases hk
   . cases hk;unfold D at hv;unfold j8 at hv;obtain⟨a,c,rfl,q1,q2,q3,_⟩:=hv;rcases q3 with⟨rfl,rfl⟩|⟨b,f,rfl⟩
     . omega
     . exact⟨some _,_,c,rfl,rfl⟩
 obtain⟨a,l,c,rfl,rfl⟩:=key;have he:(Op.equal t (.slice a l c) (.slice none 0 0)).run P w=.ok a.isNone w:=by
  have hd:∀d:Nat,(Op.equalIn (d+1) t (.slice a l c) (.slice none 0 0)).run P w=.ok a.isNone w:=fun d=>by cases a<;>simp[Op.equalIn,run_underlying hu]
  exact hd 9999
 rcases ho with rfl|rfl
 . refine⟨.bool a.isNone,?_,by rw[show((BinOp.eql==BinOp.neq) !=a.isNone)=a.isNone by cases a<;>rfl];exact a1l⟩;have hg:(eqGuard .eql t x y (.slice a l c) (.slice none 0 0)).run P w=.ok () w:=(by simp[eqGuard]);simp only[N8,hg,Q8,Go.binOp,he,a1E]
 . refine⟨.bool (!a.isNone),?_,by rw[show((BinOp.neq==BinOp.neq) !=a.isNone)=!a.isNone by cases a<;>rfl];exact a1l⟩;have hg:(eqGuard .neq t x y (.slice a l c) (.slice none 0 0)).run P w=.ok () w:=(by simp[eqGuard]);simp only[N8,hg,Q8,Go.binOp,he,a1E]
end
end
section
variable{P:Program}{B:Nat}{Z0:Nat→Prop}{G G':Gh}{h h':l5}{w w':World}
theorem b1y(hr:p7 B Z0 G h w){Z':Nat→Prop}(hz:∀b,G.Z b→Z' b){k g gl s o l ver:Nat}{fr:Bool}{es:List PV}{v:Value}(hh:h[k]?=some (g,.arr s ver fr es))(hgl:es.length=gl)(hol:o+l≤gl)(hp:es.all D4=true)
 (hk:∀y,G.R (k,y)→Z' (G.β (k,y))) (hv:j8 G h w D v (.own k g gl s o l)):PR Z' w v (.slc (((es.drop o).take l).map B3)):=by
 have hob:=hr.ob k _ _ hh;unfold E5 at hob;obtain⟨o1,o2,o3,o4,o5⟩:=hob;unfold D at hv;unfold j8 at hv;obtain⟨a,c,rfl,q1,q2,q3,gn,ob,q4,q5,q6⟩:=hv;rw[hh]at q4;cases q4;obtain⟨_,q7⟩:=q6 rfl _ _ _ _ rfl;obtain⟨_,q8,q9⟩:=q7 hgl;have hlen:(((es.drop o).take l).map B3).length=l:=I3;by_cases hl0:l=0
 . subst hl0;refine PR.U2.2 ⟨a,c,0,k7,k7,q2,?_,fun i e he=>by simp at he⟩;rcases q3 with⟨_,h1⟩|⟨b,f,h1⟩
   . exact fun _=>h1
   . intro h2;rw[h1]at h2;cases h2
 . have hR:G.R (root k):=Classical.byContradiction fun hn=>by
    have:=o5 hn;subst this;simp at hgl;omega
   obtain⟨us,T,o6,o7,o8⟩:=o4 hR;obtain⟨f,rfl,q10,_⟩:=q8 hR;have hf:f=o*s:=i9;refine PR.U2.2 ⟨some ⟨G.β (root k),f,none⟩,c,s,by rw[hlen],by rw[hlen];exact q1,q2,fun e=>absurd e k7,fun i e he=>?_⟩;have hil:i<l:=(by grind);rw[H5,a0O,if_pos hil,a3s]at he;obtain⟨e0,he0,rfl⟩:=C5.1 he;obtain⟨o9,o10⟩:=o8 _ e0 he0;rw[a5p];refine⟨by simpa using o9,_,_,rfl,hk none hR,fun j cc hc=>?_⟩;rw[H5]at hc;obtain⟨c0,hc0,rfl⟩:=C5.1 hc;obtain⟨u,o11,o12⟩:=o10 j c0 hc0;have hnr:(A6 c0||I5 c0)=true:=A8.1 (show(l6 e0).all (fun c=>A6 c||I5 c)=true from A8.1 hp e0 (C8 he0)) c0 (C8 hc0);obtain⟨o13,o14⟩:=a6W hz (fun hR'=>hk _ hR') hnr o12;refine⟨o13,u,?_,o14⟩;rw[a0U o6,hf,show o*s+(i*s+j)=(o+i)*s+j by rw[Q9];omega];exact o11
theorem c5v{lk:D6}{p:PV}{news:List PV}{ws:List (Nat×Row)}(h:a2z lk 2 p=some (news,ws)):ws=[]:=by
 cases p<;>simp only[a2z]at h<;>(try (cases h;done))<;>(try (simp only[p9,s6]at h;exact h.2.symm))
 case lst es=>
  split at h
  . grind
  . cases h
 case own k g gl s o l=>
  split at h
  . grind
  . cases h
 case nown k g ver i j o l=>
  (repeat' (split at h))<;>(try (cases h;done))
  simp only[p9,s6]at h;exact h.2.symm
theorem b7p{lk:D6}{p:PV}{news:List PV}{ws:List (Nat×Row)}(h:a1q lk 2 p=some (news,ws)):ws=[]:=by exact c5v (lk:=lk) (p:=p) (news:=news) (by unfold a1q at h;rwa[if_neg H6,if_neg H6]at h)
theorem c6K{s:Sem Next}{v p:PV}{sz:Nat}{ws' ws:List (Nat×Row)}(hg:Good P B Z0 G h w s v ([]++ws'))(ha:a7Q sz v ws'=some (p,ws)):Good P B Z0 G h w s p ws:=by
 unfold a7Q at ha;split at ha
 case h_2=>cases ha
 rename_i k g gl s' o l k' g' sz' ver fr es;split at ha
 case isFalse=>cases ha
 rename_i hc;obtain⟨rfl,rfl,rfl,rfl,rfl,rfl,rfl,rfl,hp⟩:=hc;simp only[p9,s6]at ha;obtain⟨rfl,rfl⟩:=ha;obtain⟨n,u,w1,G1,e1,e2,e3,e4,e5,e6⟩:=hg;simp only[a4E,m6,a2B,List.foldl_nil]at e3 e4 e5;have hkl:k'<h.length:=by have hv:=e5;unfold D at hv;unfold j8 at hv;obtain⟨a,c,_,_,_,_,gn,ob,q4,_⟩:=hv;have:=(B4.1 q4).1;simpa using this
 have hh:(h.set k' (g',Ob.arr sz' ver false es))[k']?=some (g',.arr sz' ver false es):=D7 hkl;obtain⟨f1,f2⟩:=b2y e3 hh hp;have hs:=b1y e3 (Z':=(G1.a2f k').Z) (fun b hb=>.inl hb) hh rfl i9 hp (fun y hR=>.inr ⟨y,hR,rfl⟩) e5;rw[List.drop_zero,J7]at hs;refine⟨n,u,w1,G1.a2f k',e1,e2,?_,?_,a1d hs,e6⟩
 . simp only[m6,a2B,List.foldl_nil];exact f1
 . simp only[m6,a2B,List.foldl_nil];exact e4.trans f2
end
section
variable{x:PV}{n:Nat}{t:TypeId}{v:Value}
section
variable{P:Program}{G:Gh}{h:l5}{w:World}
theorem b5X:∀{ts us:List Nat},(∀t∈ts,t<3)→(∀t∈us,t<3)→a3O ts=a3O us→ts=us
 | [],[],_,_,_=>rfl
 | [],u::us,_,_,e=>by simp only[a3O]at e;omega
 |t::ts,[],_,_,e=>by simp only[a3O]at e;omega
 |t::ts,u::us,h1,h2,e=>by have a1:=h1 t k7;have a2:=h2 u k7;simp only[a3O]at e;have:t=u:=i9;subst this;have:=b5X (ts:=ts) (us:=us) (fun x hx=>h1 x (by simp[hx])) (fun x hx=>h2 x (by simp[hx])) i9;rw[this]
theorem b7r{g:TypeId→Option (List Nat)}(hg:∀t ts,g t=some ts→∀x∈ts,x<3):∀(fs:List Field) (i:Nat) (ts:List Nat),a5B P g i fs=some ts→∀x∈ts,x<3
 | [],i,ts,h,x,hx=>by cases h;simp at hx
 |f::fs,i,ts,h,x,hx=>by
  simp only[a5B]at h;split at h
  . rename_i t1 h1;split at h
    . simp only[C5]at h;obtain⟨t2,h2,rfl⟩:=h;rcases G7.1 hx with hx|hx
      . exact hg _ _ h1 x hx
      . exact b7r hg fs _ _ h2 x hx
    . cases h
  . cases h
theorem b3u:∀(n:Nat) (t:TypeId) (ts:List Nat),a0G P n t=some ts→∀x∈ts,x<3
 |0,t,ts,h=>by simp[a0G]at h
 |n+1,t,ts,h=>by
  simp only[a0G]at h;split at h
  . cases h;simp
  . cases h;simp
  . cases h;simp
  . split at h
    . exact b7r (b3u n) _ _ _ h
    . cases h
  . cases h
theorem b4A{y:PV}{r:Bool}(hs:a0N x y=some r):Q7 x=Q7 y∧Q7 x<3∧∃u v,a0M x=some u∧a0M y=some v∧(r=true→v=u)∧(r=false→v≠u):=by
 cases x<;>cases y<;>simp[a0N]at hs
 case bool.bool a b=>
  subst hs;exact⟨rfl,by simp[Q7],_,_,rfl,rfl,fun e=>by simp at e;rw[e],fun e=>by simp at e;simp;exact fun q=>e q.symm⟩
 case int.int k a k' b=>
  obtain⟨rfl,rfl⟩:=hs;exact⟨rfl,by simp[Q7],_,_,rfl,rfl,fun e=>by simp at e;rw[e],fun e=>by simp at e;simp;exact fun q=>e q.symm⟩
 case str.str a b=>
  subst hs;refine⟨rfl,by simp[Q7],_,_,rfl,rfl,fun e=>by rw[(MapKept.bytes_beq _ _).1 e],fun e q=>?_⟩;simp at q;subst q;rw[(MapKept.bytes_beq _ _).2 rfl]at e;cases e
theorem b4r:∀{l m:List PV} {r:Bool},U8 l m=some r→l.length=m.length
 | [],[],_,_=>rfl
 | [],_::_,_,h=>by simp[U8]at h
 |_::_,[],_,h=>by simp[U8]at h
 |a::l,b::m,r,h=>by
  simp only[U8]at h;split at h
  . rename_i h1 h2;simp[b4r h2]
  . cases h
theorem b8b:∀{l m:List PV} {r:Bool},U8 l m=some r→∃u v,U1 l=some u∧U1 m=some v∧(r=true→v=u)∧(r=false→v≠u)
 | [],[],_,h=>by cases h;exact⟨[],[],rfl,rfl,fun _=>rfl,fun e=>by cases e⟩
 | [],_::_,_,h=>by simp[U8]at h
 |_::_,[],_,h=>by simp[U8]at h
 |a::l,b::m,r,h=>by
  simp only[U8]at h;split at h
  . rename_i x y h1 h2;cases h;obtain⟨_,_,u,v,a1,a2,a3,a4⟩:=b4A h1;obtain⟨us,vs,b1,b2,b3,b4⟩:=b8b h2;refine⟨u::us,v::vs,by simp[U1,a1,b1],by simp[U1,a2,b2],fun e=>?_,fun e=>?_⟩
    all_goals grind
  . cases h
theorem b6v:∀{a b:List PV} {m:List PV} {r:Bool},U8 (a++b) m=some r→∃c d r1 r2,m=c++d∧U8 a c=some r1∧U8 b d=some r2∧r=(r1&&r2)
 | [],b,m,r,h=>⟨[],m,true,r,rfl,rfl,h,k7⟩
 |x::a,b,[],r,h=>by simp[U8]at h
 |x::a,b,y::m,r,h=>by
  simp only[a7I,U8]at h;split at h
  . rename_i p q h1 h2;cases h;obtain⟨c,d,r1,r2,rfl,e1,e2,rfl⟩:=b6v h2;exact⟨y::c,d,p&&r1,r2,rfl,by simp[U8,h1,e1],e2,by simp[Bool.and_assoc]⟩
  . cases h
theorem a8j:∀{cs:List PV} {l:List Value},U1 cs=some l→l.length=cs.length
 | [],_,h=>by cases h;rfl
 |c::cs,l,h=>by
  simp only[U1]at h;split at h
  . rename_i h1 h2;cases h;simp[a8j h2]
  . cases h
theorem b4h:∀{a b:List PV} {l:List Value},U1 (a++b)=some l→∃l1 l2,l=l1++l2∧U1 a=some l1∧U1 b=some l2
 | [],b,l,h=>⟨[],l,rfl,rfl,h⟩
 |x::a,b,l,h=>by
  simp only[a7I,U1]at h;split at h
  . rename_i h1 h2;cases h;obtain⟨l1,l2,rfl,e1,e2⟩:=b4h h2;exact⟨_::l1,l2,rfl,by simp[U1,h1,e1],e2⟩
  . cases h
def a1D(P:Program)(t:TypeId)(x:Value)(l:List Value):Prop:=match P.underlying t with
 |some (.struct _)=>x=.agg l.toArray
 |_=>l=[x]
theorem b4b{off:Nat}{ts:List Nat}{xs:Array Value}{l r:List Value}(hf:a0G P n t=some ts)(hs:H8 P t=some ts.length)(hd:xs.toList.drop off=l++r)(hl:l.length=ts.length):∃u,(part t xs off).run P w=.ok u w∧a1D P t u l:=by
 obtain⟨i,hi,hsz⟩:=a1h hs;have one:∀d,P.underlying t=some d→ts.length=1→(∀fs,d≠ .struct fs)→(∀n e,d≠ .array n e)→∃u,(part t xs off).run P w=.ok u w∧a1D P t u l:=fun d hu h1 hn1 hn2=>by
  match l,hl with
  | [u],_=>
   have hg:xs[off]?=some u:=by have:=congrArg List.head? hd;rw[List.head?_drop]at this;simpa using this
   have ha:(isAgg t).run P w=.ok false w:=by unfold isAgg;simp only[N8,run_underlying hu,Q8];cases d<;>first|rfl|exact absurd rfl (hn1 _)|exact absurd rfl (hn2 _ _)
   refine⟨u,by unfold part;simp[ha,hg],?_⟩;unfold a1D;rw[hu];cases d<;>first|rfl|exact absurd rfl (hn1 _)
  | [],hl=>rw[h1]at hl;simp at hl
  |_::_::_,hl=>rw[h1]at hl;simp at hl
 cases n with
 |zero=>simp[a0G]at hf
 |succ n=>
  simp only[a0G]at hf;split at hf
  . rename_i hu;cases hf;exact one _ hu rfl (fun _ e=>by cases e) (fun _ _ e=>by cases e)
  . rename_i hu;cases hf;exact one _ hu rfl (fun _ e=>by cases e) (fun _ _ e=>by cases e)
  . rename_i hu;cases hf;exact one _ hu rfl (fun _ e=>by cases e) (fun _ _ e=>by cases e)
  . rename_i fs hu;have ha:(isAgg t).run P w=.ok true w:=by
     unfold isAgg;simp only[N8,run_underlying hu,Q8];rfl
    refine⟨.agg (xs.extract off (off+ts.length)),by unfold part;simp[ha,sizeOf,typeInfo,hi,hsz],?_⟩;unfold a1D;rw[hu];simp only[];congr 1;apply Array.ext';rw[Array.toList_extract,List.extract_eq_take_drop,hd,show off+ts.length-off=l.length by omega];simp
  . cases hf
theorem b4N{n d:Nat}(ih:∀(w:World) (t:TypeId) (ts:List Nat),a0G P n t=some ts→∀{cs ds:List PV} {l m:List Value} {r:Bool} {u v:Value},U1 cs=some l→U1 ds=some m→cs.map Q7=ts→U8 cs ds=some r→a1D P t u l→a1D P t v m→(Op.equalIn (d+n) t u v).run P w=.ok r w){xs ys:Array Value}:
 ∀(fs:List Field) (i:Nat) (ts:List Nat),a5B P (a0G P n) i fs=some ts→∀{cs ds:List PV} {l m:List Value} {r:Bool},U1 cs=some l→U1 ds=some m→cs.map Q7=ts→U8 cs ds=some r→xs.toList.drop i=l→ys.toList.drop i=m→(Op.eqFields (d+n) xs ys fs).run P w=.ok r w
 | [],i,ts,hf,cs,ds,l,m,r,h1,h2,h3,h4,_,_=>by
  cases hf;have:cs=[]:=by simpa using h3
  subst this;cases ds with
  |nil=>cases h4;simp[Op.eqFields]
  |cons=>simp[U8]at h4
 |f::fs,i,ts,hf,cs,ds,l,m,r,h1,h2,h3,h4,hx,hy=>by
  simp only[a5B]at hf;split at hf
  . rename_i t1 hg;split at hf
    . rename_i hc;obtain⟨c1,c2,c3⟩:=hc;simp only[C5]at hf;obtain⟨t2,hf2,rfl⟩:=hf;have hcl:(cs.take t1.length).length=t1.length:=by
       have:=congrArg List.length h3;simp at this⊢;omega
      have hcs:cs=cs.take t1.length++cs.drop t1.length:=(a7E _ _).symm;have ht1:(cs.take t1.length).map Q7=t1:=(by rw[a3v,h3];simp);have ht2:(cs.drop t1.length).map Q7=t2:=(by rw[a1H,h3];simp);rw[hcs]at h1 h4;obtain⟨e,g,r1,r2,rfl,s1,s2,rfl⟩:=b6v h4;obtain⟨l1,l2,rfl,k1,k2⟩:=b4h h1;obtain⟨m1,m2,rfl,k3,k4⟩:=b4h h2;have hl1:l1.length=t1.length:=(by rw[a8j k1];exact hcl);have hm1:m1.length=t1.length:=(by rw[a8j k3,←b4r s1];exact hcl);obtain⟨u,p1,p2⟩:=b4b (w:=w) hg c3 hx hl1;obtain⟨v,q1,q2⟩:=b4b (w:=w) hg c3 hy hm1;have e3:=ih w _ _ hg k1 k3 ht1 s1 p2 q2;have e4:=b4N ih fs (i+t1.length) t2 hf2 k2 k4 ht2 s2 (by rw[←a1U,hx,←hl1];simp) (by rw[←a1U,hy,←hm1];simp);simp only[Op.eqFields,if_pos c1,N8,c2,p1,q1,e3,Q8];cases r1
      . simp
      . simp[e4]
    . cases hf
  . cases hf
theorem b9G(d:Nat):∀(n:Nat) (w:World) (t:TypeId) (ts:List Nat),a0G P n t=some ts→∀{cs ds:List PV} {l m:List Value} {r:Bool} {u v:Value},U1 cs=some l→U1 ds=some m→cs.map Q7=ts→U8 cs ds=some r→a1D P t u l→a1D P t v m→(Op.equalIn (d+n) t u v).run P w=.ok r w
 |0,_,_,_,hf=>by simp[a0G]at hf
 |n+1,w,t,ts,hf=>by
  rename_i cs ds l m r u v;intro h1 h2 h3 h4 hu hv;have one:∀k,ts=[k]→k<3→∃a b x y,cs=[a]∧ds=[b]∧l=[x]∧m=[y]∧a0M a=some x∧a0M b=some y∧Q7 a=k∧a0N a b=some r:=fun k hk _=>by
   subst hk
   match cs,h3 with
   | [a],h3=>
    match ds,h4 with
    | [b],h4=>
     simp only[U8]at h4;split at h4
     . rename_i x y e1 e2;cases h4;cases e2;obtain⟨_,_,p,q,a1,a2,_⟩:=b4A e1;simp[U1,a1]at h1;simp[U1,a2]at h2
       grind
     . cases h4
    | [],h4=>simp[U8]at h4
    |_::_::_,h4=>have:=b4r h4;simp at this
  simp only[a0G]at hf;split at hf
  . rename_i hu0;cases hf;obtain⟨a,b,x,y,rfl,rfl,rfl,rfl,a1,a2,a3,a4⟩:=one 0 rfl i9;unfold a1D at hu hv;rw[hu0]at hu hv;cases hu;cases hv;cases a<;>simp[Q7]at a3;cases b<;>simp[a0N]at a4;cases a1;cases a2;subst a4;exact run_equalIn_bool' w (d+n) t _ _ hu0
  . rename_i q hu0;cases hf;obtain⟨a,b,x,y,rfl,rfl,rfl,rfl,a1,a2,a3,a4⟩:=one 1 rfl i9;unfold a1D at hu hv;rw[hu0]at hu hv;cases hu;cases hv;cases a<;>simp[Q7]at a3;cases b<;>simp[a0N]at a4;obtain⟨rfl,rfl⟩:=a4;cases a1;cases a2;exact run_equalIn_int w (d+n) t _ _ _ _ hu0
  . rename_i hu0;cases hf;obtain⟨a,b,x,y,rfl,rfl,rfl,rfl,a1,a2,a3,a4⟩:=one 2 rfl i9;unfold a1D at hu hv;rw[hu0]at hu hv;cases hu;cases hv;cases a<;>simp[Q7]at a3;cases b<;>simp[a0N]at a4;cases a1;cases a2;subst a4;rw[beq_toListBytes];exact run_equalIn_string w (d+n) t _ _ hu0
  . rename_i fs hu0;split at hf
    . rename_i hst;have hfo:P.fieldsOf t=fs:=(by unfold Program.fieldsOf;rw[hu0]);unfold a1D at hu hv;rw[hu0]at hu hv;simp only at hu hv;subst hu hv;rw[show d+(n+1)=(d+n)+1 from rfl,run_equalIn_struct w (d+n) t _ _ (by grind) hst,hfo];exact b4N (fun w t ts hf=>b9G d n w t ts hf) fs.toList 0 ts hf h1 h2 h3 h4 k7 k7
    . cases hf
  . cases hf
theorem b7T(em:Bool)(d:Nat):∀(n:Nat) (w:World) (t:TypeId) (ts:List Nat),a0G P n t=some ts→∀{l:List Value} {u:Value},l.length=ts.length→a1D P t u l→(Instr.checkKey em (d+n) t u).run P w=.ok () w
 |0,_,_,_,hf=>by simp[a0G]at hf
 |n+1,w,t,ts,hf=>by
  rename_i l u;intro hl hu;rw[show d+(n+1)=(d+n)+1 from rfl];simp only[a0G]at hf;split at hf
  . rename_i h0;unfold Instr.checkKey;simp only[N8,run_underlying h0,Q8];simp
  . rename_i h0;unfold Instr.checkKey;simp only[N8,run_underlying h0,Q8];simp
  . rename_i h0;unfold Instr.checkKey;simp only[N8,run_underlying h0,Q8];simp
  . rename_i fs h0;split at hf
    . unfold a1D at hu;rw[h0]at hu;simp only at hu;subst hu;unfold Instr.checkKey;simp only[N8,run_underlying h0,Q8];rw[←Array.forIn_toList];generalize fs.toList=L at hf;have key:∀(L:List Field) (i:Nat) (ts:List Nat) (l':List Value),a5B P (a0G P n) i L=some ts→l.drop i=l'→l'.length=ts.length→
       ((forIn L PUnit.unit fun f _=>
        if f.name≠ "_" then do
         let x ←part f.type l.toArray f.offset
         Instr.checkKey em (d+n) f.type x
         pure (ForInStep.yield PUnit.unit)
        else pure (ForInStep.yield PUnit.unit):Sem PUnit).run P w).andThen (fun _ w'=>(pure ():Sem Unit).run P w')=.ok () w:=by
       intro L
       induction L with
       |nil=>intro i ts l' _ _ _;simp
       |cons f L ih=>
        intro i ts l' hf hd hl;simp only[a5B]at hf;split at hf
        . rename_i t1 hg;split at hf
          . rename_i hc;obtain⟨c1,c2,c3⟩:=hc;simp only[C5]at hf;obtain⟨t2,hf2,rfl⟩:=hf;have hl1:(l'.take t1.length).length=t1.length:=(by grind);obtain⟨u,p1,p2⟩:=b4b (w:=w) (xs:=l.toArray) (off:=i) (l:=l'.take t1.length) (r:=l'.drop t1.length) hg c3 (by simpa using hd) hl1;have p3:=b7T em d n w _ _ hg hl1 p2;have p4:=ih (i+t1.length) t2 (l'.drop t1.length) hf2 (by rw[←a1U,hd]) (by grind);simp only[List.forIn_cons,N8,c1,ne_eq,not_false_eq_true,if_true,c2,Q8,p1,p3,a1E];exact p4
          . cases hf
        . cases hf
      grind
    . cases hf
  . cases hf
theorem b1j(hk:a6J P t=some n):n≠3∧((∃d,P.underlying t=some d∧(d=.bool∧n=0∨(∃q,d=.int q)∧n=1∨d=.string∧n=2))∨∃fs ts,P.underlying t=some (.struct fs)∧a0G P 3 t=some ts∧n=4+a3O ts):=by
 unfold a6J at hk;split at hk
 . grind
 . grind
 . grind
 . simp only[C5]at hk
   grind
 . cases hk
theorem b8B:∀{cs:List PV},(∀c∈cs,Q7 c≠3)→∃l,U1 cs=some l
 | [],_=>⟨[],rfl⟩
 |c::cs,h=>by
  obtain⟨l,hl⟩:=b8B (cs:=cs) fun x hx=>h x (by simp[hx]);have hc:=h c k7;obtain⟨v,hv⟩:∃v,a0M c=some v:=by cases c<;>simp[Q7]at hc<;>exact⟨_,rfl⟩
  exact⟨v::l,by simp only[U1,hv,hl]⟩
theorem b2t(ht:a1L x≠3):∃v,a1o x=some v:=by
 by_cases ha:∃cs,x=.agg cs
 . obtain⟨cs,rfl⟩:=ha;simp only[a1L]at ht;split at ht
   . rename_i ha;obtain⟨l,hl⟩:=b8B (cs:=cs) fun c hc=>(by simpa using A8.1 ha c hc);exact⟨.agg l.toArray,by simp[a1o,hl]⟩
   . exact absurd rfl ht
 . cases x<;>first|exact absurd ⟨_,rfl⟩ ha|exact absurd rfl ht|exact⟨_,rfl⟩
theorem b6u{cs:List PV}{ts:List Nat}(hts:∀t∈ts,t<3)(ht:a1L (.agg cs)=4+a3O ts):cs.map Q7=ts:=by
 simp only[a1L]at ht;split at ht
 . rename_i ha;refine b5X (fun t hm=>?_) hts i9;obtain⟨c,hc,rfl⟩:=E9.1 hm;have:=A8.1 ha c hc;cases c<;>simp[Q7]at this⊢
 . omega
theorem c0d{m:Nat}(ht:a1L x=4+m):∃cs,x=.agg cs:=by cases x<;>simp only[a1L,Q7]at ht<;>first|omega|exact⟨_,rfl⟩
theorem c9C(ht:a1L x<3):a1L x=Q7 x∧a1o x=a0M x∧∀cs,x≠ .agg cs:=by cases x<;>first|exact⟨rfl,rfl,fun _ e=>by cases e⟩|(simp only[a1L]at ht;split at ht<;>omega)
theorem a7s(hk:a6J P t=some n)(ht:a1L x=n)(hv:a1o x=some v)(e:Bool):(Instr.checkKey e 10000 t v).run P w=.ok () w:=by
 obtain⟨_,⟨d,h0,h1⟩|⟨fs,ts,h0,h1,rfl⟩⟩:=b1j hk
 . unfold Instr.checkKey;simp only[N8,run_underlying h0,Result.andThen];rcases h1 with⟨rfl,_⟩|⟨⟨q,rfl⟩,_⟩|⟨rfl,_⟩<;>simp
 . obtain⟨cs,rfl⟩:=c0d ht;have hm:=b6u (b3u 3 t ts h1) ht;simp only[a1o,C5]at hv;obtain⟨l,hl,rfl⟩:=hv;exact b7T e 9997 3 w t ts h1 (l:=l) (by rw[a8j hl,←hm];simp) (by unfold a1D;rw[h0])
def a5X:TypeDesc→Nat
 | .bool=>0
 | .int _=>1
 | .string=>2
 |_=>3
theorem b9Y{d:TypeDesc}{y:PV}{kx ky:Value}{b:Bool}(hx:a0M x=some kx)(hy:a0M y=some ky)(ht:a5X d=Q7 x)(hs:a0N x y=some b):Instr.sameNow d kx ky=some b∧(b=true→ky=kx):=by
 cases x<;>simp[a0M]at hx<;>cases y<;>simp[a0M]at hy<;>simp[a0N]at hs
 case bool.bool=>
  subst hx hy;cases d<;>simp[a5X,Q7]at ht;refine⟨by simp[Instr.sameNow,hs],fun hb=>?_⟩;rw[←hs]at hb;have hb':=by simpa using hb
  rw[hb']
 case int.int=>
  subst hx hy;obtain⟨rfl,hs⟩:=hs;cases d<;>simp[a5X,Q7]at ht;refine⟨by simp[Instr.sameNow,hs],fun hb=>?_⟩;rw[←hs]at hb;have hb':=by simpa using hb
  rw[hb']
 case str.str=>
  subst hx hy;cases d<;>simp[a5X,Q7]at ht;refine⟨by simp[Instr.sameNow,hs],fun hb=>?_⟩;rw[←hs]at hb;rw[(MapKept.bytes_beq _ _).1 hb]
theorem b6F{d:TypeDesc}{x:PV}{key:Value}(hx:a0M x=some key)(hp:∀cs,x≠ .agg cs)(ht:a5X d=Q7 x):∀(ks:List PV) (l:List MapEntry) (i:Nat) (r:Option Nat),l.length=ks.length→(∀(j:Nat) y,ks[j]?=some y→∃e,l[j]?=some e∧a1o y=some e.key)→W9 x ks i=some r→
 (r=none→Instr.findNow d key l i=some none)∧∀j,r=some j→i≤j∧∃e,l[j-i]?=some e∧e.key=key∧Instr.findNow d key l i=some (some (j,e.val))
 | [],l,i,r,hl,_,hm=>by
  obtain rfl:l=[]:=a0Q.1 hl;simp[W9]at hm;subst hm;exact⟨fun _=>rfl,fun j e=>by cases e⟩
 |y::ks,[],i,r,hl,_,_=>by simp at hl
 |y::ks,e::l,i,r,hl,hv,hm=>by
  obtain⟨e',he',hk⟩:=hv 0 y rfl;simp at he';subst he';unfold W9 at hm;have hsk:a0w x y=a0N x y:=by cases x<;>first|rfl|exact absurd rfl (hp _)
  rw[hsk]at hm;have hk0:∀b,a0N x y=some b→a0M y=some e.key:=fun b hb=>by obtain⟨_,_,u,v,_,a2,_⟩:=b4A hb;cases y<;>first|exact hk|(simp[a0M]at a2)
  split at hm
  . rename_i hs;obtain⟨s1,s2⟩:=b9Y hx (hk0 _ hs) ht hs;simp at hm;subst hm;refine⟨fun h=>(by cases h),fun j hj=>?_⟩;cases hj;exact⟨m0 _,e,k7,s2 rfl,by simp[Instr.findNow,s1]⟩
  . rename_i hs;obtain⟨s1,_⟩:=b9Y hx (hk0 _ hs) ht hs;obtain⟨q1,q2⟩:=b6F hx hp ht ks l (i+1) r (by simpa using hl) (fun j z hz=>hv (j+1) z (by simpa using hz)) hm;refine⟨fun hr=>by simp[Instr.findNow,s1,q1 hr],fun j hj=>?_⟩;obtain⟨q3,e',q4,q5,q6⟩:=q2 j hj;exact⟨i9,e',by rw[show j-i=j-(i+1)+1 by omega];simpa using q4,q5,by simp[Instr.findNow,s1,q6]⟩
  . cases hm
theorem b8i{t:TypeId}{fs:Array Field}{ts:List Nat}{cs:List PV}{ls:List Value}(h0:P.underlying t=some (.struct fs))(h1:a0G P 3 t=some ts)(hc:U1 cs=some ls)(hts:cs.map Q7=ts):∀(ks:List PV) (l:List MapEntry) (i:Nat) (r:Option Nat),l.length=ks.length→(∀(j:Nat) y,ks[j]?=some y→∃e,l[j]?=some e∧a1o y=some e.key)→W9 (.agg cs) ks i=some r→
 (r=none→(Instr.findAsking t (.agg ls.toArray) l i).run P w=.ok none w)∧∀j,r=some j→i≤j∧∃e,l[j-i]?=some e∧e.key=.agg ls.toArray∧(Instr.findAsking t (.agg ls.toArray) l i).run P w=.ok (some (j,e.val)) w
 | [],l,i,r,hl,_,hm=>by
  obtain rfl:l=[]:=a0Q.1 hl;simp[W9]at hm;subst hm;exact⟨fun _=>by simp[Instr.findAsking],fun j e=>by cases e⟩
 |y::ks,[],i,r,hl,_,_=>by simp at hl
 |y::ks,e::l,i,r,hl,hv,hm=>by
  obtain⟨e',he',hk⟩:=hv 0 y rfl;simp at he';subst he';unfold W9 at hm;have step:∀b,a0w (.agg cs) y=some b→(Op.equal t (.agg ls.toArray) e.key).run P w=.ok b w∧(b=true→e.key=.agg ls.toArray):=fun b hb=>by
   cases y with
   |agg ds=>
    simp only[a0w]at hb;obtain⟨u,v,a1,a2,a3,_⟩:=b8b hb;rw[hc]at a1;cases a1;simp only[a1o,a2,a2U,p9]at hk;rw[←hk];exact⟨b9G 9997 3 w t ts h1 hc a2 hts hb (by unfold a1D;rw[h0]) (by unfold a1D;rw[h0]),fun e=>by rw[a3 e]⟩
   |_=>simp[a0w,a0N]at hb
  split at hm
  . rename_i hs;obtain⟨s1,s2⟩:=step _ hs;simp at hm;subst hm;refine⟨fun h=>(by cases h),fun j hj=>?_⟩;cases hj;exact⟨m0 _,e,k7,s2 rfl,by simp[Instr.findAsking,s1]⟩
  . rename_i hs;obtain⟨s1,_⟩:=step _ hs;obtain⟨q1,q2⟩:=b8i h0 h1 hc hts ks l (i+1) r (by simpa using hl) (fun j z hz=>hv (j+1) z (by simpa using hz)) hm;refine⟨fun hr=>by simp[Instr.findAsking,s1,q1 hr],fun j hj=>?_⟩;obtain⟨q3,e',q4,q5,q6⟩:=q2 j hj;exact⟨i9,e',by rw[show j-i=j-(i+1)+1 by omega];simpa using q4,q5,by simp[Instr.findAsking,s1,q6]⟩
  . cases hm
theorem find_spec{key:Value}(hk:a6J P t=some n)(ht:a1L x=n)(hx:a1o x=some key){ks:List PV}{l:List MapEntry}{r:Option Nat}(hl:l.length=ks.length)(hv:∀(j:Nat) y,ks[j]?=some y→∃e,l[j]?=some e∧a1o y=some e.key)(hm:W9 x ks 0=some r):
 (r=none→(Instr.findKey t key l).run P w=.ok none w)∧∀j,r=some j→∃e,l[j]?=some e∧e.key=key∧(Instr.findKey t key l).run P w=.ok (some (j,e.val)) w:=by
 obtain⟨_,⟨d,h0,h1⟩|⟨fs,ts,h0,h1,rfl⟩⟩:=b1j hk
 . have hlt:a1L x<3:=by rcases h1 with⟨_,h⟩|⟨_,h⟩|⟨_,h⟩<;>omega
   obtain⟨p1,p2,p3⟩:=c9C hlt;have hd:a5X d=Q7 x:=by rcases h1 with⟨rfl,h⟩|⟨⟨q,rfl⟩,h⟩|⟨rfl,h⟩<;>simp only[a5X]<;>omega
   obtain⟨q1,q2⟩:=b6F (d:=d) (by rw[←p2];exact hx) p3 hd ks l 0 r hl hv hm;refine⟨fun e=>MapKept.run_findKey h0 (q1 e),fun j hj=>?_⟩;obtain⟨_,e,a1,a2,a3⟩:=q2 j hj;exact⟨e,by simpa using a1,a2,MapKept.run_findKey h0 a3⟩
 . obtain⟨cs,rfl⟩:=c0d ht;have hmm:=b6u (b3u 3 t ts h1) ht;simp only[a1o,C5]at hx;obtain⟨ls,hls,rfl⟩:=hx;obtain⟨q1,q2⟩:=b8i (w:=w) h0 h1 hls hmm ks l 0 r hl hv hm;have hw:(match P.underlying t with|some (.array _ _)|some (.struct _)=>true|_=>false)=true:=(by rw[h0]);refine⟨fun e=>by rw[run_findKey_eq w hw];exact q1 e,fun j hj=>?_⟩;obtain⟨_,e,a1,a2,a3⟩:=q2 j hj;exact⟨e,by simpa using a1,a2,by rw[run_findKey_eq w hw];exact a3⟩
theorem b7F(hx:a0M x=some v)(n:Nat):Instr.sameBits n v v=true:=by cases x<;>simp[a0M]at hx<;>subst hx<;>cases n<;>simp[Instr.sameBits,(MapKept.bytes_beq _ _).2 rfl]
theorem b7U{n:Nat}:∀{cs:List PV} {l:List Value},U1 cs=some l→(l.zip l).all (fun p=>Instr.sameBits n p.1 p.2)=true
 | [],l,h=>by cases h;rfl
 |c::cs,l,h=>by
  simp only[U1]at h;split at h
  . rename_i h1 h2;cases h;simp only[List.zip_cons_cons,List.all_cons,b7F h1,b7U h2,Bool.and_self]
  . cases h
theorem c7o{key:Value}(hx:a1o x=some key):(Instr.keyThatStays key key).run P w=.ok key w:=by
 have:Instr.sameBits 10000 key key=true:=by
  by_cases ha:∃cs,x=.agg cs
  . obtain⟨cs,rfl⟩:=ha;simp only[a1o,C5]at hx;obtain⟨l,hl,rfl⟩:=hx;show Instr.sameBits (9999+1) _ _=true;have:=b7U (n:=9999) hl;simpa[Instr.sameBits]using this
  . exact b7F (x:=x) (by cases x<;>first|exact hx|exact absurd ⟨_,rfl⟩ ha) 10000
 simp[Instr.keyThatStays,this]
theorem b7V{u:Value}(hx:a0M x=some v)(hu:j8 G h w n u x):u=v:=by
 cases x<;>simp[a0M]at hx<;>subst hx
 . exact a1c hu
 . exact V0 hu
 . exact a2q hu
theorem c3a{vs:Array Value}:∀{cs:List PV} {l:List Value},U1 cs=some l→(∀(i:Nat) c,cs[i]?=some c→∃u,vs[i]?=some u∧j8 G h w n u c)→vs.size=cs.length→vs.toList=l:=by
 intro cs l hl hv hs;apply a4F;intro i;by_cases hi:i<cs.length
 . obtain⟨u,h1,h2⟩:=hv i _ (l9 hi);have:∀{cs:List PV} {l:List Value} (i:Nat) (c:PV),U1 cs=some l→cs[i]?=some c→∃v,l[i]?=some v∧a0M c=some v:=by
    intro cs
    induction cs with
    |nil=>intro l i c _ hc;simp at hc
    |cons a cs ih=>
     intro l i c hk hc;simp only[U1]at hk;split at hk
     . grind
     . cases hk
   obtain⟨v,h3,h4⟩:=this i _ hl (l9 hi);rw[h3,←b7V h4 h2];simpa using h1
 . have h1:l.length≤i:=by rw[a8j hl];omega
   grind
theorem b4k{u:Value}(hx:a1o x=some v)(hu:j8 G h w D u x):u=v:=by
 by_cases ha:∃cs,x=.agg cs
 . obtain⟨cs,rfl⟩:=ha;simp only[a1o,C5]at hx;obtain⟨l,hl,rfl⟩:=hx;obtain⟨vs,rfl,h1,h2⟩:=a4K hu;have:=c3a hl h2 h1;congr 1
   grind
 . exact b7V (x:=x) (by cases x<;>first|exact hx|exact absurd ⟨_,rfl⟩ ha) hu
end
end
open Go.RowKit Go.MapKept
section
variable{k g n s q q' i b:Nat}{ks vs ks' vs':List PV}{es es':Array MapEntry}{c z p px pm:PV}{hide:List Nat}{v m x u:Value}{t:TypeId}{ws:List (Nat×Row)}
section
variable{P:Program}{B:Nat}{Z0:Nat→Prop}{G G':Gh}{h h':l5}{w w':World}
theorem a1K.list(hk:a1K es ks):es.toList.length=ks.length∧∀(j:Nat) y,ks[j]?=some y→∃e,es.toList[j]?=some e∧a1o y=some e.key:=
 ⟨by simpa using hk.1,fun j y hy=>by obtain⟨e,h1,h2⟩:=hk.2 j y hy;exact⟨e,by simpa using h1,h2⟩⟩
theorem a1K.modify{es:Array MapEntry}{ks:List PV}(hk:a1K es ks)(i:Nat)(f:MapEntry→MapEntry)(h1:∀e,es[i]?=some e→(f e).key=e.key):a1K (es.modify i f) ks:=by
 refine⟨by simpa using hk.1,fun j x hx=>?_⟩;obtain⟨e,a1,a2⟩:=hk.2 j x hx
 grind
theorem a1K.push{es:Array MapEntry}{ks:List PV}(hk:a1K es ks){x:PV}{e0:MapEntry}(hx:a1o x=some e0.key):a1K (es.push e0) (ks++[x]):=by
 refine⟨by simp[hk.1],fun j y hy=>?_⟩;by_cases hj:j<ks.length
 . rw[a0R hj]at hy;obtain⟨e,a1,a2⟩:=hk.2 j y hy
   grind
 . have hj2:j=ks.length:=by
    have:=(B4.1 hy).1;simp at this;omega
   subst hj2;rw[a3X (m0 _),a6B]at hy;cases hy;exact⟨e0,by rw[←hk.1];simp,hx⟩
theorem Bl.b5A{r c:Nat}(hB:B≤r)(hb:w.heap[r]?=some (.map es c))(o:Obj):Bl B w {w with heap:=w.heap.setIfInBounds r o}:=by
 refine⟨⟨rfl,rfl,rfl,k7,fun k hk=>(heap_set hb).2 k i9⟩,fun k ob h1 h2=>?_⟩;by_cases hk:k=r
 . subst hk;rw[hb]at h1;cases h1;cases h2
 grind
theorem c0k(hr:p7 B Z0 G h w)(hh:h[k]?=some (g,.mp false ks vs))(hb:w.heap[G.β (root k)]?=some (.map es q))(h1:a1K es' ks')(h2:ks'.length=vs'.length)
 (h3:∀(i:Nat) c,vs'[i]?=some c→∃e,es'[i]?=some e∧a0b G h w k i e.val c):
 p7 B Z0 G (h.set k (g,.mp false ks' vs')) {w with heap:=w.heap.setIfInBounds (G.β (root k)) (.map es' q')}∧Ext G h w G (h.set k (g,.mp false ks' vs')) {w with heap:=w.heap.setIfInBounds (G.β (root k)) (.map es' q')}∧
  Bl B w {w with heap:=w.heap.setIfInBounds (G.β (root k)) (.map es' q')}:=by
 have hk:k<h.length:=(B4.1 hh).1;have hob:=hr.ob k g _ hh;unfold E5 at hob;obtain⟨hR,_⟩:=hob;have hs1:=(heap_set (o':=.map es' q') hb).1;have hs2:=(heap_set (o':=.map es' q') hb).2;have x:Ext G h w G (h.set k (g,.mp false ks' vs')) {w with heap:=w.heap.setIfInBounds (G.β (root k)) (.map es' q')}:=by
  refine⟨fun _ y=>y,fun b hz=>hs2 b fun e=>hr.nz k g _ hh rfl none hR (e▸hz),fun k' gn ob e=>?_⟩;by_cases hkk:k'=k
  . subst hkk;rw[hh]at e;cases e;exact⟨g,_,D7 hk,m0 _,fun _=>⟨fun _ _ _ _ e'=>(by cases e'),fun _ e'=>(by cases e'),fun _ _ _ _=>⟨_,_,_,rfl,B8.refl _ _⟩⟩⟩
  . exact⟨gn,ob,by rw[D9 (Ne.symm hkk)];exact e,m0 _,fun _=>K5.refl k' ob (B8.refl _ _) fun i j=>B8.refl _ _⟩
 have hother:∀k' y,(k',y)≠root k→G.R (k',y)→(w.heap.setIfInBounds (G.β (root k)) (.map es' q'))[G.β (k',y)]?=w.heap[G.β (k',y)]?:=fun k' y hne hR'=>hs2 _ fun e=>hne (hr.inj _ _ hR' hR e);refine⟨hr.update k g _ hk x (fun _ _ _=>.inl (B8.refl _ _)) (fun k' y hkk hR'=>hother k' y (fun e=>hkk (congrArg Prod.fst e)) hR') k7 (fun b hz=>(hr.zb b hz).eq (x.zw b hz)) (fun b hb=>.inl hb) (fun _ _ _ _ hn=>hn) (fun y hR'=>?_) (fun e=>by cases e) ?_,x,Bl.b5A (hr.lv _ hR).1 hb _⟩
 . obtain⟨b1,b2⟩:=hr.lv _ hR';refine⟨b1,?_,fun _=>hr.nz k g _ hh rfl y hR',fun y' hR2 e=>congrArg Prod.snd (hr.inj _ _ hR' hR2 e),fun k' y' hkk hR2 e=>hkk (congrArg Prod.fst (hr.inj _ _ hR' hR2 e)).symm⟩;cases y with
   |none=>exact⟨_,hs1,rfl⟩
   |some ij=>exact b2.eq (hother k _ k7 hR')
 . unfold E5;refine⟨hR,h2,es',q',hs1,h1,fun i c hc=>?_⟩;obtain⟨e,a1,a2⟩:=h3 i c hc;exact⟨e,a1,a2.ext x (B8.refl _ _) fun hR'=>hother k _ k7 hR'⟩
theorem a9r(hr:p7 B Z0 G h w){fr:Bool}(hh:h[k]?=some (g,.mp fr ks vs))(hm:j8 G h w D m (.mapv k g)):
 m=.map (some (G.β (root k)))∧ks.length=vs.length∧∃es q,w.heap[G.β (root k)]?=some (.map es q)∧a1K es ks∧∀(i:Nat) c,vs[i]?=some c→∃e,es[i]?=some e∧a0b G h w k i e.val c:=by
 have hob:=hr.ob k g _ hh;unfold E5 at hob;obtain⟨_,o1,o2⟩:=hob;unfold D at hm;unfold j8 at hm;obtain⟨b,rfl,gn,ob,q1,_,q2⟩:=hm;rw[hh]at q1;cases q1;rw[q2 rfl _ _ _ rfl];exact⟨rfl,o1,o2⟩
theorem b1V(hc:mvR c=true):∀ns,c≠ .uslc ns:=fun ns e=>by subst e;simp[mvR,A6,fn0]at hc
theorem a4M(hc:∀ns,c≠ .uslc ns):a0b G h w k i u c↔j8 G h w D u c:=by cases c<;>first|exact absurd rfl (hc _)|(unfold a0b;exact Iff.rfl)
def Gh.drp(G:Gh)(k i:Nat):Gh:={G with R:=fun key=>key≠nest k i 0∧G.R key}
theorem a4n{G:Gh}{key:Key}(h:key≠nest k i 0):B8 G (G.drp k i) key:=⟨rfl,⟨fun x=>x.2,fun x=>⟨h,x⟩⟩,rfl,rfl⟩
def Gh.a0l(G:Gh)(k b γ0:Nat):Gh:=
 {G with β:=fun key=>if key=root k then b else G.β key
         R:=fun key=>key=root k∨key.1≠k∧G.R key
         γ:=fun key=>if key=root k then γ0 else G.γ key}
theorem b0z{G:Gh}{γ0 k':Nat}{y:Option (Nat×Nat)}(h:k'≠k):B8 G (G.a0l k b γ0) (k',y):=by have hne:((k',y):Key)≠root k:=fun e=>h (congrArg Prod.fst e);exact⟨by simp[Gh.a0l,hne],⟨fun x=>(x.resolve_left hne).2,fun x=>.inr ⟨h,x⟩⟩,by simp[Gh.a0l,hne],rfl⟩
theorem b4a{G:Gh}{h:l5}{w:World}(hr:p7 B Z0 G h w){γ0 sz:Nat}{ns:List PV}{us:Array Value}{T:TypeId}(hh:h[k]?=some (g,.dead))(hB:B≤b)(hz:¬G.Z b)(hfree:∀key,G.R key→G.β key≠b)
 (hw:w.heap[b]?=some (.cells us T (0,0))) (h1:ns.length≤γ0) (h2:γ0≤maxLen) (hsz:0<sz) (h3:us.size=γ0*sz)
 (h4:∀(i:Nat) e,ns[i]?=some e→(l6 e).length=sz∧∀(j:Nat) c,(l6 e)[j]?=some c→one c=true∧∃v,us[i*sz+j]?=some v∧PR G.Z w v c):
 p7 B Z0 (G.a0l k b γ0) (h.set k (g+1,.arr sz 0 false ns)) w∧Ext G h w (G.a0l k b γ0) (h.set k (g+1,.arr sz 0 false ns)) w:=by
 have hk:k<h.length:=(B4.1 hh).1;have hb:(G.a0l k b γ0).β (root k)=b:=by simp[Gh.a0l]
 have hγ:(G.a0l k b γ0).γ (root k)=γ0:=by simp[Gh.a0l]
 have x:Ext G h w (G.a0l k b γ0) (h.set k (g+1,.arr sz 0 false ns)) w:=by
  refine⟨fun _ y=>y,fun _ _=>rfl,fun k' gn ob e=>?_⟩;by_cases hkk:k'=k
  . subst hkk;rw[hh]at e;cases e;exact⟨g+1,_,D7 hk,i9,fun e=>i9⟩
  . exact⟨gn,ob,by rw[D9 (Ne.symm hkk)];exact e,m0 _,fun _=>K5.refl k' ob (b0z hkk) fun i j=>b0z hkk⟩
 have only:∀y,(G.a0l k b γ0).R (k,y)→y=none:=fun y hR=>by
  rcases hR with e|⟨e,_⟩
  . exact congrArg Prod.snd e
  . exact absurd rfl e
 refine⟨hr.update k (g+1) _ hk x (fun k' y hkk=>.inl (b0z hkk)) (fun _ _ _ _=>rfl) (m0 _) (fun b hb=>hr.zb b hb) (fun b hb=>.inl hb) (fun _ _ _ _ hn=>hn) (fun y hR=>?_) (fun e=>by cases e) ?_,x⟩
 . obtain rfl:=only y hR;rw[show(G.a0l k b γ0).β (k,none)=b from hb];refine⟨hB,V6.of hw,fun _=>hz,fun y' hR' _=>(only y' hR').symm,fun k' y' hkk hR' e=>?_⟩;obtain⟨a1,a2,_⟩:=b0z (G:=G) (b:=b) (γ0:=γ0) (y:=y') hkk;rw[a1]at e;exact hfree _ (a2.1 hR') e.symm
 . unfold E5;rw[hb,hγ];refine⟨hsz,h1,h2,fun _=>⟨us,T,hw,h3,fun i e he=>?_⟩,fun hn=>absurd (.inl rfl) hn⟩;obtain⟨q1,q2⟩:=h4 i e he;refine⟨q1,fun j c hc=>?_⟩;obtain⟨q3,v,q4,q5⟩:=q2 j c hc;refine⟨v,q4,?_⟩;have hv:=a1y (G:=G.a0l k b γ0) (h:=h.set k (g+1,.arr sz 0 false ns)) q3 q5;revert q3 hv;cases c<;>intro q3 hv<;>first|(simp[one,T6]at q3;done)|(unfold F9;exact⟨q3,hv⟩)
theorem b2A(hk:mapA P t=some (n,z,s)):∃kt et,P.underlying t=some (.map kt et)∧a6J P kt=some n∧n≠3∧a0c P et=some z:=by
 unfold mapA at hk;split at hk
 . rename_i kt et hu;split at hk
   . rename_i n' z' h1 h2;cases hk;exact⟨kt,et,hu,h1,(b1j h1).1,h2⟩
   . cases hk
 . cases hk
theorem b8l{α:Type}{l:List α}{a:α}(h:l[k]?=some a):l.set k a=l:=by obtain⟨hk,hg⟩:=B4.1 h;rw[←hg];exact b4I hk
theorem b9q(hr:p7 B Z0 G h w)(hk:k<h.length∧hide.contains k=false)(t:TypeId){r:Option Value}(hrun:(Instr.makeMap t r).run P w=.ok (.map (some w.heap.size)) (w.alloc (.map #[] 0))):
 Good P B Z0 G h w (do pure (.value (←Instr.makeMap t r))) (.mapv k ((l8 h hide k).1+1)) [(k,((l8 h hide k).1+1,.mp false [] []))]:=by
 obtain⟨⟨g,old⟩,hh⟩:∃r,h[k]?=some r:=⟨_,l9 hk.1⟩
 rw[a6p hk.2 hh];obtain⟨h1,h2⟩:=b1o (w':=w.alloc (.map #[] 0)) (o':=.mp false [] []) hr hh (ob:=.map #[] 0) rfl 0 rfl (fun e=>by cases e) (fun x=>by unfold E5;refine⟨by simp[Gh.put],rfl,#[],0,?_,⟨rfl,k7⟩,k7⟩;rw[show(G.put k w.heap.size 0).β (root k)=w.heap.size by simp[Gh.put]];exact heap_alloc_new w _)
 refine⟨.value (.map (some w.heap.size)),_,w.alloc (.map #[] 0),_,by simp[hrun,Result.andThen],.inl rfl,h1,h2,?_,a5z hr _⟩;unfold D;unfold j8;refine⟨_,rfl,g+1,.mp false [] [],D7 hk.1,m0 _,fun _ _ _ _ e=>?_⟩;simp[Gh.put]
theorem b9b(ho:(l6 c).all one=true)(hv:j8 G h w D v c):j8 G h w 5 v c:=by
 by_cases hc:∃cs,c=.agg cs
 . obtain⟨cs,rfl⟩:=hc;obtain⟨vs,rfl,h1,h2⟩:=a4K hv;unfold j8;refine⟨vs,rfl,h1,fun i x hx=>?_⟩;obtain⟨u,h3,h4⟩:=h2 i x hx;exact⟨u,h3,one_cell (A8.1 ho x (C8 hx)) h4⟩
 . have:l6 c=[c]:=by cases c<;>first|rfl|exact absurd ⟨_,rfl⟩ hc
   rw[this]at ho;exact one_cell (by simpa using ho) hv
theorem c5J(hc:mvR c=true)(hv:j8 G h w D v c):j8 G h w 5 v c:=by
 by_cases hf:∃f a b,c=.fn f a b
 . obtain⟨f,a,b,rfl⟩:=hf;have hfn:a=[]∧b=[]:=by
    simp only[mvR,A6,Bool.false_or]at hc;unfold fn0 at hc;split at hc
    . rename_i e;cases e;exact⟨rfl,rfl⟩
    . cases hc
   obtain⟨rfl,rfl⟩:=hfn;obtain⟨vs,us,rfl,h1,h2⟩:=a8C hv;unfold j8;exact⟨vs,us,rfl,⟨h1.1,fun i c hc=>by simp at hc⟩,⟨h2.1,fun i c hc=>by simp at hc⟩⟩
 . refine b9b ?_ hv;cases c<;>simp[mvR,A6,fn0,l6,one,T6]at hc⊢
   all_goals grind
theorem b7a{q:PV}(h1:j8 G h w 5 u p)(h2:j8 G h w 5 v q):j8 G h w D (.tuple #[u,v]) (.tup [p,q]):=by
 unfold D;unfold j8;refine⟨_,rfl,rfl,fun i c hc=>?_⟩
 match i,hc with
 |0,hc=>simp at hc;subst hc;exact⟨u,rfl,h1⟩
 |1,hc=>simp at hc;subst hc;exact⟨v,rfl,h2⟩
 |i+2,hc=>simp at hc
theorem b1b(hr:p7 B Z0 G h w){ok:Bool}(ht:mapA P t=some (n,z,s))(hm:(m=.map none∧es= #[])∨∃r,m=.map (some r)∧w.heap[r]?=some (.map es q))(hx:j8 G h w D x px)
 (hK:a1K es ks) (hvs:∀(i:Nat) c,vs[i]?=some c→mvR c=true→∃e,es[i]?=some e∧j8 G h w D e.val c) (ha:a3z n ok z px ks vs=some (p,ws)):
 Good P B Z0 G h w (do pure (.value (←Instr.lookup t m x ok))) p ws:=by
 obtain⟨kt,et,u1,u2,u4,u5⟩:=b2A ht;unfold a3z at ha;split at ha
 case isFalse=>cases ha
 rename_i hc;obtain⟨c3,c4⟩:=hc;obtain⟨key,hkey⟩:=b2t (x:=px) (by rw[c3];exact u4);obtain rfl:=b4k hkey hx;obtain⟨l1,l2⟩:=hK.list;have hgo:∀{a:Option (Nat×Value)} {r:Value},(Instr.findKey kt x es.toList).run P w=.ok a w→(∀y,a=some y→r=(if ok then .tuple #[y.2,.bool true]else y.2))→(a=none→∃zv,(zeroValue et).run P w=.ok zv w∧r=(if ok then .tuple #[zv,.bool false]else zv))→(Instr.lookup t m x ok).run P w=.ok r w:=by
  intro a r hf hs hn;have hft:=hf;rcases hm with⟨rfl,rfl⟩|⟨r0,rfl,hb⟩
  . cases a with
    |none=>
     obtain⟨zv,z1,rfl⟩:=hn rfl;simp[Instr.lookup,run_underlying u1,a7s u2 c3 hkey,z1,Result.andThen]at hft⊢;simp[hft,z1,Result.andThen]
    |some y=>
     have:=hs y rfl;subst this;exfalso;obtain⟨_,⟨d,h0,_⟩|⟨_,_,h0,_⟩⟩:=b1j u2<;>simp[Instr.findKey,run_underlying h0,Instr.findNow]at hf
  . cases a with
    |none=>
     obtain⟨zv,z1,rfl⟩:=hn rfl;simp[Instr.lookup,run_underlying u1,MapKept.run_getObj_map hb,a7s u2 c3 hkey,hft,z1,Result.andThen]
    |some y=>
     have:=hs y rfl;subst this;simp[Instr.lookup,run_underlying u1,MapKept.run_getObj_map hb,a7s u2 c3 hkey,hft,Result.andThen]
 split at ha
 . rename_i i hf;obtain⟨_,q⟩:=find_spec (w:=w) u2 c3 hkey l1 l2 hf;obtain⟨e,q1,q2,q3⟩:=q i rfl;split at ha
   . rename_i c hc;split at ha
     . rename_i hmv;simp only[p9,s6]at ha;obtain⟨rfl,rfl⟩:=ha;obtain⟨e',a1,a2⟩:=hvs i c hc hmv;have:e'=e:=by
        have:es[i]?=some e:=(by simpa using q1);rw[this]at a1;exact(W6 a1).symm
       subst this;refine a3i hr (hgo q3 (fun y hy=>by cases hy;rfl) (fun hn=>by cases hn)) ?_;cases ok
       . exact a2
       . exact b7a (c5J hmv a2) a1l
     . cases ha
   . cases ha
 . rename_i hf;simp only[p9,s6]at ha;obtain⟨rfl,rfl⟩:=ha;obtain⟨q,_⟩:=find_spec (w:=w) u2 c3 hkey l1 l2 hf;obtain⟨i,zv,z1,z2,z3⟩:=a4r u5;obtain⟨z4,z5⟩:=a7b (G:=G) (h:=h) (w:=w) z3;refine a3i hr (hgo (q rfl) (fun y hy=>by cases hy) (fun _=>⟨zv,a9M z1 z2,rfl⟩)) ?_;cases ok
   . exact z4
   . exact b7a (b9b z5 z4) a1l
 . cases ha
theorem c6s(hc:mvR c=true)(hp:PR G.Z w v c):j8 G h w D v c:=by
 cases c<;>simp[mvR,A6,fn0]at hc
 case agg cs=>
  obtain⟨n,hp⟩:=hp;cases n with
  |zero=>unfold K0 at hp;exact hp.elim
  |succ n=>
   unfold K0 at hp;obtain⟨vs,rfl,h1,h2⟩:=hp;refine a6l ⟨h1,fun i x hx=>?_⟩;obtain⟨u,h3,h4⟩:=h2 i x hx;have hx1:=a3U (hc x (C8 hx));exact⟨u,h3,one_cell hx1 (a1y hx1 ⟨n,h4⟩)⟩
 case fn f a b=>
  obtain⟨n,hp⟩:=hp;split at hc
  . rename_i gf e;cases e;have hv:v=.func (.func gf) #[] #[]:=(by cases n<;>(unfold K0 at hp;exact hp));subst hv;unfold D;unfold j8;exact⟨_,_,rfl,⟨rfl,fun i c hc=>by simp at hc⟩,⟨rfl,fun i c hc=>by simp at hc⟩⟩
  . cases hc
 all_goals exact a1y rfl hp
theorem c4g(hr:p7 B Z0 G h w){ok:Bool}(ht:mapA P t=some (n,z,s))(hm:j8 G h w D m pm)(hx:j8 G h w D x px)(ha:a6R (l8 h hide) n ok z pm px=some (p,ws)):
 Good P B Z0 G h w (do pure (.value (←Instr.lookup t m x ok))) p ws:=by
 unfold a6R at ha;split at ha
 . rename_i k g;split at ha
   . rename_i g' fr ks vs hlk;split at ha
     . rename_i hg;subst hg;have hh:=T9 hlk k7;obtain⟨rfl,hl,es,cq,hb,hK,hvs⟩:=a9r hr hh hm;exact b1b hr ht (.inr ⟨_,rfl,hb⟩) hx hK (fun i c hc hmv=>by obtain⟨e,a1,a2⟩:=hvs i c hc;exact⟨e,a1,(a4M (b1V hmv)).1 a2⟩) ha
     . cases ha
   . cases ha
 . rename_i ks vs;obtain⟨b,es,q,rfl,_,hb,hK,_,hvs⟩:=PR.J9 (a9l hm);exact b1b hr ht (.inr ⟨_,rfl,hb⟩) hx hK (fun i c hc hmv=>by obtain⟨e,a1,a2⟩:=hvs i c hc;exact⟨e,a1,c6s hmv a2⟩) ha
 . unfold D at hm;unfold j8 at hm;obtain⟨rfl,_⟩:=hm;exact b1b (q:=0) hr ht (.inl ⟨rfl,rfl⟩) hx ⟨rfl,fun i x hx=>by simp at hx⟩ (fun i c hc=>by simp at hc) ha
 . cases ha
theorem c6Y(hr:p7 B Z0 G h w){fr:Bool}(hh:h[k]?=some (g,.mp fr ks vs))(hn:∀ns,vs[i]?≠some (.uslc ns)):p7 B Z0 (G.drp k i) h w∧Ext G h w (G.drp k i) h w:=by
 have x:Ext G h w (G.drp k i) h w:=by
  refine⟨fun _ y=>y,fun _ _=>rfl,fun k' gn ob e=>⟨gn,ob,e,m0 _,fun _=>?_⟩⟩;by_cases hkk:k'=k
  . subst hkk;rw[hh]at e;cases e;exact⟨fun _ _ _ _ e'=>(by cases e'),fun _ e'=>(by cases e'),fun _ _ _ e'=>⟨_,_,_,rfl,a4n k7⟩⟩
  . exact K5.refl k' ob (a4n k7) fun a b=>a4n fun e=>hkk (congrArg Prod.fst e)
 refine⟨⟨hr.base,hr.zo,hr.zb,fun key hk=>hr.lv key hk.2,fun k g o ho hl y hR=>hr.nz k g o ho hl y hR.2,fun k g o ho hl y hR=>hr.fz k g o ho hl y hR.2,fun a b h1 h2 e=>hr.inj a b h1.2 h2.2 e,fun k' g' o ho=>?_⟩,x⟩;by_cases hkk:k'=k
 . subst hkk;rw[hh]at ho;cases ho;have hob:=hr.ob _ _ _ hh;unfold E5 at hob⊢;obtain⟨o1,o2,es,q,o3,o4,o5⟩:=hob;refine⟨⟨k7,o1⟩,o2,es,q,o3,o4,fun j c hc=>?_⟩;obtain⟨e,e1,e2⟩:=o5 j c hc;refine⟨e,e1,?_⟩;by_cases hji:j=i
   . subst hji;have hcn:∀ns,c≠ .uslc ns:=fun ns e=>hn ns (by rw[hc,e]);exact(a4M hcn).2 (((a4M hcn).1 e2).ext x)
   . exact e2.ext x (a4n fun e=>hji (by simpa using e)) fun _=>rfl
 . exact(hr.ob k' g' o ho).ext x (fun y=>a4n fun e=>hkk (congrArg Prod.fst e)) fun _ _=>rfl
def c2z(G:Gh)(h:l5)(w:World)(k i:Nat)(m:Option Nat)(u:Value)(c:PV):Prop:=
 match m with
 |some k2=>∃ns,c=.uslc ns∧N7 G w (root k2) u ns
 |none=>a0b G h w k i u c
theorem c6O(hr:p7 B Z0 G h w){mk:Nat→Nat→Option Nat}(hh:h[k]?=some (g,.mp false ks vs))(hb:w.heap[G.β (root k)]?=some (.map es q))
 (hm1:∀i j k2,mk i j=some k2→k2≠k∧(∃g2,h[k2]?=some (g2,.dead))∧(G.R (root k2)→¬G.Z (G.β (root k2)))) (hm2:∀i j i' j' k2,mk i j=some k2→mk i' j'=some k2→i=i'∧j=j')
 (h1:a1K es' ks') (h2:ks'.length=vs'.length)
 (h3:∀(i:Nat) c,vs'[i]?=some c→∃e,es'[i]?=some e∧c2z G h w k i (mk i 0) e.val c):
 p7 B Z0 (G.mv k (G.β (root k)) (G.γ (root k)) mk) (h.set k (g,.mp false ks' vs')) {w with heap:=w.heap.setIfInBounds (G.β (root k)) (.map es' q')}∧
  Ext G h w (G.mv k (G.β (root k)) (G.γ (root k)) mk) (h.set k (g,.mp false ks' vs')) {w with heap:=w.heap.setIfInBounds (G.β (root k)) (.map es' q')}∧
  Bl B w {w with heap:=w.heap.setIfInBounds (G.β (root k)) (.map es' q')}:=by
 have hk:k<h.length:=(B4.1 hh).1;have hob:=hr.ob k g _ hh;unfold E5 at hob;obtain⟨hRk,_⟩:=hob;have hs1:=(heap_set (o':=.map es' q') hb).1;have hs2:=(heap_set (o':=.map es' q') hb).2;have hbz:¬G.Z (G.β (root k)):=hr.nz k g _ hh rfl none hRk;have hbB:B≤G.β (root k):=(hr.lv _ hRk).1;have hbne:∀key,key≠root k→G.R key→G.β key≠G.β (root k):=fun key hne hR e=>hne (hr.inj _ _ hR hRk e);have hbsame:∀key,key≠root k→G.R key→(w.heap.setIfInBounds (G.β (root k)) (.map es' q'))[G.β key]?=w.heap[G.β key]?:=fun key hne hR=>hs2 _ (hbne key hne hR);have hsame:∀k' y,k'≠k→b3h G (G.mv k (G.β (root k)) (G.γ (root k)) mk) h k' y:=fun k' y hkk=>by
  by_cases hmv:y=none∧a9k mk k'
  . obtain⟨rfl,i,j,hm⟩:=hmv;refine .inr ⟨fun hR=>?_,fun g' o' e=>?_⟩
    . have hne:((k',none):Key)≠root k:=fun e=>hkk (congrArg Prod.fst e);simp only[Gh.mv,if_neg hne]at hR;exact hR.1 trivial ⟨i,j,hm⟩
    . obtain⟨g2,h2⟩:=(hm1 i j k' hm).2.1;rw[h2]at e;cases e;rfl
  . exact .inl (b1w hkk fun e hm=>hmv ⟨e,hm⟩)
 have hroot:B8 G (G.mv k (G.β (root k)) (G.γ (root k)) mk) (root k):=⟨by simp[Gh.mv],by simp[Gh.mv,hRk],by simp[Gh.mv],by simp[Gh.mv,a1m]⟩
 have x:Ext G h w (G.mv k (G.β (root k)) (G.γ (root k)) mk) (h.set k (g,.mp false ks' vs')) {w with heap:=w.heap.setIfInBounds (G.β (root k)) (.map es' q')}:=by
  refine⟨fun _ y=>y,fun x hx=>hs2 x fun e=>hbz (e▸hx),fun k' gn ob e=>?_⟩;by_cases hkk:k'=k
  . subst hkk;rw[hh]at e;cases e;exact⟨g,_,D7 hk,m0 _,fun _=>⟨fun _ _ _ _ e'=>(by cases e'),fun _ e'=>(by cases e'),fun _ _ _ _=>⟨_,_,_,rfl,hroot⟩⟩⟩
  . refine⟨gn,ob,by rw[D9 (Ne.symm hkk)];exact e,m0 _,fun _=>?_⟩;by_cases hd:ob=.dead
    . subst hd;exact K5.dead _ _
    . exact K5.refl k' ob ((hsame k' none hkk).resolve_right fun y=>hd (y.2 gn ob e)) fun i j=>b1w hkk fun e=>by cases e
 refine⟨hr.update k g _ hk x hsame (fun k' y hkk hR=>hbsame _ (fun e=>hkk (congrArg Prod.fst e)) hR) k7 (fun b' hb'=>(hr.zb b' hb').eq (x.zw b' hb')) (fun b hb=>.inl hb) (fun _ _ _ _ hn=>hn) ?_ (fun e=>by cases e) ?_,x,Bl.b5A hbB hb _⟩
 . intro y hR;cases y with
   |none=>
    have hβ:(G.mv k (G.β (root k)) (G.γ (root k)) mk).β (k,none)=G.β (root k):=(by simp[Gh.mv]);rw[hβ];refine⟨hbB,⟨_,hs1,rfl⟩,fun _=>hbz,fun y' hR' e=>?_,fun k' y' hkk hR' e=>?_⟩
    . cases y' with
      |none=>rfl
      |some ij=>
       obtain⟨i,j⟩:=ij;exfalso;have hne:(nest k i j:Key)≠root k:=fun e=>(by simp at e);simp only[Gh.mv,if_neg hne]at hR' e;refine hbne _ (fun e2=>?_) hR'.2 e.symm;cases hmm:mk i j with
       |none=>rw[a2e hmm]at e2;exact hne e2
       |some k2=>rw[a2d hmm]at e2;exact(hm1 i j k2 hmm).1 (congrArg Prod.fst e2)
    . have hne:((k',y'):Key)≠root k:=fun e=>hkk (congrArg Prod.fst e);simp only[Gh.mv,if_neg hne,a5t hkk]at hR' e;exact hbne _ hne hR'.2 e.symm
   |some ij=>
    obtain⟨i,j⟩:=ij;have hne:(nest k i j:Key)≠root k:=fun e=>(by simp at e);have hβ:(G.mv k (G.β (root k)) (G.γ (root k)) mk).β (nest k i j)=G.β (a1m k mk (nest k i j)):=(by simp[Gh.mv]);simp only[Gh.mv,if_neg hne]at hR;obtain⟨_,hR⟩:=hR;have hsne:a1m k mk (nest k i j)≠root k:=fun e2=>by
     cases hmm:mk i j with
     |none=>rw[a2e hmm]at e2;exact hne e2
     |some k2=>rw[a2d hmm]at e2;exact(hm1 i j k2 hmm).1 (congrArg Prod.fst e2)
    show B≤(G.mv k (G.β (root k)) (G.γ (root k)) mk).β (nest k i j)∧_;rw[hβ];obtain⟨l1,l2⟩:=hr.lv _ hR;refine⟨l1,l2.eq (hbsame _ hsne hR),fun _=>?_,fun y' hR' e=>?_,fun k' y' hkk hR' e=>?_⟩
    . show¬G.Z _;cases hmm:mk i j with
      |none=>rw[a2e hmm]at hR⊢;exact hr.nz k g _ hh rfl _ hR
      |some k2=>rw[a2d hmm]at hR⊢;exact(hm1 i j k2 hmm).2.2 hR
    . cases y' with
      |none=>
       exfalso;have:(G.mv k (G.β (root k)) (G.γ (root k)) mk).β (k,none)=G.β (root k):=(by simp[Gh.mv]);rw[this]at e;exact hbne _ hsne hR e
      |some ij'=>
       obtain⟨i',j'⟩:=ij';have hne':(nest k i' j':Key)≠root k:=fun e=>(by simp at e);have hβ':(G.mv k (G.β (root k)) (G.γ (root k)) mk).β (nest k i' j')=G.β (a1m k mk (nest k i' j')):=(by simp[Gh.mv]);simp only[Gh.mv,if_neg hne']at hR';have e':=hr.inj _ _ hR hR'.2 (e.trans hβ');cases hmm:mk i j with
       |none=>
        rw[a2e hmm]at e';cases hmm':mk i' j' with
        |none=>rw[a2e hmm']at e';exact congrArg Prod.snd e'
        |some k2=>rw[a2d hmm']at e';simp at e'
       |some k2=>
        rw[a2d hmm]at e';cases hmm':mk i' j' with
        |none=>rw[a2e hmm']at e';simp at e'
        |some k3=>
         rw[a2d hmm']at e';have:k2=k3:=congrArg Prod.fst e';subst this;obtain⟨rfl,rfl⟩:=hm2 i j i' j' k2 hmm hmm';rfl
    . have hne':((k',y'):Key)≠root k:=fun e=>hkk (congrArg Prod.fst e);simp only[Gh.mv,if_neg hne',a5t hkk]at hR' e;have e':=hr.inj _ _ hR hR'.2 (by simpa using e);cases hmm:mk i j with
      |none=>rw[a2e hmm]at e';exact hkk (congrArg Prod.fst e').symm
      |some k2=>
       rw[a2d hmm]at e';have h1:k2=k':=congrArg Prod.fst e';have h2:none=y':=congrArg Prod.snd e';subst h1;exact hR'.1 h2.symm ⟨i,j,hmm⟩
 . unfold E5;rw[hroot.1];refine⟨hroot.2.1.2 hRk,h2,es',q',hs1,h1,fun i c hc=>?_⟩;obtain⟨e,q1,q2⟩:=h3 i c hc;refine⟨e,q1,?_⟩;cases hmm:mk i 0 with
   |none=>
    rw[hmm]at q2;exact a0b.ext x (b3Y hmm) (fun hR=>hbsame _ (fun e=>by simp at e) hR) q2
   |some k2=>
    rw[hmm]at q2;obtain⟨ns,hc2,q5⟩:=q2;subst hc2;unfold a0b;exact q5.ext x (b9m hmm) fun hR=>hbsame _ (fun e=>(hm1 i 0 k2 hmm).1 (congrArg Prod.fst e)) hR
theorem c4C(hr:p7 B Z0 G h w){d:PV}{ks:List Nat}(hv:j8 G h w D u c)(hk:a5Q (l8 h hide) c=some (d,ks)):
 ∃G' m,p7 B Z0 G' (m6 h (kill (l8 h hide) ks)) w∧Ext G h w G' (m6 h (kill (l8 h hide) ks)) w∧a4l G h G' (m6 h (kill (l8 h hide) ks)) ks∧
  (m=none∧(∀ns,d≠ .uslc ns)∧j8 G' (m6 h (kill (l8 h hide) ks)) w D u d∨∃k ns,m=some k∧d=.uslc ns∧N7 G' w (root k) u ns)∧∀k,m=some k↔k∈ks:=by
 unfold a5Q at hk;split at hk
 . rename_i ho;obtain⟨G1,mo,e1,e2,e3,e4,e5⟩:=b5O hr (fun _ _=>rfl) ho hv (fun _ _ _ _ _ _=>rfl) hk;refine⟨G1,mo,e1,e2,e3,?_,e5⟩;cases mo with
   |none=>exact .inl ⟨rfl,fun ns e=>by have:=e4.1;rw[e]at this;simp[one,T6]at this,e4.2⟩
   |some k2=>obtain⟨ns,n1,n2⟩:=e4;exact .inr ⟨k2,ns,rfl,n1,n2⟩
 . split at hk
   . rename_i hmv;simp only[p9,s6]at hk;obtain⟨rfl,rfl⟩:=hk;exact⟨G,none,hr,Ext.refl,⟨fun _ _ _=>B8.refl _ _,rfl,rfl,fun _ hm=>by simp at hm,fun _ hm=>by simp at hm,fun _ _=>rfl,fun _ hb=>.inl hb⟩,.inl ⟨rfl,b1V hmv,hv⟩,fun k=>k7⟩
   . cases hk
theorem c0S(hr:p7 B Z0 G h w){N:Nat}{pv d:PV}{kl:List Nat}(hh:h[k]?=some (g,.mp false ks vs))(hb:w.heap[G.β (root k)]?=some (.map es q))
 (hv:j8 G h w D v pv) (hemb:a5Q (l8 h hide) pv=some (d,kl)) (hkl:k∉kl) (hK':a1K es' ks') (hl':ks'.length=vs'.length)
 (hN:∀c,vs'[N]?=some c→c=d) (hNe:∃e,es'[N]?=some e∧e.val=v) (ho:∀(j:Nat) c,j≠N→vs'[j]?=some c→vs[j]?=some c) (hoe:∀(j:Nat) (e:MapEntry),j≠N→es[j]?=some e→∃e':MapEntry,es'[j]?=some e'∧e'.val=e.val):
 ∃G',p7 B Z0 G' (m6 h (kill (l8 h hide) kl++[(k,(g,.mp false ks' vs'))])) {w with heap:=w.heap.setIfInBounds (G.β (root k)) (.map es' q')}∧
  Ext G h w G' (m6 h (kill (l8 h hide) kl++[(k,(g,.mp false ks' vs'))])) {w with heap:=w.heap.setIfInBounds (G.β (root k)) (.map es' q')}∧Bl B w {w with heap:=w.heap.setIfInBounds (G.β (root k)) (.map es' q')}:=by
 obtain⟨G1,mo,e1,e2,e3,e4,e5⟩:=c4C hr hv hemb;have hh1:(m6 h (kill (l8 h hide) kl))[k]?=some (g,.mp false ks vs):=(e3.other k hkl).trans hh;have hb1:w.heap[G1.β (root k)]?=some (.map es q):=by rw[e3.β];exact hb
 have hob:=e1.ob k _ _ hh1;unfold E5 at hob;obtain⟨_,_,es2,q2,hb2,_,hvs1⟩:=hob;rw[hb1]at hb2;have:es2=es:=by cases hb2;rfl
 subst this;obtain⟨f1,f2,f3⟩:=c6O (q':=q') (mk:=fun i j=>if i=N∧j=0 then mo else none) e1 hh1 hb1 (es':=es') (ks':=ks') (vs':=vs') (fun i j k2 hm=>by
  split at hm
  . have hk2:=(e5 k2).1 hm;refine⟨fun e=>hkl (e▸hk2),e3.dead _ hk2,fun hR hZ=>?_⟩;obtain⟨g2,s2,ver2,es3,hl2⟩:=e3.live _ hk2;rw[e3.R]at hR;rw[e3.β]at hZ;rcases e3.z _ hZ with hz|⟨k3,_,ij,hR3,heq⟩
    . exact hr.nz k2 g2 _ hl2 rfl none hR hz
    . have:=hr.inj _ _ hR hR3 heq;simp at this
  . cases hm) (fun i j i' j' k2 h1 h2=>by
  split at h1
  . rename_i a1;split at h2
    . rename_i a2;exact⟨a1.1.trans a2.1.symm,a1.2.trans a2.2.symm⟩
    . cases h2
  . cases h1) hK' hl' (fun j c hc=>by
  by_cases hij:j=N
  . subst hij;have hcd:=hN c hc;subst hcd;obtain⟨e,a1,a2⟩:=hNe;refine⟨e,a1,?_⟩;rw[if_pos ⟨rfl,rfl⟩,a2];rcases e4 with⟨rfl,e6,e7⟩|⟨k2,ns,rfl,e6,e7⟩
    . exact(a4M e6).2 e7
    . exact⟨ns,e6,e7⟩
  . obtain⟨e',a1,a2⟩:=hvs1 j c (ho j c hij hc);obtain⟨e2,a3,a4⟩:=hoe j e' hij a1;refine⟨e2,a3,?_⟩;rw[if_neg (fun e=>hij e.1),a4];exact a2)
 rw[e3.β]at f1 f2 f3;have hu:m6 h (kill (l8 h hide) kl++[(k,(g,.mp false ks' vs'))])=(m6 h (kill (l8 h hide) kl)).set k (g,.mp false ks' vs'):=by rw[a3x];rfl
 rw[hu];exact⟨_,f1,e2.trans f2,f3⟩
theorem c1O(hr:p7 B Z0 G h w){pv:PV}(ht:mapA P t=some (n,z,s))(hm:j8 G h w D m pm)(hx:j8 G h w D x px)(hv:j8 G h w D v pv)(ha:a7c (l8 h hide) n pm px pv=some (p,ws)):
 Good P B Z0 G h w (do Instr.mapUpdate t m x v;pure Next.skip) p ws:=by
 obtain⟨kt,et,u1,u2,u4,_⟩:=b2A ht;unfold a7c at ha;split at ha
 case h_2=>cases ha
 rename_i k g;split at ha
 case h_2=>cases ha
 rename_i g' fr ks vs hlk;split at ha
 case isFalse=>cases ha
 rename_i hc;obtain⟨rfl,rfl,c3,c4⟩:=hc;split at ha
 case h_2=>cases ha
 rename_i d kl hemb;split at ha
 case isTrue=>cases ha
 rename_i hkl;have hkl:k∉kl:=by simpa using hkl
 have hh:=T9 hlk k7;obtain⟨rfl,hl,es,cq,hb,hK,hvs⟩:=a9r hr hh hm;obtain⟨key,hkey⟩:=b2t (x:=px) (by rw[c3];exact u4);obtain rfl:=b4k hkey hx;obtain⟨l1,l2⟩:=hK.list;split at ha
 . rename_i i hf;simp only[p9,s6]at ha;obtain⟨rfl,rfl⟩:=ha;obtain⟨_,q⟩:=find_spec (w:=w) u2 c3 hkey l1 l2 hf;obtain⟨e,q1,q2,q3⟩:=q i rfl;have q1':es[i]?=some e:=(by simpa using q1);have hrun:(do Instr.mapUpdate t (.map (some (G.β (root k)))) x v;pure Next.skip:Sem Next).run P w=.ok .skip {w with heap:=w.heap.setIfInBounds (G.β (root k)) (.map (es.modify i fun e=>{e with key:=x,val:=v}) cq)}:=by
    simp[Instr.mapUpdate,run_underlying u1,MapKept.run_getObj_map hb,a7s u2 c3 hkey,q3,q1',q2,c7o hkey,MapKept.run_setObj_map _ hb,Result.andThen]
   obtain⟨G',w1,w2,w3⟩:=c0S (q':=cq) hr (N:=i) (es':=es.modify i fun e=>{e with key:=x,val:=v}) (ks':=ks) (vs':=vs.set i d) hh hb hv hemb hkl (hK.modify i _ (fun e' he'=>by rw[q1']at he';cases he';exact q2.symm)) (by rw[a2T];exact hl) (fun c hc=>by have hil:i<vs.length:=(by have:=(B4.1 hc).1;simpa using this);rw[D7 hil]at hc;cases hc;rfl) ⟨{e with key:=x,val:=v},by rw[b4G,if_pos rfl,q1'];rfl,rfl⟩ (fun j c hj hc=>by rw[D9 (Ne.symm hj)]at hc;exact hc) (fun j e' hj he'=>⟨e',by rw[b4G,if_neg (Ne.symm hj)];exact he',rfl⟩)
   exact⟨.skip,undef,_,G',hrun,.inr ⟨rfl,rfl⟩,w1,w2,L3,w3⟩
 . rename_i hf;simp only[p9,s6]at ha;obtain⟨rfl,rfl⟩:=ha;obtain⟨q,_⟩:=find_spec (w:=w) u2 c3 hkey l1 l2 hf;have hrun:(do Instr.mapUpdate t (.map (some (G.β (root k)))) x v;pure Next.skip:Sem Next).run P w=.ok .skip {w with heap:=w.heap.setIfInBounds (G.β (root k)) (.map (es.push {key:=x,val:=v,born:=cq}) (cq+1))}:=by
    simp[Instr.mapUpdate,run_underlying u1,MapKept.run_getObj_map hb,a7s u2 c3 hkey,q rfl,MapKept.run_setObj_map _ hb,Result.andThen]
   obtain⟨G',w1,w2,w3⟩:=c0S (q':=cq+1) hr (N:=es.size) (es':=es.push {key:=x,val:=v,born:=cq}) (ks':=ks++[px]) (vs':=vs++[d]) hh hb hv hemb hkl (hK.push hkey) (by simp[hl]) (fun c hc=>by
    rw[hK.1,hl,a3X (m0 _),a6B]at hc;cases hc;rfl) ⟨{key:=x,val:=v,born:=cq},k7,rfl⟩ (fun j c hj hc=>by
    by_cases hj2:j<vs.length
    . rw[a0R hj2]at hc;exact hc
    . have:=(B4.1 hc).1;have h1:=hK.1;simp at this;omega) (fun j e' hj he'=>by
    have hje:j<es.size:=(a2A.1 he').1;exact⟨e',by rw[Array.getElem?_push_lt hje,←he'];exact(Array.getElem?_eq_getElem _).symm,rfl⟩)
   exact⟨.skip,undef,_,G',hrun,.inr ⟨rfl,rfl⟩,w1,w2,L3,w3⟩
 . cases ha
theorem c5n{o:Obj}(hb:w.heap[b]?=some o):({w with heap:=w.heap.setIfInBounds b o}:World)=w:=by
 have:w.heap.setIfInBounds b o=w.heap:=by
  apply Array.ext_getElem?;intro i;by_cases hi:i=b
  . subst hi;rw[(heap_set hb).1,hb]
  . exact(heap_set hb).2 i hi
 rw[this]
theorem c7S(hr:p7 B Z0 G h w){k3 sz:Nat}(ht:mapA P t=some (n,z,s))(hsz:0<sz)(hk3:k3<h.length∧hide.contains k3=false)(hm:j8 G h w D m pm)(hx:j8 G h w D x px)(ha:a5l (l8 h hide) k3 n sz z pm px=some (p,ws)):
 Good P B Z0 G h w (do pure (.value (←Instr.lookup t m x false))) p ws:=by
 unfold a5l at ha;split at ha
 case h_2=>cases ha
 rename_i k g;split at ha
 case h_2=>cases ha
 rename_i g' fr ks vs hlk;split at ha
 case isFalse=>cases ha
 rename_i hc;obtain⟨rfl,c3,c4,hne⟩:=hc;have hh:=T9 hlk k7;have hkl:k<h.length:=(B4.1 hh).1;obtain⟨rfl,hl,es,cq,hb,hK,hvs⟩:=a9r hr hh hm;have plain:∀{q:Eff},a3z n false z px ks vs=some q→Good P B Z0 G h w (do pure (.value (←Instr.lookup t (.map (some (G.β (root k)))) x false))) q.1 q.2:=fun{q} hq=>
  b1b (p:=q.1) (ws:=q.2) hr ht (.inr ⟨_,rfl,hb⟩) hx hK (fun i c hc hmv=>by obtain⟨e,a1,a2⟩:=hvs i c hc;exact⟨e,a1,(a4M (b1V hmv)).1 a2⟩) hq
 split at ha
 . rename_i i hf;split at ha
   . rename_i ns hns;split at ha
     case isFalse=>cases ha
     rename_i hfr;subst hfr;split at ha
     case h_2=>cases ha
     rename_i g3 hlk3;split at ha
     case isFalse=>cases ha
     rename_i hcn;obtain⟨hn0,hszo⟩:=hcn;simp only[p9,s6]at ha;obtain⟨rfl,rfl⟩:=ha;obtain⟨kt,et,u1,u2,u4,u5⟩:=b2A ht;obtain⟨key,hkey⟩:=b2t (x:=px) (by rw[c3];exact u4);obtain rfl:=b4k hkey hx;obtain⟨l1,l2⟩:=hK.list;obtain⟨_,q⟩:=find_spec (w:=w) u2 c3 hkey l1 l2 hf;obtain⟨e,q1,q2,q3⟩:=q i rfl;have q1':es[i]?=some e:=(by simpa using q1);have hft:=q3;have hrun:(Instr.lookup t (.map (some (G.β (root k)))) x false).run P w=.ok e.val w:=by simp[Instr.lookup,run_underlying u1,MapKept.run_getObj_map hb,a7s u2 c3 hkey,hft,Result.andThen]
     have hh3:h[k3]?=some (g3,.dead):=by unfold l8 at hlk3;rw[if_neg (by rw[hk3.2];simp),u9,l9 hk3.1]at hlk3;rw[l9 hk3.1];exact congrArg some hlk3
     obtain⟨e0,e01,e02⟩:=hvs i _ hns;have:e0=e:=(by rw[q1']at e01;exact(W6 e01).symm);subst this;have hil:i<vs.length:=(B4.1 hns).1;unfold a0b at e02;have hN:=e02;unfold N7 at e02;have hRn:G.R (nest k i 0):=Classical.byContradiction fun hn=>by have:=(e02.2 hn).2;subst this;simp at hn0
     obtain⟨us2,T2,f,c,v1,n2,n3,n4,n5,n6,n7,n8,n9⟩:=e02.1 hRn;obtain⟨A1,A2,A3⟩:=c0k (q':=cq) hr hh hb (es':=es) (ks':=ks) (vs':=vs.set i .any) hK (by rw[a2T];exact hl) (fun j c hc=>by
      by_cases hij:i=j
      . subst hij;rw[D7 hil]at hc;cases hc;refine⟨e0,q1',?_⟩;unfold a0b D;unfold j8;rw[v1];exact⟨rfl,rfl⟩
      . rw[D9 hij]at hc;exact hvs j c hc)
     rw[c5n hb]at A1 A2;have hσ:G.σ (nest k i 0)=sz:=by have q:=(n9 0 ns[0] (l9 hn0)).1;have:=A8.1 hszo ns[0] (B7 hn0);simp at this;omega
     rw[hσ]at n7;have hh1:(h.set k (g',.mp false ks (vs.set i .any)))[k]?=some (g',.mp false ks (vs.set i .any)):=D7 hkl;obtain⟨B1,B2⟩:=c6Y (i:=i) A1 hh1 (fun ns' e=>by rw[D7 hil]at e;cases e);have hh3':(h.set k (g',.mp false ks (vs.set i .any)))[k3]?=some (g3,.dead):=(by rw[D9 hne];exact hh3);obtain⟨C1,C2⟩:=b4a B1 (us:=us2) (T:=T2) (b:=G.β (nest k i 0)) (γ0:=G.γ (nest k i 0)) (sz:=sz) (ns:=ns) hh3' (hr.lv _ hRn).1 (hr.nz k g' _ hh rfl _ hRn) (fun key hk e=>hk.1 (hr.inj _ _ hk.2 hRn e)) n6 i9 n5 hsz n7 (fun a e hae=>by obtain⟨r1,r2⟩:=n9 a e hae;rw[hσ]at r1 r2;exact⟨r1,fun j cc hcc=>r2 j cc hcc⟩)
     refine⟨.value e0.val,_,w,_,by simp[hrun,Result.andThen],.inl rfl,C1,A2.trans (B2.trans C2),?_,Bl.refl _ _⟩;rw[v1];unfold D;unfold j8;refine⟨_,c,rfl,n3,i9,.inr ⟨_,_,rfl⟩,g3+1,_,D7 (by simpa using hk3.1),m0 _,fun _ sz' vr fr' es' e=>?_⟩;cases e;exact⟨m0 _,fun _=>⟨i9,fun _=>⟨f,by simp[Gh.a0l],n2.imp id fun h _=>i9,i9,by simp[Gh.a0l];omega⟩,fun hn=>absurd (.inl rfl) hn⟩⟩
   . rename_i c hcn hcv;split at ha
     case isFalse=>cases ha
     rename_i hmv;simp only[p9,s6]at ha;obtain⟨rfl,rfl⟩:=ha;exact plain (q:=(c,[])) (by unfold a3z;rw[if_pos ⟨c3,c4⟩,hf];simp only[];rw[hcv];simp only[];rw[if_pos hmv];rfl)
   . cases ha
 . rename_i hf;simp only[p9,s6]at ha;obtain⟨rfl,rfl⟩:=ha;exact plain (q:=(z,[])) (by unfold a3z;rw[if_pos ⟨c3,c4⟩,hf];rfl)
 . cases ha
end
end
section
variable{P:Program}{B:Nat}{Z0:Nat→Prop}{G G':Gh}{h h':l5}{w w':World}
theorem c5q{op:BinOp}{t e:TypeId}{x y:Operand}{v u:Value}{p q:PV}{r:Bool}(ho:op=.eql∨op=.neq)(hu:P.underlying t=some (.pointer e))(hv:j8 G h w D v p)(hw:j8 G h w D u q)(hq:b0H q=true)(hk:a9F p=some r):
 ∃z,(do eqGuard op t x y v u;Go.binOp op t v u:Sem Value).run P w=.ok z w∧j8 G h w D z (.bool ((op==.neq) !=r)):=by
 have hun:u=.pointer none:=by
  unfold b0H at hq;split at hq
  . unfold D at hw;unfold j8 at hw;exact hw.1
  . cases hq
 subst hun;have key:∃a,v=.pointer a∧a.isNone=r:=by
  unfold a9F at hk;split at hk
  . cases hk;unfold D at hv;unfold j8 at hv;exact⟨none,hv.1,rfl⟩
  . cases hk;unfold D at hv;unfold j8 at hv;obtain⟨b,rfl,_⟩:=hv;exact⟨_,rfl,rfl⟩
  . cases hk;unfold D at hv;unfold j8 at hv;obtain⟨b,f,rfl,_⟩:=hv;exact⟨_,rfl,rfl⟩
  . cases hk;unfold D at hv;unfold j8 at hv;obtain⟨b,f,rfl,_⟩:=hv;exact⟨_,rfl,rfl⟩
  . cases hk;unfold D at hv;unfold j8 at hv;obtain⟨b,f,rfl,_⟩:=PR.a3a.1 hv;exact⟨_,rfl,rfl⟩
  . cases hk
 obtain⟨a,rfl,rfl⟩:=key;have he:(Op.equal t (.pointer a) (.pointer none)).run P w=.ok a.isNone w:=by
  have hd:∀d:Nat,(Op.equalIn (d+1) t (.pointer a) (.pointer none)).run P w=.ok a.isNone w:=fun d=>by cases a<;>simp[Op.equalIn,run_underlying hu]
  exact hd 9999
 rcases ho with rfl|rfl
 . refine⟨.bool a.isNone,?_,by rw[show((BinOp.eql==BinOp.neq) !=a.isNone)=a.isNone by cases a<;>rfl];exact a1l⟩;have hg:(eqGuard .eql t x y (.pointer a) (.pointer none)).run P w=.ok () w:=(by simp[eqGuard]);simp only[N8,hg,Q8,Go.binOp,he,a1E]
 . refine⟨.bool (!a.isNone),?_,by rw[show((BinOp.neq==BinOp.neq) !=a.isNone)=!a.isNone by cases a<;>rfl];exact a1l⟩;have hg:(eqGuard .neq t x y (.pointer a) (.pointer none)).run P w=.ok () w:=(by simp[eqGuard]);simp only[N8,hg,Q8,Go.binOp,he,a1E]
theorem a8S:j8 G h w D (.tuple #[]) (.tup []):=by unfold D;unfold j8;exact⟨#[],rfl,rfl,fun i c hc=>by simp at hc⟩
theorem c2v(hr:p7 B Z0 G h w){hide:List Nat}{t ty kt et:TypeId}{m:Value}{pm p:PV}{ws:List (Nat×Row)}(hu:P.underlying t=some (.map kt et))(hm:j8 G h w D m pm)(ha:a7j (l8 h hide) pm=some (p,ws)):
 Good P B Z0 G h w (do pure (.value (←Builtin.clear_ #[t] ty #[m]))) p ws:=by
 unfold a7j at ha;split at ha
 . rename_i k g;split at ha
   . rename_i g' fr ks vs hlk;split at ha
     . rename_i hc;obtain⟨rfl,rfl⟩:=hc;simp only[p9,s6]at ha;obtain⟨rfl,rfl⟩:=ha;have hh:=T9 hlk k7;obtain⟨rfl,hl,es,cq,hb,hK,hvs⟩:=a9r hr hh hm;obtain⟨A1,A2,A3⟩:=c0k (q':=cq) hr hh hb (es':= #[]) (ks':=[]) (vs':=[]) ⟨rfl,fun i x hx=>by simp at hx⟩ rfl (fun i c hc=>by simp at hc);have hrun:(Builtin.clear_ #[t] ty #[.map (some (G.β (root k)))]).run P w=.ok (.tuple #[]) {w with heap:=w.heap.setIfInBounds (G.β (root k)) (.map #[] cq)}:=by
        simp[Builtin.clear_,run_underlying hu,MapKept.run_getObj_map hb,MapKept.run_setObj_map _ hb,Result.andThen]
       exact⟨.value (.tuple #[]),_,_,G,by simp[hrun,Result.andThen],.inl rfl,A1,A2,a8S,A3⟩
     . cases ha
   . cases ha
 . simp only[p9,s6]at ha;obtain⟨rfl,rfl⟩:=ha;unfold D at hm;unfold j8 at hm;obtain⟨rfl,_⟩:=hm;exact a3i hr (v:=.tuple #[]) (by simp[Builtin.clear_,run_underlying hu]) a8S
 . cases ha
theorem c1Y(hr:p7 B Z0 G h w){hide:List Nat}{t ty e:TypeId}{x:Value}{z px p:PV}{ws:List (Nat×Row)}(hu:P.underlying t=some (.slice e))(hs:H8 P e=some 1)(hz:a0c P e=some z)(hzl:(l6 z).length=1)
 (hx:j8 G h w D x px) (ha:a6K (l8 h hide) z px=some (p,ws)):Good P B Z0 G h w (do pure (.value (←Builtin.clear_ #[t] ty #[x]))) p ws:=by
 unfold a6K at ha;split at ha
 . simp only[p9,s6]at ha;obtain⟨rfl,rfl⟩:=ha;obtain rfl:=Z7 hx;exact a3i hr (v:=.tuple #[]) (by simp[Builtin.clear_,run_underlying hu]) a8S
 . rename_i k g ver i j o l;split at ha
   case h_2=>cases ha
   rename_i g' s ver' fr es hlk;split at ha
   case isFalse=>cases ha
   rename_i hc;obtain⟨rfl,rfl,rfl,rfl,hzp⟩:=hc;split at ha
   case h_2=>cases ha
   rename_i e0 he;split at ha
   case h_2=>cases ha
   rename_i ns hns;split at ha
   case isFalse=>cases ha
   rename_i hc;obtain⟨rfl,hsz⟩:=hc;simp only[p9,s6]at ha;obtain⟨rfl,rfl⟩:=ha;have hh:=T9 hlk k7;obtain⟨inf,zv,z1,z2,z3⟩:=a4r hz;obtain⟨z4,z5⟩:=a7b (G:=G) (h:=h) (w:=w) z3;have hzc:l6 z=[z]:=by cases z<;>first|rfl|(simp[A6]at hzp)
   obtain⟨hzs,hzr⟩:=a5W (G:=G) (h:=h) (w:=w) z3;rw[hzc]at hzs hzr;obtain⟨u0,y1,y2,y3⟩:=hzr 0 z rfl;have hzcell:zv.cells= #[u0]:=(by grind);unfold D at hx;unfold j8 at hx;obtain⟨a,c,rfl,q1,q2,q3,gn,ob,q4,q5,q6⟩:=hx;rw[hh]at q4;cases q4;obtain⟨_,q7⟩:=q6 rfl _ _ _ _ rfl;obtain⟨ns',hns',_,q8,q9⟩:=q7 rfl;rw[a4w he hns]at hns';cases hns';obtain⟨hR,us,T,h5,h6,h7,h8⟩:=a3n hr hh he;obtain⟨u1,h9,h10⟩:=h8 j _ hns;unfold F9 N7 at h10;have hj:=(B4.1 hns).1;have hse2:l6 (M4 e0 j [.uslc (List.replicate ns.length z)])=(l6 e0).set j (.uslc (List.replicate ns.length z)):=by rw[b1z I3 k7 (fun d hd _=>by simp at hd;subst hd;rfl)];rfl
   by_cases hn0:ns.length=0
   . have hn:ns=[]:=a0Q.1 hn0;subst hn;have hset:es.set i (M4 e0 j [.uslc (List.replicate ([]:List PV).length z)])=es:=by
      have:M4 e0 j [.uslc (List.replicate ([]:List PV).length z)]=e0:=by
       cases e0
       case agg cs=>
        simp only[l6]at hns;simp only[M4,a1S];congr 1;obtain⟨_,hg⟩:=B4.1 hns;rw[show PV.uslc (List.replicate ([]:List PV).length z)=PV.uslc []from rfl,←hg];exact b4I _
       all_goals
        simp only[l6]at hns;cases j with
        |zero=>first
         |(simp at hns;done)
         |(simp at hns;subst hns;rfl)
        |succ j=>simp at hns
      rw[this];exact b8l he
     have hst:h.set k (g',.arr s ver' false es)=h:=b8l hh;rw[hset];have hrun:(Builtin.clear_ #[t] ty #[.slice a ([]:List PV).length c]).run P w=.ok (.tuple #[]) w:=by cases a<;>simp[Builtin.clear_,run_underlying hu]
     refine⟨.value (.tuple #[]),_,w,G,by simp only[N8,hrun,Q8,a1E],.inl rfl,?_,?_,a8S,Bl.refl _ _⟩
     . show p7 B Z0 G (h.set k (g',.arr s ver' false es)) w;rw[hst];exact hr
     . show Ext G h w G (h.set k (g',.arr s ver' false es)) w;rw[hst];exact Ext.refl
   have hRn:G.R (nest k i j):=(by grind);obtain⟨us2,T2,ff,cc,rfl,h10',h11,h12,h12',h13,h14,h15,h16⟩:=h10.1 hRn;obtain⟨f,rfl,q10⟩:=q8 hRn;have hσ:G.σ (nest k i j)=1:=by have hx0:ns[0]?=some (ns[0]'i9):=l9 i9;have hq:=(h16 0 _ hx0).1;have:=a3y hsz hx0;omega
   have hf:f=0:=i9;subst hf;have hzz:=b6J hzcell ns.length;have hNl:=a5Y (fun _=>u0) ns.length;have hroom:0+(T8 (fun _=>u0) ns.length).length≤us2.size:=by rw[hNl,h14,hσ];omega
   have hst:=run_storeCells_at P (G.β (nest k i j)) 0 T2 (T8 (fun _=>u0) ns.length) 0 us2 w h13 i9 (fun u hu=>by obtain⟨q,hq,rfl⟩:=E9.1 hu;exact a6L y2 y3)
   have hrun:(Builtin.clear_ #[t] ty #[.slice (some ⟨G.β (nest k i j),0,none⟩) ns.length c]).run P w=.ok (.tuple #[]) (w.setRow (G.β (nest k i j)) (Y8 us2 0 (T8 (fun _=>u0) ns.length))):=by
    obtain⟨m,hm⟩:∃m,ns.length=m+1:=⟨ns.length-1,i9⟩
    simp only[a3t]at hst;rw[hm]at hzz hst⊢;simp[Builtin.clear_,run_underlying hu,zeroValue,typeInfo,z1,z2,hzz,hst,Y8]
   obtain⟨x1,x2⟩:=b6y (us':=Y8 us2 0 (T8 (fun _=>u0) ns.length)) hr hh he hns hRn h13 rfl hse2 k7 (a6v hroom) (fun m y hy=>by have hm:m<ns.length:=(by grind);have hyz:y=z:=(by grind);subst hyz;rw[hσ,hzc];refine⟨rfl,fun l c0 hc0=>?_⟩;have hl0:l=0:=(by grind);subst hl0;cases hc0;refine⟨y2,u0,?_,a4D hzp y3⟩;rw[a3K hroom,if_pos (by rw[hNl];omega)];rw[show m*1+0-0=m by omega];exact a3c hm)
   exact⟨.value (.tuple #[]),_,_,G,by simp only[N8,hrun,Q8,a1E],.inl rfl,x1,x2,a8S,a6a (Bl.refl _ _) (hr.lv _ hRn).1 _ h13⟩
 . cases ha
end
section
variable{P:Program}{B:Nat}{Z0:Nat→Prop}{G G':Gh}{h h':l5}{w w':World}
theorem a5r{α β:Type}{f:α→Option β}:∀{l:List α} {m:List β},M8 f l=some m→l.length=m.length∧∀(i:Nat) a,l[i]?=some a→∃b,m[i]?=some b∧f a=some b
 | [],m,hk=>by simp[M8]at hk;subst hk;exact⟨rfl,fun i a h=>by simp at h⟩
 |a::l,m,hk=>by
  simp only[M8]at hk;split at hk
  . rename_i b m' h1 h2;cases hk;obtain⟨h3,h4⟩:=a5r h2
    grind
  . cases hk
theorem a4m{rd:Operand→Option s8}{ρ:Operand→Value}{ev:s8→PV}(hrd:∀x d,rd x=some d→j8 G h w D (ρ x) (ev d)){x:Option Operand}{d:Option s8}(hk:a3S rd x=some d):OV G h w (x.map ρ) (d.map ev):=by
 cases x with
 |none=>simp[a3S]at hk;subst hk;trivial
 |some x=>
  simp only[a3S]at hk;obtain⟨d',h1,rfl⟩:=C5.1 hk;exact hrd x d' h1
theorem b2Q{mx:Bool}{k:IntKind}:∀{l:List Value} {ps:List PV} {m n:Int},l.length=ps.length→(∀(i:Nat) p,ps[i]?=some p→∃v,l[i]?=some v∧j8 G h w D v p)→a6r mx m ps=some n→
 (l.foldlM (if mx then Builtin.max2 else Builtin.min2) (.int k m)).run P w=.ok (.int k n) w
 | [],ps,m,n,hl,hv,hk=>by
  have:ps=[]:=a0Q.1 hl.symm;subst this;simp[a6r]at hk;subst hk;rfl
 |v::l,[],m,n,hl,hv,hk=>by simp at hl
 |v::l,p::ps,m,n,hl,hv,hk=>by
  cases p<;>(try (simp[a6r]at hk;done))
  case int k' y=>
   obtain⟨v',h1,h2⟩:=hv 0 _ rfl;simp at h1;subst h1;obtain rfl:=V0 h2;simp only[a6r]at hk;have ih:=b2Q (k:=k) (l:=l) (by simpa using hl) (fun i p hp=>hv (i+1) p (by simpa using hp)) hk;simp only[List.foldlM_cons];cases mx
   . simp only[a3W,if_false]at ih hk⊢;simp[Builtin.min2,ih]
   . simp only[if_true]at ih hk⊢;simp[Builtin.max2,ih]
theorem a0X(hr:p7 B Z0 G h w){s:Sem Value}{p:PV}(hs:∃v,s.run P w=.ok v w∧j8 G h w D v p):Good P B Z0 G h w (do pure (.value (←s))) p []:=
 let⟨_,h1,h2⟩:=hs;a3i hr h1 h2
theorem b3l{rd:Operand→Option s8}{ρ:Operand→Value}{ev:s8→PV}(hrd:∀x d,rd x=some d→j8 G h w D (ρ x) (ev d)){place:Nat→Option (Nat×Nat)}{f:Nat×Operand→Option (Nat×Nat×s8)}
 (hf:∀a b,f a=some b→place a.1=some (b.1,b.2.1)∧rd a.2=some b.2.2):∀{ps:List (Nat×Operand)} {l:List (Nat×Nat×s8)},M8 f ps=some l→a7r G h w place (ps.map fun x=>(x.1,ρ x.2)) (l.map fun x=>(x.1,x.2.1,ev x.2.2))
 | [],l,hk=>by simp[M8]at hk;subst hk;exact .nil
 |a::ps,l,hk=>by
  simp only[M8]at hk;split at hk
  . rename_i b m h1 h2;cases hk;obtain⟨h3,h4⟩:=hf a b h1;exact .cons h3 (hrd _ _ h4) (b3l hrd hf h2)
  . cases hk
theorem a9f{rd:Operand→Option s8}{ρ:Operand→Value}{ev:s8→PV}(hrd:∀x d,rd x=some d→j8 G h w D (ρ x) (ev d)):∀{ps:List (Nat×Operand)} {l:List (Nat×s8)},M8 (fun(p:Nat×Operand)=>(rd p.2).map fun x=>(p.1,x)) ps=some l→a4c G h w (ps.map fun x=>(x.1,ρ x.2)) (l.map fun x=>(x.1,ev x.2))
 | [],l,hk=>by simp[M8]at hk;subst hk;exact .nil
 |a::ps,l,hk=>by
  simp only[M8]at hk;split at hk
  . rename_i b m h1 h2;cases hk;obtain⟨d,h3,rfl⟩:=C5.1 h1;exact .cons (hrd _ _ h3) (a9f hrd h2)
  . cases hk
theorem b4V:∀{fs:List Field} {l:List (Nat×Nat)},a8y P fs=some l→fs.mapM (fun f=>(P.info? f.type).map fun i=>(f.offset,i.size))=some l
 | [],l,hk=>by simp[a8y]at hk;subst hk;rfl
 |f::fs,l,hk=>by
  simp only[a8y]at hk;split at hk
  . rename_i i m h1 h2;cases hk;simp[List.mapM_cons,h1,b4V h2]
  . cases hk
theorem b6O{rd:Operand→Option s8}{s:Nat}:∀{L:List (Nat×Operand)} {l:List (Nat×s8)},M8 (fun(p:Nat×Operand)=>(rd p.2).map fun x=>(p.1,x)) L=some l→M8 (fun(p:Nat×Operand)=>(rd p.2).map fun x=>(p.1*s,s,x)) L=some (l.map fun p=>(p.1*s,s,p.2))
 | [],l,hk=>by simp[M8]at hk;subst hk;rfl
 |a::L,l,hk=>by
  simp only[M8]at hk;split at hk
  . rename_i b m q3 q4;cases hk;obtain⟨d,q5,rfl⟩:=C5.1 q3;simp only[M8,q5,a2U,b6O q4,a0s]
  . cases hk
theorem c9a{A:Array Value}{cs:List PV}(hA:I6 (fun u c=>one c=true∧j8 G h w D u c) A cs):j8 G h w D (.agg A) (.agg cs):=
 a6l (hA.mono fun _ _ y=>one_cell y.1 y.2)
theorem b6c(hr:p7 B Z0 G h w){t:TypeId}{z:PV}{place:Nat→Option (Nat×Nat)}{parts:Array (Nat×Value)}{xs:List (Nat×Nat×PV)}{cs:List PV}(hz:a0c P t=some z)
 (hp:a7r G h w place parts.toList xs) (hk:a6n (l6 z) xs=some cs) (hb:∀i v A,P.info? t=some i→i.zero=some v→Instr.fill place v.cells parts.toList=some A→P.built t parts.toList=some A):
 ∃v,(Instr.build t parts).run P w=.ok v w∧j8 G h w D v (.agg cs):=by
 obtain⟨i,v,h1,h2,h3⟩:=a4r hz;have hlz:=a5W (G:=G) (h:=h) (w:=w) h3;obtain⟨A,h4,h5⟩:=c5j (R:=fun u c=>one c=true∧j8 G h w D u c) (fun u c a b=>⟨a,b⟩) hp hlz hk;exact⟨_,run_build w t parts A (hb i v A h1 h2 h4),c9a h5⟩
theorem b9u(hr:p7 B Z0 G h w){hide:List Nat}{ρ:Operand→Value}{ev:s8→PV}{rd:Operand→Option s8}(hrd:∀x d,rd x=some d→j8 G h w D (ρ x) (ev d)){o:Oper}{k:Nat}{app:Nat×Option Nat}{al:Bool}{xop:N5}{p:PV}{ws:List (Nat×Row)}
 (hc:a2N P rd k app al o.type o.op=some xop) (hks:∀j,j∈G8 xop→j<h.length∧hide.contains j=false) (ha:s9 ev (l8 h hide) xop=some (p,ws)):Good P B Z0 G h w (execOp ρ o) p ws:=by
 obtain⟨dst,op,type,pos,after,guard⟩:=o;cases op<;>simp only[a2N]at hc<;>(try (cases hc;done))<;>simp only[execOp]
 case move x|assign x=>
  obtain⟨d,h1,rfl⟩:=C5.1 hc;simp only[s9,p9,s6]at ha;obtain⟨rfl,rfl⟩:=ha;exact a2K hr rfl (hrd _ _ h1)
 case makeInterface|panic=>cases hc;simp[s9]at ha
 case makeMap t r=>
  cases r with
  |some r=>
   simp only[]at hc;split at hc
   . rename_i hu;obtain⟨d,h1,rfl⟩:=C5.1 hc;simp only[s9,a2U]at ha;split at ha
     . rename_i e;cases e
     . rename_i ik n e;simp only[p9,s6]at ha e;obtain⟨rfl,rfl⟩:=ha;have hv:=hrd _ _ h1;rw[e]at hv;have hv:=V0 hv;exact b9q hr (hks k (by simp[G8])) t (by simp[Instr.makeMap,run_underlying hu,hv,Go.asInt,asIntOf,Result.andThen])
     . cases ha
   . cases hc
  |none=>
   cases hc;simp only[s9,Option.map_none,p9,s6]at ha;obtain⟨rfl,rfl⟩:=ha;exact b9q hr (hks k (by simp[G8])) t (by simp[Instr.makeMap])
 case lookup t m x ok=>
  split at hc
  . rename_i kt z s dm dx h0 h1 h2;cases hc;split at ha
    . rename_i hc7;obtain⟨_,hok,hs⟩:=id hc7;subst hok;refine c7S hr h0 (Nat.pos_of_ne_zero hs) (hks k ?_) (hrd _ _ h1) (hrd _ _ h2) ha;rw[if_pos hc7];simp[G8]
    . exact c4g hr h0 (hrd _ _ h1) (hrd _ _ h2) ha
  . cases hc
 case mapUpdate t m x v|insert t m x v=>
  split at hc
  . rename_i kt z s dm dx dv h0 h1 h2 h3;cases hc;exact c1O hr h0 (hrd _ _ h1) (hrd _ _ h2) (hrd _ _ h3) ha
  . cases hc
 case pick c a b=>
  split at hc
  . rename_i dc da db h1 h2 h3;cases hc;simp only[s9]at ha;split at ha
    . rename_i t ht;simp only[p9,s6]at ha;obtain⟨rfl,rfl⟩:=ha;have hb:=hrd _ _ h1;rw[ht]at hb;have:=a1c hb;refine a2K hr (v:=if t then ρ a else ρ b) (by simp[this,asBool]) ?_;cases t
      . exact hrd _ _ h3
      . exact hrd _ _ h2
    . cases ha
  . cases hc
 case alloc e=>
  split at hc
  . obtain⟨z,h1,rfl⟩:=C5.1 hc;simp only[s9]at ha;split at ha
    . rename_i hp;simp only[p9,s6]at ha;obtain⟨rfl,rfl⟩:=ha;exact c5x hr (hks k (by simp[G8])) h1 rfl hp.1 hp.2.1 hp.2.2
    . cases ha
  . obtain⟨z,h1,rfl⟩:=C5.1 hc;simp only[s9]at ha;split at ha
    . simp only[p9,s6]at ha;obtain⟨rfl,rfl⟩:=ha;exact c5b hr (hks k (by simp[G8])) h1
    . cases ha
 case box e x=>
  split at hc
  . obtain⟨d,h1,rfl⟩:=C5.1 hc;simp only[s9]at ha;split at ha
    . rename_i hp;simp only[p9,s6]at ha;obtain⟨rfl,rfl⟩:=ha;exact c7B hr (hks k (by simp[G8])) (hrd _ _ h1) hp.1 hp.2.1 hp.2.2
    . cases ha
  . obtain⟨d,h1,rfl⟩:=C5.1 hc;simp only[s9]at ha;split at ha
    . rename_i ho;simp only[p9,s6]at ha;obtain⟨rfl,rfl⟩:=ha;exact c7q hr (hks k (by simp[G8])) (hrd _ _ h1) ho
    . cases ha
 case build t ps=>
  split at hc
  . rename_i z fs h1 h2;split at hc
    . rename_i places h3;split at hc
      . rename_i l h4;cases hc;simp only[s9]at ha;split at ha
        . rename_i cs h5;simp only[p9,s6]at ha;obtain⟨rfl,rfl⟩:=ha;have hpp:=b3l (G:=G) (h:=h) (w:=w) (place:=fun i=>places.toArray[i]?) hrd (f:=fun(p:Nat×Operand)=>match places[p.1]?,rd p.2 with
           |some q,some x=>some (q.1,q.2,x)
           |_,_=>none) (fun a b hab=>by
            try dsimp only at hab
            split at hab
            . grind
            . cases hab) h4
          refine a0X hr (b6c hr (place:=fun i=>places.toArray[i]?) h1 (by simpa using hpp) h5 fun i v A g1 g2 g3=>?_);unfold Program.built;simp only[g1,h2,g2,b4V h3];exact g3
        . cases ha
      . cases hc
    . cases hc
  . rename_i z n e h1 h2;split at hc
    . rename_i s l h3 h4;cases hc;simp only[s9]at ha;split at ha
      . rename_i cs h5;simp only[p9,s6]at ha;obtain⟨rfl,rfl⟩:=ha;obtain⟨ie,q1,rfl⟩:=a1h h3;refine a0X hr (b6c hr (place:=fun i=>some (i*ie.size,ie.size)) h1 ?_ h5 fun i v A g1 g2 g3=>?_)
        . have:=b3l (G:=G) (h:=h) (w:=w) (place:=fun i=>some (i*ie.size,ie.size)) hrd (f:=fun(p:Nat×Operand)=>(rd p.2).map fun x=>(p.1*ie.size,ie.size,x)) (fun a b hab=>by
           obtain⟨d,q2,rfl⟩:=C5.1 hab;exact⟨rfl,q2⟩) (ps:=ps.toList) (l:=l.map fun p=>(p.1*ie.size,ie.size,p.2)) ?_
          . simpa using this
          . exact b6O h4
        . unfold Program.built;simp only[g1,h2,g2,q1];exact g3
      . cases ha
    . cases hc
  . cases hc
 case buildSlice t n ps=>
  split at hc
  . rename_i e h1;split at hc
    . rename_i s z l h2 h3 h4;split at hc
      . rename_i hcond;obtain⟨c1,c2,c3⟩:=hcond;simp only[p9]at hc;split at hc
        . subst hc;simp only[s9,c1,if_false]at ha;split at ha
          . rename_i es h5;split at ha
            . rename_i hpu;simp only[p9,s6]at ha;obtain⟨rfl,rfl⟩:=ha;exact c6z hr h1 h2 h3 c1 c2 c3 (by simpa using a9f hrd h4) h5 hpu
            . split at ha
              . rename_i hls;obtain⟨rfl,hls⟩:=hls;simp only[p9,s6]at ha;obtain⟨rfl,rfl⟩:=ha;exact c4z hr h1 h2 h3 c2 c3 (by simpa using a9f hrd h4) h5 hls
              . cases ha
          . cases ha
        . split at hc
          . rename_i hne;obtain⟨rfl,hl0,_⟩:=hne;obtain rfl:=a0Q.1 hl0;subst hc;simp only[s9,a7F,if_true,p9,s6]at ha;obtain⟨rfl,rfl⟩:=ha;exact c8o hr h1 h2 h3 c1 c3 (by simpa using a9f hrd h4)
          . subst hc;simp only[s9]at ha;split at ha
            . rename_i es h5;simp only[p9,s6]at ha;obtain⟨rfl,rfl⟩:=ha;exact c2O hr (hks k (by simp[G8])) h1 h2 h3 c1 c2 c3 (by simpa using a9f hrd h4) h5
            . cases ha
      . cases hc
    . cases hc
  . cases hc
 case load t a=>
  split at hc
  . rename_i g s d h1 h2 h3;split at hc
    . simp only[p9]at hc;split at hc
      . subst hc;simp only[s9]at ha;split at ha
        . rename_i k' g' o' hev;split at ha
          . rename_i r h4;simp only[p9,s6]at ha;obtain⟨rfl,rfl⟩:=ha;exact a0X hr (a8V hr h1 h2 (hrd _ _ h3) (by rw[hev];exact h4))
          . cases ha
        . cases ha
      . split at hc
        . rename_i hg;obtain⟨rfl,_⟩:=hg;subst hc;simp only[s9]at ha;split at ha
          . rename_i r h4;simp only[p9,s6]at ha;obtain⟨rfl,rfl⟩:=ha;exact a0X hr (b6s hr h1 h2 (hrd _ _ h3) h4)
          . cases ha
        . subst hc;simp only[s9]at ha;split at ha
          . rename_i r h4;simp only[p9,s6]at ha;obtain⟨rfl,rfl⟩:=ha;exact a0X hr (a8V hr h1 h2 (hrd _ _ h3) h4)
          . cases ha
    . cases hc
  . cases hc
 case store t a v=>
  split at hc
  . rename_i s da dv h1 h2 h3;split at hc
    . rename_i h0;simp only[p9]at hc;split at hc
      . subst hc;simp only[s9]at ha;split at ha
        . rename_i ws' h4;simp only[p9,s6]at ha;obtain⟨rfl,rfl⟩:=ha;exact c6V hr h1 h0 (hrd _ _ h2) (hrd _ _ h3) h4
        . cases ha
      . subst hc;simp only[s9]at ha;split at ha
        . rename_i ws' h4;simp only[p9,s6]at ha;obtain⟨rfl,rfl⟩:=ha;exact b2S hr h1 h0 (hrd _ _ h2) (hrd _ _ h3) h4
        . cases ha
    . cases hc
  . cases hc
 case nilCheck x=>
  obtain⟨d,h1,rfl⟩:=C5.1 hc;have hv:=hrd _ _ h1;simp only[s9]at ha;split at ha
  all_goals first|(cases ha;done)|skip
  all_goals
   rename_i he;simp only[p9,s6]at ha;obtain⟨rfl,rfl⟩:=ha
   first
    |rw[he]at hv
    |skip
  . have hv':=hv;unfold D at hv';unfold j8 at hv';obtain⟨b,hb,_⟩:=hv';rw[he,hb];rw[hb]at hv;exact a2K hr rfl hv
  . have hv':=hv;unfold D at hv';unfold j8 at hv';obtain⟨b,f,hb,_⟩:=hv';rw[he,hb];rw[hb]at hv;exact a2K hr rfl hv
  . have hv':=hv;unfold D at hv';unfold j8 at hv';obtain⟨b,f,hb,_⟩:=hv';rw[he,hb];rw[hb]at hv;exact a2K hr rfl hv
  . have hv':=hv;unfold D at hv';unfold j8 at hv';obtain⟨b,f,hb,_⟩:=PR.a3a.1 hv';rw[he,hb];rw[hb]at hv;exact a2K hr rfl hv
  . obtain⟨vs,us,hb,h5,h6⟩:=a8C hv;rw[hb]at hv⊢;exact a2K hr rfl hv
 case binOp op t x y yt=>
  split at hc
  . split at hc
    . split at hc
      . rename_i dx dy h1 h2;cases hc;simp only[s9]at ha;split at ha
        . rename_i r h3;simp only[p9,s6]at ha;obtain⟨rfl,rfl⟩:=ha;exact a0X hr (b9y (hrd _ _ h1) (hrd _ _ h2) h3)
        . cases ha
      . cases hc
    . rename_i hop _;split at hc
      . rename_i hst;split at hc
        . rename_i dx dy h1 h2;cases hc;simp only[s9]at ha;split at ha
          . rename_i b h3 e3;simp only[p9,s6]at ha;obtain⟨rfl,rfl⟩:=ha;have hy:=hrd _ _ h2;rw[e3]at hy;rw[Z7 hy];unfold b9F at hst;split at hst
            . rename_i e hu;exact a0X hr (c4Y hop hu (hrd _ _ h1) h3)
            . cases hst
          . cases ha
        . cases hc
      split at hc
      . rename_i hst;split at hc
        . rename_i dx dy h1 h2;cases hc;simp only[s9]at ha;split at ha
          . rename_i b h3;split at ha
            case isFalse=>cases ha
            rename_i e3;simp only[p9,s6]at ha;obtain⟨rfl,rfl⟩:=ha;unfold b9Q at hst;split at hst
            . rename_i e hu;exact a0X hr (c5q hop hu (hrd _ _ h1) (hrd _ _ h2) e3 h3)
            . cases hst
          . cases ha
        . cases hc
      split at hc
      . rename_i ts dx dy h0 h1 h2;cases hc;simp only[s9]at ha;split at ha
        . rename_i l m e1 e2;split at ha
          . rename_i b h3;simp only[p9,s6]at ha;obtain⟨rfl,rfl⟩:=ha;have hx:=hrd _ _ h1;have hy:=hrd _ _ h2;rw[e1]at hx;rw[e2]at hy;exact a0X hr (c5e hop h0 hx hy h3)
          . cases ha
        . cases ha
      . cases hc
  . split at hc
    . rename_i dx dy h1 h2;cases hc;simp only[s9]at ha;split at ha
      . rename_i r h3;simp only[p9,s6]at ha;obtain⟨rfl,rfl⟩:=ha;exact a0X hr (b9y (hrd _ _ h1) (hrd _ _ h2) h3)
      . cases ha
    . cases hc
 case unOp op t x=>
  obtain⟨d,h1,rfl⟩:=C5.1 hc;simp only[s9]at ha;split at ha
  . rename_i r h3;simp only[p9,s6]at ha;obtain⟨rfl,rfl⟩:=ha;exact a0X hr (c2m (hrd _ _ h1) h3)
  . cases ha
 case convert s d x=>
  split at hc
  . rename_i k1 k2 h1 h2;obtain⟨dx,h3,rfl⟩:=C5.1 hc;simp only[s9]at ha;split at ha
    . rename_i kk n he;simp only[p9,s6]at ha;obtain⟨rfl,rfl⟩:=ha;have hv:=hrd _ _ h3;rw[he]at hv;have:=V0 hv;rw[this];refine a0X hr ⟨_,?_,a0z⟩;simp[convert,run_underlying h1,run_underlying h2,Conv.intToInt]
    . cases ha
  . rename_i h1 h2;obtain⟨dx,h3,rfl⟩:=C5.1 hc;simp only[s9]at ha;split at ha
    . rename_i n he;simp only[p9,s6]at ha;obtain⟨rfl,rfl⟩:=ha;have hv:=hrd _ _ h3;rw[he]at hv;have:=a2q hv;rw[this];refine a0X hr ⟨_,?_,a4J⟩;simp[convert,run_underlying h1,run_underlying h2]
    . cases ha
  . rename_i e h1 h2;split at hc
    . rename_i h0;split at hc
      . obtain⟨dx,h3,rfl⟩:=C5.1 hc;simp only[s9]at ha;split at ha
        . rename_i news ws1 h4;split at ha
          . rename_i bs h5;simp only[p9,s6]at ha;obtain⟨rfl,rfl⟩:=ha;exact a0X hr (c2I hr h1 h0 h2 (hrd _ _ h3) h4 h5)
          . cases ha
        . cases ha
      . cases hc
    . cases hc
  . cases hc
 case makeSlice t l c=>
  split at hc
  . rename_i e h1;split at hc
    . rename_i s b z dl dc h2 h3 h4 h5 h6;split at hc
      . rename_i hcond;obtain⟨c1,c2,c3⟩:=hcond;cases hc;simp only[s9]at ha;split at ha
        . rename_i vl vc e1 e2;split at ha
          . rename_i hcond;obtain⟨d1,d2,d3,d4⟩:=hcond;simp only[p9,s6]at ha;obtain⟨rfl,rfl⟩:=ha;have hl:=hrd _ _ h5;have hcc:=hrd _ _ h6;rw[e1]at hl;rw[e2]at hcc;rw[V0 hl,V0 hcc];exact c9g hr (hks k (by simp[G8])) h1 h2 h3 h4 c1 c2 d1 d2 d3 d4
          . cases ha
        . cases ha
      . cases hc
    . cases hc
  . cases hc
 case slice t x lo hi mx=>
  split at hc
  . rename_i h1;split at hc
    . rename_i dx dlo dhi dmx h2 h3 h4 h5;cases hc;simp only[s9]at ha;split at ha
      . rename_i r h6;simp only[p9,s6]at ha;obtain⟨rfl,rfl⟩:=ha;exact a0X hr (c4y h1 (hrd _ _ h2) (a4m hrd h3) (a4m hrd h4) (a4m hrd h5) h6)
      . cases ha
    . cases hc
  . rename_i e h1;split at hc
    . rename_i s dx dlo dhi dmx h1' h2 h3 h4 h5;cases hc;simp only[s9]at ha;split at ha
      . rename_i r h6;simp only[p9,s6]at ha;obtain⟨rfl,rfl⟩:=ha;exact a0X hr (c5T h1 h1' (hrd _ _ h2) (a4m hrd h3) (a4m hrd h4) (a4m hrd h5) h6)
      . cases ha
    . cases hc
  . split at hc
    . rename_i n dx dlo dhi h1 h2 h3 h4;cases hc;simp only[s9]at ha;split at ha
      . rename_i r h6;simp only[p9,s6]at ha;obtain⟨rfl,rfl⟩:=ha;exact a0X hr (c2B hr h1 (hrd _ _ h2) (a4m hrd h3) (a4m hrd h4) h6)
      . cases ha
    . rename_i dx dlo dhi h1 h2 h3 h4;obtain⟨y,h5,rfl⟩:=C5.1 hc;simp only[s9]at ha;split at ha
      . rename_i r h6;simp only[p9,s6]at ha;obtain⟨rfl,rfl⟩:=ha;exact a0X hr (c7m h5 (hrd _ _ h2) (a4m hrd h3) (a4m hrd h4) h6)
      . cases ha
    . cases hc
  . cases hc
 case fieldAddr s x f=>
  split at hc
  . rename_i fd h1;split at hc
    . rename_i z d h2 h3;split at hc
      . rename_i h0;cases hc;simp only[s9]at ha;split at ha
        . rename_i r h4;simp only[p9,s6]at ha;obtain⟨rfl,rfl⟩:=ha;obtain⟨b,o,h5,h6⟩:=b3j (hrd _ _ h3) h4;rw[h5];exact a3i hr (c4B h1 h2 h0) h6
        . cases ha
      . cases hc
    . cases hc
  . cases hc
 case field t x f=>
  split at hc
  . rename_i fd h1;split at hc
    . rename_i g s d h2 h3 h4;split at hc
      . rename_i h0;cases hc;simp only[s9]at ha;split at ha
        . rename_i cs he;split at ha
          . rename_i r h5;simp only[p9,s6]at ha;obtain⟨rfl,rfl⟩:=ha;have hv:=hrd _ _ h4;rw[he]at hv;obtain⟨vs,h6,h7⟩:=a4K hv;obtain⟨u,h8,h9⟩:=b7t (P:=P) h2 h3 h7 h5;obtain⟨fs,q1,q2⟩:=b5a h1;rw[h6];exact a3i hr (by simp[Instr.field,run_underlying q1,q2,asAgg,h8]) h9
          . cases ha
        . cases ha
      . cases hc
    . cases hc
  . cases hc
 case indexAddr t x i=>
  split at hc
  . rename_i e h1;split at hc
    . rename_i s dx di h2 h3 h4;split at hc
      . cases hc;simp only[s9]at ha;split at ha
        . rename_i kk n he;split at ha
          . rename_i r h5;simp only[p9,s6]at ha;obtain⟨rfl,rfl⟩:=ha;have hi:=hrd _ _ h4;rw[he]at hi;rw[V0 hi];exact a0X hr (c4P h1 h2 (hrd _ _ h3) h5)
          . cases ha
        . cases ha
      . cases hc
    . cases hc
  . rename_i n e h1;split at hc
    . rename_i s dx di h2 h3 h4;split at hc
      . cases hc;simp only[s9]at ha;split at ha
        . rename_i kk m he;split at ha
          . rename_i hm;split at ha
            . rename_i r h5;simp only[p9,s6]at ha;obtain⟨rfl,rfl⟩:=ha;have hi:=hrd _ _ h4;rw[he]at hi;obtain⟨b,o,h6,h7⟩:=c7u (hrd _ _ h3) h5;rw[V0 hi,h6];exact a3i hr (c6c h1 h2 hm.1 hm.2) h7
            . cases ha
          . cases ha
        . cases ha
      . cases hc
    . cases hc
  . cases hc
 case index t x i=>
  split at hc
  . rename_i n e h1;split at hc
    . rename_i g s dx di h2 h3 h4 h5;split at hc
      . cases hc;simp only[s9]at ha;split at ha
        . rename_i kk m cs e1 e2;split at ha
          . rename_i hm;split at ha
            . rename_i r h6;simp only[p9,s6]at ha;obtain⟨rfl,rfl⟩:=ha;have hi:=hrd _ _ h5;have hx:=hrd _ _ h4;rw[e1]at hi;rw[e2]at hx;obtain⟨vs,h7,h8⟩:=a4K hx;obtain⟨u,h9,h10⟩:=b7t (P:=P) h2 h3 h8 h6;obtain⟨ie,q1,rfl⟩:=a1h h3;rw[V0 hi,h7];exact a3i hr (by simp[Instr.index,run_underlying h1,asIntOf,sizeOf,typeInfo,q1,hm.1,hm.2,h9]) h10
            . cases ha
          . cases ha
        . cases ha
      . cases hc
    . cases hc
  . rename_i h1;split at hc
    . rename_i dx di h2 h3;cases hc;simp only[s9]at ha;split at ha
      . rename_i kk m ss e1 e2;split at ha
        . rename_i hm;split at ha
          . rename_i b h4;simp only[p9,s6]at ha;obtain⟨rfl,rfl⟩:=ha;have hi:=hrd _ _ h3;have hx:=hrd _ _ h2;rw[e1]at hi;rw[e2]at hx;rw[V0 hi,a2q hx];have h5:ss[m.toNat]?=some b:=by
             have hlt:=(B4.1 h4).1;have hlt':m.toNat<ss.size:=(by simpa using hlt);rw[getElem?_pos ss m.toNat hlt'];have h6:=(B4.1 h4).2;rw[←h6];simp;rfl
            refine a3i hr ?_ a0z;simp[Instr.index,run_underlying h1,asIntOf,hm,h5]
          . cases ha
        . cases ha
      . cases ha
    . cases hc
  . cases hc
 case extract x i=>
  obtain⟨d,h1,rfl⟩:=C5.1 hc;simp only[s9]at ha;split at ha
  . rename_i cs he;split at ha
    . rename_i r h2;simp only[p9,s6]at ha;obtain⟨rfl,rfl⟩:=ha;have hv:=hrd _ _ h1;rw[he]at hv;obtain⟨vs,h3,h4⟩:=a8n hv;obtain⟨u,h5,h6⟩:=h4.2 _ _ h2;rw[h3];exact a3i hr (by simp[Instr.extract,h5]) h6.up
    . cases ha
  . cases ha
 case makeFunc fn a b=>
  split at hc
  . rename_i da db h1 h2;cases hc;simp only[s9]at ha;split at ha
    . rename_i hone;simp only[p9,s6]at ha;obtain⟨rfl,rfl⟩:=ha;have hl:∀{l:Array Operand} {m:List s8},M8 rd l.toList=some m→(m.map ev).all one=true→I6 (j8 G h w 5) (l.map ρ) (m.map ev):=fun{l m} hm ho=>by
       obtain⟨q1,q2⟩:=a5r hm;refine⟨by simpa using q1,fun i c hic=>?_⟩;rw[H5]at hic;obtain⟨d,hd,rfl⟩:=C5.1 hic;have hi:i<l.toList.length:=(by grind);obtain⟨d',q3,q4⟩:=q2 i _ (l9 hi);rw[hd]at q3;cases q3;refine⟨ρ l.toList[i],?_,one_cell (A8.1 ho _ (E9.2 ⟨d,C8 hd,rfl⟩)) (hrd _ _ q4)⟩;have hi':i<l.size:=(by simpa using hi);simp[hi']
      refine a3i hr (v:=.func fn (a.map ρ) (b.map ρ)) (by simp[Instr.makeFunc]) ?_;unfold D;unfold j8;exact⟨_,_,rfl,hl h1 hone.1,hl h2 hone.2⟩
    . cases ha
  . cases hc
 case call c=>
  obtain⟨callee,args,argTypes⟩:=c;cases callee<;>simp only[]at hc
  case invoke=>cases hc
  case value f=>
   cases f<;>simp only[]at hc
   case func f=>
    split at hc
    . split at hc
      . cases hc;simp[s9]at ha
      . cases hc
    . split at hc
      . cases hc;simp[s9]at ha
      . cases hc
   all_goals
    split at hc
    . cases hc;cases al<;>simp[s9]at ha
    . cases hc
  case builtin b=>
   have hres:∀n w',(builtin b argTypes type (args.map fun| .const _=>true|_=>false) (args.map ρ)).run P w=.ok n w'→(do let d ←resolve ρ {callee:=.builtin b,args:=args,argTypes:=argTypes} type;invoke d.target d.args:Sem Next).run P w=.ok n w':=fun n w' hh=>by simp only[resolve,N8,a1E,Q8,invoke];exact hh
   have conv:∀{p ws},Good P B Z0 G h w (builtin b argTypes type (args.map fun| .const _=>true|_=>false) (args.map ρ)) p ws→Good P B Z0 G h w (do let d ←resolve ρ {callee:=.builtin b,args:=args,argTypes:=argTypes} type;invoke d.target d.args:Sem Next) p ws:=fun{p ws} ⟨n,v,w',G',g1,g2⟩=>⟨n,v,w',G',hres n w' g1,g2⟩
   refine conv ?_
   generalize hA:args.toList=A at hc;generalize hT:argTypes.toList=T at hc;have hargs:args=A.toArray:=(by rw[←hA]);have htys:argTypes=T.toArray:=(by rw[←hT]);subst hargs htys;unfold a8s at hc;split at hc
   ·
    rename_i x t;split at hc
    . rename_i hu;obtain⟨d,h1,rfl⟩:=C5.1 hc;simp only[s9]at ha;split at ha
      . rename_i n h2;simp only[p9,s6]at ha;obtain⟨rfl,rfl⟩:=ha;exact a2K hr (by simp[builtin,b6U (P:=P) (t:=t) (ty:=type) (by simpa using hu) (hrd _ _ h1) h2]) a0z
      . cases ha
    . rename_i e hu;obtain⟨d,h1,rfl⟩:=C5.1 hc;simp only[s9]at ha;split at ha
      . rename_i n h2;simp only[p9,s6]at ha;obtain⟨rfl,rfl⟩:=ha;exact a2K hr (by simp[builtin,b6U (P:=P) (t:=t) (ty:=type) (by grind) (hrd _ _ h1) h2]) a0z
      . cases ha
    . rename_i n e hu;cases hc;simp only[s9,p9,s6]at ha;obtain⟨rfl,rfl⟩:=ha;exact a2K hr (by simp[builtin,Builtin.len_,run_underlying hu,goInt]) a0z
    . cases hc
   ·
    rename_i x xs t ts;split at hc
    . rename_i k0 ys hu h1;cases hc;simp only[s9]at ha;split at ha
      . rename_i kk n r he;split at ha
        . rename_i m h2;simp only[p9,s6]at ha;obtain⟨rfl,rfl⟩:=ha;obtain⟨q1,q2⟩:=a5r h1;have hall:∀(i:Nat) p,(ys.map ev)[i]?=some p→∃v,((x::xs).map ρ)[i]?=some v∧j8 G h w D v p:=fun i p hp=>by
           rw[H5]at hp;obtain⟨d,hd,rfl⟩:=C5.1 hp;have hi:i<(x::xs).length:=(by grind);obtain⟨d',q3,q4⟩:=q2 i _ (l9 hi);rw[hd]at q3;cases q3;exact⟨ρ (x::xs)[i],by rw[H5,l9 hi];rfl,hrd _ _ q4⟩
          rw[he]at hall;obtain⟨v0,q5,q6⟩:=hall 0 _ rfl;have hx:ρ x=.int kk n:=(by simp at q5;rw[q5];exact V0 q6);have hlr:(xs.map ρ).length=r.length:=by have:=congrArg List.length he;simp at this q1;simp;omega
          have hrun:=b2Q (P:=P) (mx:=false) (k:=kk) hlr (fun i p hp=>hall (i+1) p (by simpa using hp)) h2;refine a2K hr ?_ (a0z (k:=kk) (i:=m));simp[builtin,Builtin.min_,hx];simp at hrun;simp[hrun]
        . cases ha
      . cases ha
    . cases hc
   ·
    rename_i x xs t ts;split at hc
    . rename_i k0 ys hu h1;cases hc;simp only[s9]at ha;split at ha
      . rename_i kk n r he;split at ha
        . rename_i m h2;simp only[p9,s6]at ha;obtain⟨rfl,rfl⟩:=ha;obtain⟨q1,q2⟩:=a5r h1;have hall:∀(i:Nat) p,(ys.map ev)[i]?=some p→∃v,((x::xs).map ρ)[i]?=some v∧j8 G h w D v p:=fun i p hp=>by
           rw[H5]at hp;obtain⟨d,hd,rfl⟩:=C5.1 hp;have hi:i<(x::xs).length:=(by grind);obtain⟨d',q3,q4⟩:=q2 i _ (l9 hi);rw[hd]at q3;cases q3;exact⟨ρ (x::xs)[i],by rw[H5,l9 hi];rfl,hrd _ _ q4⟩
          rw[he]at hall;obtain⟨v0,q5,q6⟩:=hall 0 _ rfl;have hx:ρ x=.int kk n:=(by simp at q5;rw[q5];exact V0 q6);have hlr:(xs.map ρ).length=r.length:=by have:=congrArg List.length he;simp at this q1;simp;omega
          have hrun:=b2Q (P:=P) (mx:=true) (k:=kk) hlr (fun i p hp=>hall (i+1) p (by simpa using hp)) h2;refine a2K hr ?_ (a0z (k:=kk) (i:=m));simp[builtin,Builtin.max_,hx];simp at hrun;simp[hrun]
        . cases ha
      . cases ha
    . cases hc
   ·
    rename_i s x t u;split at hc
    . rename_i e hu;split at hc
      . rename_i sz by_ z ds dx h1 h2 h3 h4 h5;split at hc
        . rename_i hcond;obtain⟨c1,c2,c3,c4,c5⟩:=hcond;obtain rfl:u=t:=c4;cases hc;split at ha
          . rename_i hm6;simp only[s9]at ha;split at ha
            . rename_i news ws1 h6;split at ha
              case isFalse=>cases ha
              . rename_i hno;simp only[a5a,E6]at hno;obtain⟨⟨n1,_⟩,n3⟩:=hno;split at ha
                . rename_i v' ws2 h7;have hks':=hks (app.2.getD k) (by rw[if_pos hm6];simp[G8]);have hg:=b8E (P:=P) (ty:=type) (mode:=2) hr hks' hu h1 h2 h3 c3 c1 c2 (hrd _ _ h4) H6 (hrd _ _ h5) h6 (by simpa using n3) (by simpa using n1) h7;obtain rfl:=b7p h6;have hg2:=c6K hg ha;simpa[builtin]using hg2
                . cases ha
            . cases ha
          rename_i hm6;simp only[s9]at ha;split at ha
          . rename_i news ws1 h6;split at ha
            case isFalse=>cases ha
            . rename_i hno;simp only[a5a,E6]at hno;obtain⟨⟨n1,_⟩,n3⟩:=hno;split at ha
              . rename_i v' ws2 h7;simp only[p9,s6]at ha;obtain⟨rfl,rfl⟩:=ha;have hg:=b8E (P:=P) (ty:=type) hr (hks _ (by rw[if_neg hm6];simp[G8])) hu h1 h2 h3 c3 c1 c2 (hrd _ _ h4) c5 (hrd _ _ h5) h6 (by simpa using n3) (by simpa using n1) h7;simpa[builtin]using hg
              . cases ha
          . cases ha
        . split at hc
          . rename_i _ hcond;obtain⟨rfl,c2,c3,c4⟩:=hcond;have hz8:z=.int .u8 0:=by
             unfold a9P at c3;split at c3
             . simp only[beq_iff_eq]at c3;rw[c3]
             . cases c3
            subst hz8;unfold b6j at c4;split at c4
            case h_2=>cases c4
            rename_i ik hik;cases hc;simp only[s9]at ha;split at ha
            . rename_i news ws1 h6;split at ha
              case isFalse=>cases ha
              . rename_i hno;simp only[a5a,E6]at hno;split at ha
                . rename_i v' ws2 h7;simp only[p9,s6]at ha;obtain⟨rfl,rfl⟩:=ha;have hxr:=hrd _ _ h5;unfold a1q at h6;rw[if_pos rfl]at h6;unfold a8Y at h6;split at h6
                  case h_2=>cases h6
                  rename_i kk n hpx;split at h6
                  case isFalse=>cases h6
                  rename_i hn;simp only[p9,s6]at h6;obtain⟨rfl,rfl⟩:=h6;rw[hpx]at hxr;have hx:=V0 hxr;have hg:=c8u (P:=P) (ty:=type) (kk:=kk) hr (hks _ (by simp[G8])) hu hik h1 h2 h3 c2 hn (hrd _ _ h4) h7;simpa[builtin,hx]using hg
                . cases ha
            . cases ha
          . split at hc
            case isFalse=>cases hc
            rename_i _ hcond;obtain⟨rfl,c2,c3,c4⟩:=hcond;have hz8:z=.int .u8 0:=by
             unfold a9P at c3;split at c3
             . simp only[beq_iff_eq]at c3;rw[c3]
             . cases c3
            subst hz8;unfold c0K at c4;split at c4
            case h_2=>cases c4
            rename_i hik;cases hc;simp only[s9]at ha;split at ha
            . rename_i news ws1 h6;split at ha
              case isFalse=>cases ha
              . rename_i hno;simp only[a5a,E6]at hno;split at ha
                . rename_i v' ws2 h7;simp only[p9,s6]at ha;obtain⟨rfl,rfl⟩:=ha;have hxr:=hrd _ _ h5;unfold a1q at h6;rw[if_neg H6,if_pos rfl]at h6;unfold a9s at h6;split at h6
                  case h_2=>cases h6
                  rename_i bs hpx;simp only[p9,s6]at h6;obtain⟨rfl,rfl⟩:=h6;rw[hpx]at hxr;have hx:=a2q hxr;have hg:=c5O (P:=P) (ty:=type) hr (hks _ (by simp[G8])) hu hik h1 h2 h3 c2 (hrd _ _ h4) h7;simpa[builtin,hx]using hg
                . cases ha
            . cases ha
      . cases hc
    . cases hc
   ·
    split at hc
    . rename_i e0 hu;split at hc
      . rename_i sz d s h1 h2 h3;split at hc
        . rename_i h0;cases hc;simp only[s9]at ha;split at ha
          . rename_i news ws1 h4;have hg:=fun u=>c7Y (P:=P) (ty:=type) (u:=u) hr hu h1 h0 (hrd _ _ h2) (hrd _ _ h3) h4 ha;simp[builtin]at hg⊢;exact hg _
          . cases ha
        . cases hc
      . cases hc
    . cases hc
   ·
    split at hc
    . rename_i kt et hu;obtain⟨d,h1,rfl⟩:=C5.1 hc;have hg:=c2v (P:=P) (ty:=type) hr hu (hrd _ _ h1) ha;simpa[builtin]using hg
    . rename_i e0 hu;split at hc
      . rename_i z d h1 h2;split at hc
        . rename_i h0;cases hc;have hg:=c1Y (P:=P) (ty:=type) hr hu h0.1 h1 h0.2.1 (hrd _ _ h2) ha;simpa[builtin]using hg
        . cases hc
      . cases hc
    . cases hc
   . cases hc
end
section
variable{v:Value}{Z':Nat→Prop}{hide:List Nat}{p:PV}{k:Nat}
def G0(Z:Nat→Prop):Gh:={β:=fun _=>0,R:=fun _=>False,γ:=fun _=>0,σ:=fun _=>0,Z:=Z}
section
variable{P:Program}{B:Nat}{Z0:Nat→Prop}{G G':Gh}{h h':l5}{w w':World}
theorem c1B(hr:p7 B Z0 G h w)(hz:∀b,G.Z b→Z' b){g s ver i j l:Nat}{fr:Bool}{es:List PV}{e:PV}{ns:List PV}(hh:h[k]?=some (g,.arr s ver fr es))(he:es[i]?=some e)(hns:(l6 e)[j]?=some (.uslc ns))(hl:l≤ns.length)
 (hk:∀y,G.R (k,y)→Z' (G.β (k,y))) (hv:j8 G h w D v (.nown k g ver i j 0 l)):PR Z' w v (.slc (ns.take l)):=by
 unfold D at hv;unfold j8 at hv;obtain⟨a,c,rfl,q1,q2,q3,gn,ob,q4,q5,q6⟩:=hv;rw[hh]at q4;cases q4;obtain⟨_,q7⟩:=q6 rfl _ _ _ _ rfl;obtain⟨ns',hns',q8,q9,q10⟩:=q7 rfl;rw[a4w he hns]at hns';cases hns';have hlen:(ns.take l).length=l:=I3;by_cases hl0:l=0
 . subst hl0;refine PR.U2.2 ⟨a,c,0,k7,k7,q2,?_,fun i e he=>by simp at he⟩;rcases q3 with⟨_,h1⟩|⟨b,f,h1⟩
   . exact fun _=>h1
   . intro h2;rw[h1]at h2;cases h2
 . obtain⟨hR,us,T,h5,h6,h7,h8⟩:=a3n hr hh he;obtain⟨u0,h9,h10⟩:=h8 j _ hns;unfold F9 N7 at h10;have hRn:G.R (nest k i j):=Classical.byContradiction fun hc=>by
    obtain⟨_,rfl⟩:=h10.2 hc;simp at hl;omega
   obtain⟨us2,T2,ff,cc,_,_,h11,h12,h12',h13,h14,h15,h16⟩:=h10.1 hRn;obtain⟨f,rfl,q11⟩:=q9 hRn;have hf:f=0:=i9;subst hf;refine PR.U2.2 ⟨some ⟨G.β (nest k i j),0,none⟩,c,G.σ (nest k i j),by rw[hlen],by rw[hlen];exact q1,q2,fun e=>absurd e k7,fun a d hd=>?_⟩;have hal:a<l:=(by grind);rw[a0O,if_pos hal]at hd;obtain⟨p1,p2⟩:=h16 a d hd;refine⟨p1,_,_,rfl,hk _ hRn,fun t x hx=>?_⟩;obtain⟨p3,u,p4,p5⟩:=p2 t x hx;refine⟨p3,u,?_,p5.mono hz fun _ _=>rfl⟩;rw[a0U h13,U3];exact p4
theorem c9c(hr:p7 B Z0 G h w)(hz:∀b,G.Z b→Z' b)(hk:a9R (l8 h hide) p=true→∀key,G.R key→Z' (G.β key))(hpu:A6 (fzL (l8 h hide) p)=true)(hv:a0I G h w v p):PR Z' w v (fzL (l8 h hide) p):=by
 cases p<;>simp only[fzL]at hpu⊢ <;>(try (simp[A6]at hpu;done))
 case nils=>unfold a0I at hv;subst hv;exact PR.U2.2 ⟨none,0,0,rfl,m0 _,C9 _,fun _=>rfl,fun i e he=>by simp at he⟩
 case slc es=>unfold a0I at hv;exact hv.mono hz fun _ _=>rfl
 case J9 ks vs=>unfold a0I at hv;exact hv.mono hz fun _ _=>rfl
 case fptr cs=>unfold a0I at hv;exact hv.mono hz fun _ _=>rfl
 case own k g gl s o l=>
  split at hpu
  . rename_i g' s' ver fr es hlk;split at hpu
    . rename_i hc;obtain⟨rfl,hgl,rfl,hol,hp⟩:=hc;have hkk:∀y,G.R (k,y)→Z' (G.β (k,y)):=fun y hR=>by
       cases fr with
       |true=>exact hz _ (hr.fz k _ _ (T9 hlk k7) rfl y hR)
       |false=>exact hk (by simp[a9R,hlk]) _ hR
      simp only[hlk];rw[if_pos (by grind)];exact b1y hr hz (T9 hlk k7) hgl hol hp hkk ((b0v (n:=D)).1 hv)
    . simp[A6]at hpu
  . simp[A6]at hpu
 all_goals (unfold a0I at hv;exact⟨0,by unfold K0;exact hv⟩)
theorem b4g(hr:p7 B Z0 G h w)(hz:∀b,G.Z b→Z' b){n:Nat}(hk:a7q (l8 h hide) p=true→∀key,G.R key→Z' (G.β key))(hn:(∀cs,p≠ .agg cs)∧(∀cs,p≠ .tup cs)∧∀f a b,p≠ .fn f a b)(hv:j8 G h w n v p)(m:Nat):j8 (G0 Z') [] w m v (fzC (l8 h hide) p):=by
 have hvD:j8 G h w D v p:=hv.cell hn;cases p<;>simp only[fzC]<;>(try exact L3)
 case bool=>obtain rfl:=a1c hv;exact a1l
 case int=>obtain rfl:=V0 hv;exact a0z
 case str=>obtain rfl:=a2q hv;exact a4J
 case lit=>unfold D at hvD;unfold j8 at hvD;cases m<;>(unfold j8;exact hvD)
 case nils=>obtain rfl:=Z7 hv;exact a1d (PR.U2.2 ⟨none,0,0,rfl,m0 _,C9 _,fun _=>rfl,fun i e he=>by simp at he⟩)
 case ne=>
  unfold D at hvD;unfold j8 at hvD;obtain⟨b,o,rfl⟩:=hvD;exact a1d (PR.U2.2 ⟨some ⟨b,o,none⟩,0,0,rfl,m0 _,C9 _,fun _=>rfl,fun i e he=>by simp at he⟩)
 case slc es=>exact a1d ((a2M hv).mono hz fun _ _=>rfl)
 case J9 ks vs=>exact a7y ((a9l hv).mono hz fun _ _=>rfl)
 case fptr cs=>exact a4P ((a9t hv).mono hz fun _ _=>rfl)
 case lst es=>
  split
  . rename_i hpu;unfold D at hvD;unfold j8 at hvD;obtain⟨a,c,rfl,q1,q2,q3⟩:=hvD;refine a1d (PR.U2.2 ⟨some a,c,1,k7,by simpa using q1,q2,k7,fun i e he=>?_⟩);rw[H5]at he;obtain⟨e0,he0,rfl⟩:=C5.1 he;obtain⟨b,o,u,rfl,q4,q5,q6⟩:=q3 i e0 he0;have hp:=A8.1 hpu _ (E9.2 ⟨e0,C8 he0,rfl⟩);refine⟨by rw[a8e hp];rfl,b,o,rfl,hz b q4,fun j c hc=>?_⟩;obtain⟨rfl,rfl⟩:=b0P hp hc;exact⟨a3U hp,u,by rw[Nat.mul_one,a3t];exact q5,c9c hr hz (fun ho=>hk (a9x.2 ⟨e0,C8 he0,ho⟩)) hp q6⟩
  . exact L3
 case own k g gl s o l=>
  split
  . rename_i g' s' ver fr es hlk;split
    . rename_i hc;obtain⟨rfl,hgl,rfl,hol,hp⟩:=hc;have hkk:∀y,G.R (k,y)→Z' (G.β (k,y)):=fun y hR=>by
       cases fr with
       |true=>exact hz _ (hr.fz k _ _ (T9 hlk k7) rfl y hR)
       |false=>exact hk (by simp[a7q,hlk]) _ hR
      exact a1d (b1y hr hz (T9 hlk k7) hgl hol hp hkk hvD)
    . exact L3
  . exact L3
 case nown k g ver i j o l=>
  split
  . rename_i g' s' ver' fr es hlk;split
    . rename_i hc;obtain⟨rfl,rfl⟩:=hc;split
      . rename_i e he;split
        . rename_i ns hns;split
          . rename_i hc2;obtain⟨rfl,hl⟩:=hc2;exact a1d (c1B hr hz (T9 hlk k7) he hns hl (fun y hR=>hk rfl _ hR) hvD)
          . exact L3
        . exact L3
      . exact L3
    . exact L3
  . exact L3
theorem c2E(hr:p7 B Z0 G h w)(hz:∀b,G.Z b→Z' b)(hk:a7q (l8 h hide) p=true→∀key,G.R key→Z' (G.β key))(hn:(∀cs,p≠ .agg cs)∧(∀cs,p≠ .tup cs)∧∀f a b,p≠ .fn f a b)(hv:j8 G h w D v p):j8 (G0 Z') [] w D v (fzP (l8 h hide) p):=by
 cases p<;>simp only[fzP]
 case ptr k g o=>
  have hZ:=hk rfl;split
  . rename_i g' cs hlk;split
    . rename_i hc;obtain⟨rfl,hp⟩:=hc;have hh:=T9 hlk k7;unfold D at hv;unfold j8 at hv;obtain⟨b,rfl,gn,ob,h1,h2,h3⟩:=hv;rw[hh]at h1;cases h1;obtain rfl:=h3 rfl cs rfl;obtain⟨hR,us,T,h4,h5,h6⟩:=hr.ob k _ _ hh;refine a4P (PR.a3a.2 ⟨_,o,rfl,hZ _ hR,fun j c hc=>?_⟩);rw[H5]at hc;obtain⟨c0,hc0,rfl⟩:=C5.1 hc;rw[a3s]at hc0;obtain⟨u,h7,h8,h9⟩:=h6 _ _ hc0;have hpc:=A8.1 hp _ (E9.2 ⟨c0,C8 (by rw[a3s];exact hc0),rfl⟩);refine⟨a3U hpc,u,by rw[a0U h4];exact h7,a4D (G:=G0 Z') hpc (b4g (hide:=hide) hr hz (fun _=>hZ) (b0O (b8a h8 fun f a b e=>by subst e;simp[fzC,A6]at hpc)) h9 D)⟩
    . exact L3
  . exact L3
 case eptr k g gl s i j=>
  have hZ:=hk rfl;split
  . rename_i g' s' ver fr es hlk;split
    . rename_i hc;obtain⟨rfl,hgl,rfl,rfl⟩:=hc;split
      . rename_i e he;split
        . rename_i hp;have hh:=T9 hlk k7;unfold D at hv;unfold j8 at hv;obtain⟨b,f,rfl,gn,ob,h1,h2,h3⟩:=hv;rw[hh]at h1;cases h1;obtain⟨q1,q2⟩:=h3 rfl _ _ _ _ rfl;obtain⟨rfl,q3,q4⟩:=q2 hgl;have q3:=q3 rfl;subst q3;obtain⟨o1,o2,o3,o4,o5⟩:=hr.ob k _ _ hh;by_cases hR:G.R (root k)
          . obtain⟨us,T,o6,o7,o8⟩:=o4 hR;obtain⟨o9,o10⟩:=o8 i e he;refine a4P (PR.a3a.2 ⟨_,_,rfl,hZ _ hR,fun j c hc=>?_⟩);rw[H5]at hc;obtain⟨c0,hc0,rfl⟩:=C5.1 hc;have hpc:=A8.1 hp _ (E9.2 ⟨c0,C8 hc0,rfl⟩);obtain⟨u,o11,o12⟩:=o10 j c0 hc0;refine⟨a3U hpc,u,by rw[a0U o6,a3t];exact o11,?_⟩;cases c0<;>simp only[M1]at hpc⊢ <;>(try (simp[A6]at hpc;done))
            case uslc ns=>exact b5Z hz (fun r=>hZ _ r) o12
            case nils=>
             unfold F9 at o12;obtain rfl:=Z7 o12.2;exact PR.U2.2 ⟨none,0,0,rfl,m0 _,C9 _,fun _=>rfl,fun i e he=>by simp at he⟩
            all_goals
             unfold F9 at o12;exact(a4D hpc o12.2).mono hz fun _ _=>rfl
          grind
        . exact L3
      . exact L3
    . exact L3
  . exact L3
 all_goals exact b4g (hide:=hide) hr hz hk hn hv D
theorem c8h(hr:p7 B Z0 G h w)(hz:∀b,G.Z b→Z' b)(hk:a2g (l8 h hide) p=true→∀key,G.R key→Z' (G.β key))(hv:j8 G h w D v p):j8 (G0 Z') [] w D v (fzV (l8 h hide) p):=by
 cases p
 case agg cs=>
  obtain⟨vs,rfl,h1,h2⟩:=a4K hv;refine a6l ⟨by simpa using h1,fun i c hc=>?_⟩;rw[H5]at hc;obtain⟨c0,hc0,rfl⟩:=C5.1 hc;obtain⟨u,h3,h4⟩:=h2 i c0 hc0;refine⟨u,h3,?_⟩;have hu:∀(c:PV),fzC (l8 h hide) c=.uu→j8 (G0 Z') [] w 5 u (fzC (l8 h hide) c):=fun c e=>by rw[e];exact L3
  cases c0
  case agg|tup|fn=>exact L3
  all_goals exact b4g (hide:=hide) hr hz (fun ho=>hk (a9x.2 ⟨_,C8 hc0,ho⟩)) (by grind) h4 5
 case tup|fn=>exact L3
 all_goals exact c2E (hide:=hide) hr hz (fun ho=>hk (by simpa[a2g,l6]using ho)) (by grind) hv
end
def a1b(szs:List Nat)(p:Nat):Nat×Nat:=(p,szs.getD p 0)
def a0v(szs:List Nat)(r:PV):l5:=m6 (List.replicate (B5 r).length (0,.dead)) (J4 (a1b szs) (fun _=>1) 0 (B5 r))
def a1P(P:Program)(f:FuncId):Bool:=match P.funcs[f]? with
 |some fn=>!(fn.name== "runtime.NumGoroutine")&&fn.body.isSome
 |none=>false
def Fn(P:Program)(f:FuncId)(szs:List Nat)(args:List PV)(r:PV):Prop:=
 a1P P f=true∧∀(w:World) (Z:Nat→Prop) (vargs:Array Value),(∀b,Z b→V6 w b)→I6 (j8 (G0 Z) [] w D) vargs args→
  Calls P f vargs w fun e w'=>∃v G,e=.returned v∧Bl w.heap.size w w'∧p7 w.heap.size Z G (a0v szs r) w'∧j8 G (a0v szs r) w' D v (X2 (a1b szs) (fun _=>1) r)
def FI(P:Program)(v:PV)(args:List PV)(h:l5)(r:PV)(ws:List (Nat×Row)):Prop:=
 ∃f first cap,v=.fn (.func f) first cap∧a1P P f=true∧(first.all one&&cap.all one)=true∧∀(B:Nat) (Z0:Nat→Prop) (G:Gh) (w:World) (vf va vc:Array Value),p7 B Z0 G h w→I6 (j8 G h w D) vf first→I6 (j8 G h w D) va args→I6 (j8 G h w D) vc cap→
  Calls P f (vf++va++vc) w fun e w'=>∃u G',e=.returned u∧p7 B Z0 G' (m6 h ws) w'∧Ext G h w G' (m6 h ws) w'∧j8 G' (m6 h ws) w' D u r∧Bl B w w'
def fz(ρ:Option Nat):Fence:={Fence.wide with round:=ρ}
def ItR(B:Nat)(Z0:Nat→Prop)(Ψ:Option O6→Gh→l5→World→Prop)(k:Option O6→l5→Prop)(G:Gh)(h:l5)(w:World):Ending→World→Prop:=fun e w'=>
 ∃p h' G',e=.returned (.bool p.isNone)∧k p h'∧p7 B Z0 G' h' w'∧Ext G h w G' h' w'∧Ψ p G' h' w'∧w.heap.size≤w'.heap.size∧∀m ds,a0k m ds w→a0k m ds w'
def IT(P:Program)(v:PV)(Y:YT)(h:l5)(K:Option O6→l5→Prop):Prop:=
 ∃f cap,v=.fn (.func f) [] cap∧a1P P f=true∧cap.all one=true∧∀(B:Nat) (Z0:Nat→Prop) (G:Gh) (w:World) (vc:Array Value) (l:Nat) (Ψ:Option O6→Gh→l5→World→Prop),
  p7 B Z0 G h w→I6 (j8 G h w D) vc cap→
  (∀{p:Option O6} {G:Gh} {h:l5} {w:World} {G':Gh} {h':l5} {w':World},Ψ p G h w→Ext G h w G' h' w'→Bl B w w'→Ψ p G' h' w')→
  (∀{Z1:Nat→Prop} {p:Option O6} {G:Gh} {h:l5} {w1 w2:World},p7 B Z1 G h w1→Ψ p G h w1→X0 w.heap.size w1 w2→Ψ p G h w2)→
  (∀{args:List PV} {h1:l5} {k:Option O6→l5→Prop},Y args h1 k→∀{G1:Gh} {w1:World} {va:Array Value},p7 B Z0 G1 h1 w1→Ψ none G1 h1 w1→I6 (j8 G1 h1 w1 D) va args→∀n,YieldAt (fz none) n P l va w1 (ItR B Z0 Ψ k G1 h1 w1))→
  Ψ none G h w→
  Calls P f (#[.func (.yield l) #[] #[]]++vc) w fun e w'=>∃u p h' G',e=.returned u∧K p h'∧p7 B Z0 G' h' w'∧Ext G h w G' h' w'∧Ψ p G' h' w'
theorem IT.mono{P:Program}{v:PV}{Y:YT}{h:l5}{K K':Option O6→l5→Prop}(hk:∀p h,K p h→K' p h)(hi:IT P v Y h K):IT P v Y h K':=by
 obtain⟨f,cap,h1,h2,h3,h4⟩:=hi;refine⟨f,cap,h1,h2,h3,fun B Z0 G w vc l Ψ a1 a2 a3 a4 a5 a6=>(h4 B Z0 G w vc l Ψ a1 a2 a3 a4 a5 a6).mono ?_⟩
 grind
def fyI(P:Program):PV→List PV→List PV→l5→(PV→List PV→l5→Prop)→Prop:=fun v args vars h K=>∃r ws,FI P v args h r ws∧K r vars (m6 h ws)
abbrev fns(P:Program):N2:=⟨Fn P,FI P,fyI P,IT P,fun hk ⟨r,ws,h1,h2⟩=>⟨r,ws,h1,hk _ _ _ h2⟩,fun hk h=>h.mono hk⟩
section
variable{P:Program}{B:Nat}{Z0:Nat→Prop}{G G':Gh}{h h':l5}{w w':World}
theorem b0k{ks:Nat→Nat×Nat}{gen:Nat→Nat}:∀{cells:List PV} {q:Nat} {x:Nat×Row},x∈J4 ks gen q cells→∃i es,cells[i]?=some (.uslc es)∧x=((ks (q+i)).1,(gen (ks (q+i)).1,.arr (ks (q+i)).2 0 false es))
 | [],q,x,hx=>by simp[J4]at hx
 |c::cells,q,x,hx=>by
  have rest:x∈J4 ks gen (q+1) cells→∃i es,(c::cells)[i]?=some (.uslc es)∧x=((ks (q+i)).1,(gen (ks (q+i)).1,.arr (ks (q+i)).2 0 false es)):=fun hx=>by obtain⟨i,es,h1,h2⟩:=b0k hx;exact⟨i+1,es,by simpa using h1,by rw[h2,show q+(i+1)=q+1+i by omega]⟩
  cases c<;>simp only[J4]at hx<;>(try exact rest hx)
  case uslc es=>
   rcases Z5.1 hx with rfl|hx
   . exact⟨0,es,rfl,rfl⟩
   . exact rest hx
theorem a5K{ks:Nat→Nat×Nat}{gen:Nat→Nat}:∀{cells:List PV} {q i:Nat} {es:List PV},cells[i]?=some (.uslc es)→((ks (q+i)).1,(gen (ks (q+i)).1,Ob.arr (ks (q+i)).2 0 false es))∈J4 ks gen q cells
 | [],q,i,es,hi=>by simp at hi
 |c::cells,q,0,es,hi=>by simp at hi;subst hi;simp[J4]
 |c::cells,q,i+1,es,hi=>by have:=a5K (ks:=ks) (gen:=gen) (q:=q+1) (show cells[i]?=some (.uslc es)by simpa using hi);rw[show q+(i+1)=q+1+i by omega];cases c<;>simp only[J4]<;>first|exact this|exact a5g _ this
theorem a5y:∀{l:List Nat},a3j l=true→l.Nodup
 | [],_=>List.nodup_nil
 |k::l,hk=>by simp only[a3j,E6]at hk;refine a4H.2 ⟨by simpa using hk.1,a5y hk.2⟩
theorem b4s:∀{ws:List (Nat×Row)} {h:l5} {k:Nat} {r:Row},(ws.map (·.1)).Nodup→(k,r)∈ws→k<h.length→(m6 h ws)[k]?=some r
 | [],h,k,r,_,hm,_=>by simp at hm
 |x::ws,h,k,r,hn,hm,hk=>by
  simp only[a0s,a4H]at hn;rw[show m6 h (x::ws)=m6 (h.set x.1 x.2) ws from rfl];rcases Z5.1 hm with rfl|hm
  . rw[a5j ws _ _ hn.1,D7 hk]
  . exact b4s hn.2 hm (by simpa using hk)
theorem c0J{szs:List Nat}:∀(cells:List PV) (q:Nat),((J4 (a1b szs) (fun _=>1) q cells).map (·.1)).Nodup∧∀k∈(J4 (a1b szs) (fun _=>1) q cells).map (·.1),q≤k
 | [],q=>by simp[J4]
 |c::cells,q=>by
  obtain⟨h1,h2⟩:=c0J (szs:=szs) cells (q+1);cases c<;>simp only[J4]<;>(try exact⟨h1,fun k hk=>by have:=h2 k hk;omega⟩);refine⟨?_,fun k hk=>?_⟩
  . simp only[a0s,a4H];exact⟨fun hm=>by have:=h2 _ hm;simp[a1b]at this;omega,h1⟩
  . simp only[a0s,Z5]at hk;rcases hk with rfl|hk
    all_goals grind
theorem a7X{szs:List Nat}{r:PV}{p:Nat}{es:List PV}(hp:(B5 r)[p]?=some (.uslc es)):(a0v szs r)[p]?=some (1,.arr (szs.getD p 0) 0 false es):=by have hm:=a5K (ks:=a1b szs) (gen:=fun _=>1) (q:=0) hp;unfold a0v;have:=b4s (h:=List.replicate (B5 r).length (0,Ob.dead)) (c0J _ 0).1 hm (by simpa[a1b]using(B4.1 hp).1);simpa[a1b]using this
noncomputable def P8(ks:Nat→Nat×Nat)(cells:List PV)(k:Nat):Option Nat:=
 @dite _ (∃p es,cells[p]?=some (.uslc es)∧(ks p).1=k) (Classical.propDecidable _) (fun hx=>some hx.choose) fun _=>none
theorem c1r{ks:Nat→Nat×Nat}{cells:List PV}{p:Nat}(hj:P8 ks cells k=some p):∃es,cells[p]?=some (.uslc es)∧(ks p).1=k:=by
 unfold P8 at hj;split at hj
 . grind
 . cases hj
theorem b6o{ks:Nat→Nat×Nat}{cells:List PV}(hj:P8 ks cells k=none):∀p es,cells[p]?=some (.uslc es)→(ks p).1≠k:=by
 unfold P8 at hj;split at hj
 . cases hj
 . grind
theorem c0D{ks:Nat→Nat×Nat}{gen:Nat→Nat}:∀{cells:List PV} {q:Nat},((J4 ks gen q cells).map (·.1)).Nodup→∀{i j:Nat} {es es':List PV},cells[i]?=some (.uslc es)→cells[j]?=some (.uslc es')→(ks (q+i)).1=(ks (q+j)).1→i=j
 | [],q,_,i,j,es,es',hi,_,_=>by simp at hi
 |c::cells,q,hn,i,j,es,es',hi,hj,he=>by
  have tail:((J4 ks gen (q+1) cells).map (·.1)).Nodup:=by cases c<;>simp only[J4]at hn<;>first|exact hn|(simp only[a0s,a4H]at hn;exact hn.2)
  cases i with
  |zero=>
   cases j with
   |zero=>rfl
   |succ j=>
    exfalso;simp at hi;subst hi;simp only[J4,a0s,a4H]at hn;apply hn.1;have:=a5K (ks:=ks) (gen:=gen) (q:=q+1) (show cells[j]?=some (.uslc es')by simpa using hj);refine E9.2 ⟨_,this,?_⟩;rw[show q+1+j=q+(j+1)by omega];exact he.symm
  |succ i=>
   cases j with
   |zero=>
    exfalso;simp at hj;subst hj;simp only[J4,a0s,a4H]at hn;apply hn.1;have:=a5K (ks:=ks) (gen:=gen) (q:=q+1) (show cells[i]?=some (.uslc es)by simpa using hi);refine E9.2 ⟨_,this,?_⟩;rw[show q+1+i=q+(i+1)by omega];exact he
   |succ j=>
    have:=c0D (q:=q+1) tail (show cells[i]?=some (.uslc es)by simpa using hi) (show cells[j]?=some (.uslc es')by simpa using hj) (by grind);omega
noncomputable def Gh.a1p(G G':Gh)(n:Nat)(J:Nat→Option Nat):Gh:=
 {β:=fun key=>match J key.1 with|some p=>G'.β (p,key.2)|none=>G.β key
  R:=fun key=>match J key.1 with|some p=>G'.R (p,key.2)|none=>G.R key
  γ:=fun key=>match J key.1 with|some p=>G'.γ (p,key.2)|none=>G.γ key
  σ:=fun key=>match J key.1 with|some p=>G'.σ (p,key.2)|none=>G.σ key
  Z:=fun b=>G.Z b∨(G'.Z b∧n≤b)}
theorem b1h(ks:Nat→Nat×Nat)(gen:Nat→Nat):∀(cs:List PV) (q i:Nat),(a1O ks gen q cs)[i]?=(cs[i]?).map (M5 (ks (q+i)) gen)
 | [],q,i=>by simp[a1O]
 |c::cs,q,0=>by simp[a1O]
 |c::cs,q,i+1=>by simp[a1O,b1h ks gen cs (q+1) i];rw[show q+(i+1)=q+1+i by omega]
theorem b1Y(ks:Nat→Nat×Nat)(gen:Nat→Nat):∀(cs:List PV) (q:Nat),(a1O ks gen q cs).length=cs.length
 | [],q=>rfl
 |c::cs,q=>by simp[a1O,b1Y ks gen cs (q+1)]
section
variable{k1 k2:Nat→Nat×Nat}{g1 g2:Nat→Nat}{cells:List PV}
theorem b8A(hc:∀{n:Nat} {u:Value} {p:Nat} {c:PV},cells[p]?=some c→j8 G h w n u (M5 (k1 p) g1 c)→j8 G' h' w' n u (M5 (k2 p) g2 c)){n q:Nat}{c:PV}
 (hq:∀(i:Nat) x,(l6 c)[i]?=some x→cells[q+i]?=some x) (hv:j8 G h w n v (a2c k1 g1 q c)):j8 G' h' w' n v (a2c k2 g2 q c):=by
 cases c
 case agg cs=>
  simp only[a2c]at hv⊢;cases n with
  |zero=>unfold j8 at hv;exact hv.elim
  |succ n=>
   unfold j8 at hv⊢;obtain⟨vs,rfl,h1,h2⟩:=hv;refine⟨vs,rfl,by rw[b1Y]at h1⊢;exact h1,fun i c hi=>?_⟩;rw[b1h]at hi;obtain⟨c0,hc0,rfl⟩:=C5.1 hi;obtain⟨u,h3,h4⟩:=h2 i (M5 (k1 (q+i)) g1 c0) (by rw[b1h,hc0];rfl);exact⟨u,h3,hc (hq i c0 hc0) h4⟩
 all_goals exact hc (hq 0 _ rfl) hv
theorem b9Z(hc:∀{n:Nat} {u:Value} {p:Nat} {c:PV},cells[p]?=some c→j8 G h w n u (M5 (k1 p) g1 c)→j8 G' h' w' n u (M5 (k2 p) g2 c)){n:Nat}:∀{vs:List PV} {q:Nat} {U:Nat→Option Value},
 (∀(i:Nat) x,(vs.flatMap l6)[i]?=some x→cells[q+i]?=some x)→(∀(i:Nat) p,(a1z k1 g1 q vs)[i]?=some p→∃u,U i=some u∧j8 G h w n u p)→∀(i:Nat) p,(a1z k2 g2 q vs)[i]?=some p→∃u,U i=some u∧j8 G' h' w' n u p
 | [],q,U,_,_,i,p,hp=>by simp[a1z]at hp
 |c::vs,q,U,hq,hU,i,p,hp=>by
  simp only[a1z]at hp;cases i with
  |zero=>
   simp at hp;subst hp;obtain⟨u,h1,h2⟩:=hU 0 _ (by simp[a1z];rfl);refine⟨u,h1,b8A hc (fun i x hx=>hq i x ?_) h2⟩;rw[a2C,a0R (B4.1 hx).1];exact hx
  |succ i=>
   refine b9Z hc (vs:=vs) (q:=q+(l6 c).length) (U:=fun i=>U (i+1)) (fun i x hx=>?_) (fun i p hp=>hU (i+1) p (by simpa[a1z]using hp)) i p (by simpa using hp);rw[Nat.add_assoc];refine hq _ x ?_;rw[a2C,a3X i9,Nat.add_sub_cancel_left];exact hx
theorem b1G(ks:Nat→Nat×Nat)(gen:Nat→Nat):∀(cs:List PV) (q:Nat),(a1z ks gen q cs).length=cs.length
 | [],q=>rfl
 |c::cs,q=>by simp[a1z,b1G ks gen cs _]
end
theorem b9a{k1 k2:Nat→Nat×Nat}{g1 g2:Nat→Nat}{r:PV}(hc:∀{n:Nat} {u:Value} {p:Nat} {c:PV},(B5 r)[p]?=some c→j8 G h w n u (M5 (k1 p) g1 c)→j8 G' h' w' n u (M5 (k2 p) g2 c))(hv:j8 G h w D v (X2 k1 g1 r)):j8 G' h' w' D v (X2 k2 g2 r):=by
 cases r
 case tup vs=>
  simp only[X2]at hv⊢;obtain⟨us,rfl,h1,h2⟩:=a8n hv;unfold D;unfold j8;refine⟨us,rfl,by rw[b1G]at h1⊢;exact h1,b9Z (cells:=B5 (.tup vs)) hc (q:=0) (U:=fun i=>us[i]?) (fun i x hx=>by rw[U3];exact hx) h2⟩
 all_goals exact b8A (cells:=B5 _) hc (q:=0) (fun i x hx=>by rw[U3];simpa[B5,a0m]using hx) hv
theorem a1p(hr:p7 B Z0 G h w)(hb:Bl w.heap.size w w'){szs:List Nat}{r:PV}{v:Value}{Z':Nat→Prop}(hr':p7 w.heap.size Z' G' (a0v szs r) w')(hv:j8 G' (a0v szs r) w' D v (X2 (a1b szs) (fun _=>1) r))
 (hz:∀b,G'.Z b→G.Z b∨w.heap.size≤b) {ks:Nat→Nat×Nat} {gen:Nat→Nat} (hok:rOk r=true) (hn:((J4 ks gen 0 (B5 r)).map (·.1)).Nodup) (hsz:∀p es,(B5 r)[p]?=some (.uslc es)→(ks p).2=szs.getD p 0)
 (hg:∀p es,(B5 r)[p]?=some (.uslc es)→∃o,h[(ks p).1]?=some (gen (ks p).1-1,o)∧0<gen (ks p).1):
 ∃G'',p7 B Z0 G'' (m6 h (J4 ks gen 0 (B5 r))) w'∧Ext G h w G'' (m6 h (J4 ks gen 0 (B5 r))) w'∧j8 G'' (m6 h (J4 ks gen 0 (B5 r))) w' D v (X2 ks gen r)∧Bl B w w':=by
 have hJ:∀{k p},P8 ks (B5 r) k=some p→(ks p).1=k∧∃es,(B5 r)[p]?=some (.uslc es):=fun hj=>by obtain⟨es,h1,h2⟩:=c1r hj;exact⟨h2,es,h1⟩
 have hJ':∀{p es},(B5 r)[p]?=some (.uslc es)→P8 ks (B5 r) (ks p).1=some p:=fun{p es} hp=>by
  cases hj:P8 ks (B5 r) (ks p).1 with
  |none=>exact absurd rfl (b6o hj p es hp)
  |some p'=>
   obtain⟨h1,es',h2⟩:=hJ hj;rw[c0D hn h2 hp (by grind)]
 have hin:∀{p es},(B5 r)[p]?=some (.uslc es)→(m6 h (J4 ks gen 0 (B5 r)))[(ks p).1]?=some (gen (ks p).1,.arr (ks p).2 0 false es):=fun{p es} hp=>by have hm:=a5K (ks:=ks) (gen:=gen) (q:=0) hp;rw[U3]at hm;obtain⟨o,ho,_⟩:=hg p es hp;exact b4s hn hm (B4.1 ho).1
 have hout:∀{k},P8 ks (B5 r) k=none→(m6 h (J4 ks gen 0 (B5 r)))[k]?=h[k]?:=fun{k} hj=>by refine a5j _ _ _ fun hm=>?_;obtain⟨x,hx,rfl⟩:=E9.1 hm;obtain⟨i,es,h1,h2⟩:=b0k hx;rw[h2]at hj;exact b6o hj i es h1 (by grind)
 have hsame:∀{k y},P8 ks (B5 r) k=none→B8 G (G.a1p G' w.heap.size (P8 ks (B5 r))) (k,y):=fun{k y} hj=>by refine⟨?_,?_,?_,?_⟩<;>simp only[Gh.a1p,hj]
 have hnew:∀{k p y},P8 ks (B5 r) k=some p→(G.a1p G' w.heap.size (P8 ks (B5 r))).β (k,y)=G'.β (p,y)∧((G.a1p G' w.heap.size (P8 ks (B5 r))).R (k,y)↔G'.R (p,y))∧(G.a1p G' w.heap.size (P8 ks (B5 r))).γ (k,y)=G'.γ (p,y)∧(G.a1p G' w.heap.size (P8 ks (B5 r))).σ (k,y)=G'.σ (p,y):=fun{k p y} hj=>by refine⟨?_,?_,?_,?_⟩<;>simp only[Gh.a1p,hj]
 have x:Ext G h w (G.a1p G' w.heap.size (P8 ks (B5 r))) (m6 h (J4 ks gen 0 (B5 r))) w':=by
  refine⟨fun _ y=>.inl y,fun b hb'=>hb.block b (hr.zb b hb').lt,fun k gn ob e=>?_⟩;cases hj:P8 ks (B5 r) k with
  |none=>exact⟨gn,ob,(hout hj).trans e,m0 _,fun _=>K5.refl k ob (hsame hj) fun i j=>hsame hj⟩
  |some p=>
   obtain⟨rfl,es,hp⟩:=hJ hj;obtain⟨o,ho,h0⟩:=hg p es hp;rw[ho]at e;cases e;exact⟨_,_,hin hp,i9,fun e=>i9⟩
 have hzz:∀b,G'.Z b→(G.a1p G' w.heap.size (P8 ks (B5 r))).Z b:=fun b hb'=>(hz b hb').imp id fun h1=>⟨hb',h1⟩
 have hcell:∀{p k i j u c es},(B5 r)[p]?=some (.uslc es)→P8 ks (B5 r) k=some p→(A6 c||I5 c)=true→F9 G' (a0v szs r) w' p i j u c→F9 (G.a1p G' w.heap.size (P8 ks (B5 r))) (m6 h (J4 ks gen 0 (B5 r))) w' k i j u c:=fun{p k i j u c es} hp hj hnr hc=>by
  cases c
  case uslc ns=>
   unfold F9 N7 at hc⊢;obtain⟨a1,a2,a3,a4⟩:=hnew (y:=some (i,j)) hj;rw[a1,a2,a3,a4];refine⟨fun rr=>?_,hc.2⟩;obtain⟨us,T,f,cc,n1,n2,n3,n4,n5,n6,n7,n8,n9⟩:=hc.1 rr;refine⟨us,T,f,cc,n1,n2,n3,n4,n5,n6,n7,n8,fun a e he=>?_⟩;obtain⟨m1,m2⟩:=n9 a e he;refine⟨m1,fun t c hc=>?_⟩;obtain⟨m3,vv,m4,m5⟩:=m2 t c hc;exact⟨m3,vv,m4,m5.mono hzz fun _ _=>rfl⟩
  case nils=>
   unfold F9 at hc⊢;obtain rfl:=Z7 hc.2;exact⟨rfl,a4W⟩
  all_goals
   unfold F9 at hc⊢
   first
    |exact⟨hc.1,a1y hc.1 ((a4D (by simpa[I5]using hnr) hc.2).mono hzz fun _ _=>rfl)⟩
 have hB:B≤w.heap.size:=hr.base;refine⟨_,⟨S7 hB hb.size,?_,?_,?_,?_,?_,?_,?_⟩,x,?_,hb.mono hB⟩
 . rintro b (h1|⟨h1,h2⟩)
   . exact hr.zo b h1
   . exact .inr i9
 . rintro b (h1|⟨h1,h2⟩)
   . exact(hr.zb b h1).eq (hb.block b (hr.zb b h1).lt)
   . exact hr'.zb b h1
 . rintro⟨k,y⟩ hR;cases hj:P8 ks (B5 r) k with
   |none=>
    obtain⟨a1,a2,_⟩:=hsame (y:=y) hj;obtain⟨b1,b2⟩:=hr.lv _ (a2.1 hR);rw[a1];exact⟨b1,b2.eq (hb.block _ b2.lt)⟩
   |some p=>
    obtain⟨a1,a2,_⟩:=hnew (y:=y) hj;obtain⟨b1,b2⟩:=hr'.lv _ (a2.1 hR);rw[a1];exact⟨i9,b2⟩
 . rintro k g o ho hlv y hR;cases hj:P8 ks (B5 r) k with
   |none=>
    obtain⟨a1,a2,_⟩:=hsame (y:=y) hj;rw[hout hj]at ho;rw[a1];rintro(h1|⟨h1,h2⟩)
    . exact hr.nz k g o ho hlv y (a2.1 hR) h1
    . have:=(hr.lv _ (a2.1 hR)).2.lt;omega
   |some p=>
    obtain⟨rfl,es,hp⟩:=hJ hj;obtain⟨a1,a2,_⟩:=hnew (y:=y) hj;rw[a1];have hnz:=hr'.nz p 1 _ (a7X hp) rfl y (a2.1 hR);rintro(h1|⟨h1,h2⟩)
    . have:=(hr.zb _ h1).lt;have:=(hr'.lv _ (a2.1 hR)).1;omega
    . exact hnz h1
 . rintro k g o ho hfo y hR;cases hj:P8 ks (B5 r) k with
   |none=>
    obtain⟨a1,a2,_⟩:=hsame (y:=y) hj;rw[hout hj]at ho;rw[a1];exact .inl (hr.fz k g o ho hfo y (a2.1 hR))
   |some p=>
    obtain⟨rfl,es',hp⟩:=hJ hj;rw[hin hp]at ho;cases ho;cases hfo
 . rintro⟨k1,y1⟩ ⟨k2,y2⟩ h1 h2 he;cases hj1:P8 ks (B5 r) k1 with
   |none=>
    obtain⟨a1,a2,_⟩:=hsame (y:=y1) hj1;cases hj2:P8 ks (B5 r) k2 with
    |none=>
     obtain⟨b1,b2,_⟩:=hsame (y:=y2) hj2;exact hr.inj _ _ (a2.1 h1) (b2.1 h2) i9
    |some p2=>
     obtain⟨b1,b2,_⟩:=hnew (y:=y2) hj2;have q1:=(hr.lv _ (a2.1 h1)).2.lt;have q2:=(hr'.lv _ (b2.1 h2)).1;rw[a1,b1]at he;omega
   |some p1=>
    obtain⟨a1,a2,_⟩:=hnew (y:=y1) hj1;cases hj2:P8 ks (B5 r) k2 with
    |none=>
     obtain⟨b1,b2,_⟩:=hsame (y:=y2) hj2;have q1:=(hr.lv _ (b2.1 h2)).2.lt;have q2:=(hr'.lv _ (a2.1 h1)).1;rw[a1,b1]at he;omega
    |some p2=>
     obtain⟨b1,b2,_⟩:=hnew (y:=y2) hj2;have:=hr'.inj _ _ (a2.1 h1) (b2.1 h2) i9;simp only[s6]at this;obtain⟨rfl,rfl⟩:=this;obtain⟨rfl,_⟩:=hJ hj1;obtain⟨e2,_⟩:=hJ hj2;rw[e2]
 . rintro k g o ho;cases hj:P8 ks (B5 r) k with
   |none=>
    rw[hout hj]at ho;exact(hr.ob k g o ho).ext x (fun y=>hsame hj) fun y hR=>hb.block _ (hr.lv _ hR).2.lt
   |some p=>
    obtain⟨rfl,es,hp⟩:=hJ hj;rw[hin hp]at ho;cases ho;have hob:=hr'.ob p 1 _ (a7X hp);have hnr:es.all D4=true:=by have:=A8.1 hok _ (C8 hp);simpa using this
    rw[hsz p es hp];unfold E5 at hob⊢;obtain⟨a1,a2,a3,a4⟩:=hnew (y:=none) hj;rw[show(G.a1p G' w.heap.size (P8 ks (B5 r))).β (root (ks p).1)=G'.β (root p)from a1,show(G.a1p G' w.heap.size (P8 ks (B5 r))).γ (root (ks p).1)=G'.γ (root p)from a3];obtain⟨o1,o2,o3,o4,o5⟩:=hob;refine⟨o1,o2,o3,fun hR=>?_,fun hR=>o5 fun y=>hR (a2.2 y)⟩;obtain⟨us,T,o6,o7,o8⟩:=o4 (a2.1 hR);refine⟨us,T,o6,o7,fun i e he=>?_⟩;obtain⟨o9,o10⟩:=o8 i e he;refine⟨o9,fun j c hc=>?_⟩;obtain⟨u,o11,o12⟩:=o10 j c hc;have hnr':(A6 c||I5 c)=true:=A8.1 (show(l6 e).all (fun c=>A6 c||I5 c)=true from A8.1 hnr e (C8 he)) c (C8 hc);exact⟨u,o11,hcell hp hj hnr' o12⟩
 ·
  refine b9a (fun{n u p c} hp hc=>?_) hv;cases c<;>simp only[M5]at hc⊢ <;>(try exact L3)
  case bool=>obtain rfl:=a1c hc;exact a1l
  case int=>obtain rfl:=V0 hc;exact a0z
  case str=>obtain rfl:=a2q hc;exact a4J
  case nils=>obtain rfl:=Z7 hc;exact a4W
  case lit=>cases n<;>(unfold j8 at hc⊢;exact hc)
  case slc es=>exact a1d ((a2M hc).mono hzz fun _ _=>rfl)
  case J9 ks vs=>exact a7y ((a9l hc).mono hzz fun _ _=>rfl)
  case fptr cs=>exact a4P ((a9t hc).mono hzz fun _ _=>rfl)
  case uslc es=>
   have hj:=hJ' hp;have goal:j8 (G.a1p G' w.heap.size (P8 ks (B5 r))) (m6 h (J4 ks gen 0 (B5 r))) w' D u (.own (ks p).1 (gen (ks p).1) es.length (ks p).2 0 es.length):=by have hc':=j8.cell (m:=D) (by grind) hc;unfold D at hc'⊢;unfold j8 at hc'⊢;obtain⟨a,c,q0,q1,q2,q3,gn,ob,q4,q5,q6⟩:=hc';refine⟨a,c,q0,q1,q2,q3,_,_,hin hp,m0 _,fun _ sz vr fr es' e9=>?_⟩;cases e9;refine⟨m0 _,fun _=>?_⟩;have hq:=a7X (szs:=szs) hp;rw[show(a1b szs p).1=p from rfl,hq]at q4;cases q4;obtain⟨_,q7⟩:=q6 rfl _ _ _ _ rfl;obtain⟨q8,q9,q10⟩:=q7 rfl;obtain⟨a1,a2,a3,a4⟩:=hnew (y:=none) hj;rw[show(G.a1p G' w.heap.size (P8 ks (B5 r))).β (root (ks p).1)=G'.β (root p)from a1,show(G.a1p G' w.heap.size (P8 ks (B5 r))).γ (root (ks p).1)=G'.γ (root p)from a3];refine⟨q8,fun hR=>?_,fun hR=>q10 fun y=>hR (a2.2 y)⟩;obtain⟨f,f1,f2,f3,f4⟩:=q9 (a2.1 hR);exact⟨f,f1,f2.imp id fun hh _=>by simpa using hh rfl,f3,f4⟩
   exact goal.cell (by grind)
end
end
section
variable{v:Value}{vs szs:List Nat}{a:Act}{ρ:Operand→Value}{t k i:Nat}{dst:Option Tmp}{r p:PV}{f:FuncId}{o:Oper}{rd:Operand→Option s8}{args:Array Operand}{ops:List Oper}{vars:List PV}{ev:s8→PV}
section
variable{P:Program}{B:Nat}{Z0:Nat→Prop}{G G':Gh}{h h':l5}{w w':World}
theorem a4i{ρ:Option Nat}{n:Nat}{args:Array Value}{R:Ending→World→Prop}:CallsIn (fz ρ) n P f args w R↔Calls P f args w R:=callsIn_wide
def V9(G:Gh)(h:l5)(w:World)(vs:List Nat)(vars:List PV)(a:Act):Prop:=∀(k s:Nat),vs[k]?=some s→∃v,a.tmps[s]?=some v∧j8 G h w D v (vars.getD k .uu)
def a4p(G:Gh)(h:l5)(w:World)(ops:List Oper)(i:Nat)(loc:List PV)(a:Act):Prop:=∀(t j:Nat),a0J ops t i=some j→∃v,a.tmps[t]?=some v∧j8 G h w D v (loc.getD j .uu)
theorem b3W{ops:List Oper}{t:Nat}:∀{i j:Nat},a0J ops t i=some j→j<i∧(ops[j]?).bind (·.dst)=some t
 |0,j,h=>by simp[a0J]at h
 |i+1,j,h=>by
  simp only[a0J]at h;split at h
  . grind
  . obtain⟨h1,h2⟩:=b3W h;exact⟨i9,h2⟩
theorem b7o(hk:ofV v=some p):j8 G h w D v p:=(a7b hk).1
theorem b3c{loc:List PV}(hv:V9 G h w vs vars a)(hl:a4p G h w ops i loc a):∀x d,a0h vs ops i x=some d→j8 G h w D (a.eval x) (y9 loc vars d):=by
 intro x d hd;cases x with
 |tmp t=>
  simp only[a0h]at hd;split at hd
  . rename_i j hj;cases hd;obtain⟨v,h1,h2⟩:=hl t j hj;have:a.eval (.tmp t)=v:=(by simp[Act.eval,h1]);rw[this];exact h2
  . obtain⟨k,h1,rfl⟩:=C5.1 hd;have hk:vs[k]?=some t:=by
     obtain⟨h2,h3,_⟩:=List.idxOf?_eq_some_iff.1 h1
     grind
    obtain⟨v,h2,h3⟩:=hv k t hk;have:a.eval (.tmp t)=v:=(by simp[Act.eval,h2]);rw[this];exact h3
 |const v=>
  simp only[a0h]at hd;obtain⟨p,h1,rfl⟩:=C5.1 hd;exact b7o h1
 |func f=>
  simp only[a0h]at hd;cases hd;show j8 G h w D (.func (.func f) #[] #[]) (.fn (.func f) [] []);unfold D;unfold j8;exact⟨_,_,rfl,⟨rfl,fun i c hc=>by simp at hc⟩,⟨rfl,fun i c hc=>by simp at hc⟩⟩
 |global g=>simp[a0h]at hd
theorem b9W{x:Operand}{d:s8}(h:a6e o rd x=some d):rd x=some d∧∀t,x=.tmp t→t∈a7d o:=by
 cases x<;>simp only[a6e]at h
 all_goals grind
theorem c4m(hrd:∀x d,rd x=some d→j8 G h w D (ρ x) (ev d)):∀x d,a6e o rd x=some d→j8 G h w D (ρ x) (ev d):=fun x d e=>hrd x d (b9W e).1
theorem a0H(h1:vs.idxOf? t=some k):vs[k]?=some t:=by
 obtain⟨h2,h3,_⟩:=List.idxOf?_eq_some_iff.1 h1
 grind
theorem c1c(h1:vs.idxOf? t=none):vs[k]?≠some t:=fun h2=>by have:=a2j.1 h1;exact this (C8 h2)
theorem b2Y(hn:vs.Nodup){k':Nat}(h1:vs[k]?=some t)(h2:vs[k']?=some t):k=k':=by obtain⟨a1,a2⟩:=B4.1 h1;obtain⟨b1,b2⟩:=B4.1 h2;exact(List.getElem_inj hn).1 (a2.trans b2.symm)
theorem b0S(ht:dst≠some t):(a.put dst v).tmps[t]?=a.tmps[t]?:=by
 cases dst with
 |none=>rfl
 |some d=>simp only[Act.put];exact Array.getElem?_setIfInBounds_ne (fun e=>ht (by rw[e]))
theorem b2x(ht:t<a.tmps.size):(a.put (some t) v).tmps[t]?=some v:=by simp[Act.put,ht]
theorem a8i:(a.put dst v).tmps.size=a.tmps.size:=by cases dst<;>simp[Act.put]
theorem b3n:(a.put dst v).defers=a.defers:=by cases dst<;>simp[Act.put]
theorem V9.put(x:Ext G h w G' h' w'){vs:List Nat}(hn:vs.Nodup){vars:List PV}{a:Act}(hv:V9 G h w vs vars a){dst:Option Tmp}{v:Value}{p:PV}(hd:∀t,dst=some t→t<a.tmps.size)(hp:j8 G' h' w' D v p):
 V9 G' h' w' vs (K6 vars (dst.bind (vs.idxOf? ·)) p) (a.put dst v):=by
 intro k s hk;by_cases hs:dst=some s
 . subst hs;refine⟨v,b2x (hd s rfl),?_⟩;cases hi:vs.idxOf? s with
   |none=>exact absurd hk (c1c hi)
   |some k0=>
    obtain rfl:=b2Y hn (a0H hi) hk;simp only[a5e,hi,K6];rw[u9];by_cases hl:k0<vars.length
    . grind
    . rw[a0f I3];exact L3
 . obtain⟨u,h1,h2⟩:=hv k s hk;refine⟨u,by rw[b0S hs];exact h1,?_⟩;have:(K6 vars (dst.bind (vs.idxOf? ·)) p).getD k .uu=vars.getD k .uu:=by
    cases dst with
    |none=>rfl
    |some t=>
     simp only[a5e];cases hi:vs.idxOf? t with
     |none=>rfl
     |some k0=>
      have hne:k0≠k:=fun e=>by subst e;have:=(a0H hi).symm.trans hk;exact hs i9
      simp only[K6];rw[u9,u9,D9 hne]
   rw[this];exact h2.ext x
theorem a4p.put(x:Ext G h w G' h' w'){ops:List Oper}{i:Nat}{o:Oper}(ho:ops[i]?=some o){loc:List PV}{a:Act}(hl:a4p G h w ops i loc a)(hlen:loc.length=i){v:Value}{p:PV}(hd:∀t,o.dst=some t→t<a.tmps.size)(hp:j8 G' h' w' D v p):
 a4p G' h' w' ops (i+1) (loc++[p]) (a.put o.dst v):=by
 intro t j hj;simp only[a0J]at hj;split at hj
 . rename_i hdt;cases hj;rw[ho]at hdt;have hdt':o.dst=some t:=(by simpa using hdt);refine⟨v,by rw[hdt'];exact b2x (hd t hdt'),?_⟩;rw[u9,a3X i9,hlen];simpa using hp
 . rename_i hdt;obtain⟨u,h1,h2⟩:=hl t j hj;have hji:=(b3W hj).1;rw[ho]at hdt;refine⟨u,by rw[b0S (by simpa using hdt)];exact h1,?_⟩;rw[u9,a0R i9,←u9];exact h2.ext x
def V7(vs:List Nat)(vars:List PV):PV:=vars.getD vs.length .uu
theorem b4e{d:Option Nat}:V7 vs (K6 vars (d.bind (vs.idxOf? ·)) p)=V7 vs vars:=by
 unfold V7;cases d with
 |none=>rfl
 |some t=>
  simp only[a5e];cases hi:vs.idxOf? t with
  |none=>rfl
  |some k=>
   have:=(B4.1 (a0H hi)).1;simp only[K6,u9];rw[D9 i9]
def Inv(vs:List Nat)(N:Nat)(B:Nat)(Z0:Nat→Prop)(W0:M3 B)(ops:List Oper)(i:Nat)(st:B0)(a:Act)(w:World):Prop:=
 ∃G,p7 B Z0 G st.heap w∧V9 G st.heap w vs st.vars a∧a4p G st.heap w ops i st.loc a∧st.loc.length=i∧a.tmps.size=N∧a0k W0.m a.defers w∧W0.psi (V7 vs st.vars) G st.heap w
theorem c3R{N:Nat}{W0:M3 B}{st:B0}(hn:vs.Nodup)(ho:ops[i]?=some o)(hd:∀t,o.dst=some t→t<N){G:Gh}{w:World}
 (h1:V9 G st.heap w vs st.vars a) (h2:a4p G st.heap w ops i st.loc a) (h3:st.loc.length=i) (h4:a.tmps.size=N) (h5:a0k W0.m a.defers w) (h6:W0.psi (V7 vs st.vars) G st.heap w) {w':World} {G':Gh} {ws:List (Nat×Row)}
 (hr':p7 B Z0 G' (m6 st.heap ws) w') (x:Ext G st.heap w G' (m6 st.heap ws) w') (hp:j8 G' (m6 st.heap ws) w' D v p) (hb:Bl B w w'):
 Inv vs N B Z0 W0 ops (i+1) ⟨st.loc++[p],K6 st.vars (o.dst.bind (vs.idxOf? ·)) p,m6 st.heap ws⟩ (a.put o.dst v) w':=
 ⟨G',hr',V9.put x hn h1 (fun t ht=>by rw[h4];exact hd t ht) hp,a4p.put x ho h2 h3 (fun t ht=>by rw[h4];exact hd t ht) hp,by simp[h3],by rw[a8i];exact h4,by rw[b3n];exact h5.step hb,by rw[b4e];exact W0.step h6 x hb⟩
theorem c8N{loc:List PV}(hv:V9 G h w vs vars a)(hl:a4p G h w ops i loc a){g:Option (s8×Bool)}
 (hg:(match o.guard with
  |none=>some none
  |some (j,b)=>match(ops[j]?).bind (·.dst)with
   |some t=>(a0h vs ops i (.tmp t)).map fun d=>some (d,b)
   |none=>none)=some g) {c:Bool} (hc:gdO loc vars g=some c):Region.wanted o (yielded ops.toArray a.tmps)=c:=by
 unfold Region.wanted;cases hgo:o.guard with
 |none=>
  rw[hgo]at hg;simp at hg;subst hg;simpa[gdO]using hc
 |some jb=>
  obtain⟨j,b⟩:=jb;rw[hgo]at hg;simp only at hg;split at hg
  . rename_i t ht;obtain⟨d,h1,rfl⟩:=C5.1 hg;have hr:=b3c hv hl _ _ h1;simp only[gdO]at hc;have hy:yielded ops.toArray a.tmps j=(match a.tmps[t]? with|some (.bool b)=>some b|_=>none):=by
     unfold yielded;rw[show ops.toArray[j]?=ops[j]? by simp,ht];rfl
    show(yielded ops.toArray a.tmps j==some b)=c;rw[hy];split at hc
    . rename_i c0 he;cases hc;rw[he]at hr;have hb:=a1c hr;have:a.tmps[t]?=some (.bool c0):=by
       simp only[Act.eval]at hb;cases hq:a.tmps[t]? with
       |none=>simp[a3Y,hq,undef]at hb
       |some q=>simp[a3Y,hq]at hb;rw[hb]
      rw[this];cases c0<;>cases b<;>rfl
    . rename_i he;cases hc;rw[he]at hr;obtain⟨us,hb,hs⟩:=a8n hr;simp only[Act.eval]at hb;cases hq:a.tmps[t]? with
      |none=>cases b<;>rfl
      |some q=>
       simp[a3Y,hq]at hb;rw[hb];cases b<;>rfl
    . cases hc
  . cases hg
theorem b6f:j8 G h w D undef (.tup []):=by unfold D;unfold j8;exact⟨#[],rfl,rfl,fun i c hc=>by simp at hc⟩
theorem b6z{ats:Array TypeId}{type:TypeId}{pos:String}{after:Array Edge}{guard:Option (Nat×Bool)}(hf:a1P P f=true)(hρ:ρ (.func f)=.func (.func f) #[] #[]):
 (execOp ρ {dst:=dst,op:=.call {callee:=.value (.func f),args:=args,argTypes:=ats},type:=type,pos:=pos,after:=after,guard:=guard}).run P w=.ok (.enter f (args.map ρ)) w:=by
 unfold a1P at hf;split at hf
 . rename_i fn hfn;simp only[E6,a6C]at hf;obtain⟨h1,h2⟩:=hf;have h3:¬fn.body=none:=fun e=>(by rw[e]at h2;cases h2);have h4:¬fn.name= "runtime.NumGoroutine" :=(by simpa using h1);simp[execOp,resolve,hρ,Deferred.ofValue,invoke,callFunc,hfn,h3,h4]
 . cases hf
theorem b1X{fo:Operand}{vf vc:Array Value}{ats:Array TypeId}{type:TypeId}{pos:String}{after:Array Edge}{guard:Option (Nat×Bool)}(hf:a1P P f=true)(hρ:ρ fo=.func (.func f) vf vc):
 (execOp ρ {dst:=dst,op:=.call {callee:=.value fo,args:=args,argTypes:=ats},type:=type,pos:=pos,after:=after,guard:=guard}).run P w=.ok (.enter f (vf++args.map ρ++vc)) w:=by
 unfold a1P at hf;split at hf
 . rename_i fn hfn;simp only[E6,a6C]at hf;obtain⟨h1,h2⟩:=hf;have h3:¬fn.body=none:=fun e=>(by rw[e]at h2;cases h2);have h4:¬fn.name= "runtime.NumGoroutine" :=(by simpa using h1);simp[execOp,resolve,hρ,Deferred.ofValue,invoke,callFunc,hfn,h3,h4]
 . cases hf
theorem a6T{vs:Array Value}{cs:List PV}{n m:Nat}(hl:I6 (j8 G h w n) vs cs)(ho:cs.all one=true)(hm:0<m:=by decide):I6 (j8 G h w m) vs cs:=
 ⟨hl.1,fun i c hc=>by obtain⟨u,h1,h2⟩:=hl.2 i c hc;exact⟨u,h1,one_cell (A8.1 ho c (C8 hc)) h2 hm⟩⟩
def Gh.b7A(G:Gh)(n:Nat):Gh:={G with Z:=fun b=>G.Z b∧n≤b}
theorem c6P{Z Z':Nat→Prop}{c:PV}(h0:b3t c=true)(ho:one c=true)(hp:PR Z w v c):PR Z' w v c:=by
 obtain⟨n,hp⟩:=hp;cases c<;>(try (simp[b3t]at h0;done))<;>(try (simp[one,T6]at ho;done))
 case fn f a b=>
  refine⟨0,?_⟩;cases a with
  |cons=>cases n<;>(unfold K0 at hp;exact hp.elim)
  |nil=>
   cases b with
   |cons=>cases n<;>(unfold K0 at hp;exact hp.elim)
   |nil=>cases n<;>(unfold K0 at hp⊢;exact hp)
 all_goals
  refine⟨0,?_⟩;cases n<;>(unfold K0 at hp⊢;first|exact hp|exact hp.elim)
theorem b5j{g:Nat}{o:Ob}(ho:(a0v szs r)[k]?=some (g,o)):o=.dead∨∃es,(B5 r)[k]?=some (.uslc es)∧g=1∧o=.arr (szs.getD k 0) 0 false es:=by
 by_cases hx:∃es,(B5 r)[k]?=some (.uslc es)
 . obtain⟨es,he⟩:=hx;rw[a7X he]at ho
   grind
 . left
   have hk:k∉(J4 (a1b szs) (fun _=>1) 0 (B5 r)).map (·.1):=fun hm=>by obtain⟨x,hx1,rfl⟩:=E9.1 hm;obtain⟨i,es,h1,h2⟩:=b0k hx1;apply hx;rw[h2];exact⟨es,by simpa[a1b]using h1⟩
   unfold a0v at ho;rw[a5j _ _ _ hk]at ho
   grind
theorem c1z(hr:p7 B Z0 G (a0v szs r) w)(hn:noS r=true)(hok:rOk r=true):p7 B (fun _=>False) (G.b7A B) (a0v szs r) w:=by
 refine⟨hr.base,fun b hb=>.inr hb.2,fun b hb=>hr.zb b hb.1,hr.lv,fun k g o ho hl y hR hz=>hr.nz k g o ho hl y hR hz.1,fun k g o ho hfo y hR=>⟨hr.fz k g o ho hfo y hR,(hr.lv _ hR).1⟩,hr.inj,fun k g o ho=>?_⟩;have hob:=hr.ob k g o ho;rcases b5j ho with rfl|⟨es,he,rfl,rfl⟩
 . trivial
 . unfold E5 at hob⊢;obtain⟨o1,o2,o3,o4,o5⟩:=hob;refine⟨o1,o2,o3,fun hR=>?_,o5⟩;obtain⟨us,T,o6,o7,o8⟩:=o4 hR;refine⟨us,T,o6,o7,fun i e hie=>?_⟩;obtain⟨o9,o10⟩:=o8 i e hie;refine⟨o9,fun j c hc=>?_⟩;obtain⟨u,o11,o12⟩:=o10 j c hc;refine⟨u,o11,?_⟩;have hmem:PV.uslc es∈B5 r:=C8 he;have hn2:a2H (.uslc es)=true:=by
    obtain⟨x,hx1,hx2⟩:=a2V.1 hmem;exact A8.1 (A8.1 hn x hx1) _ hx2
   have hn1:a6o c=true:=A8.1 (show(l6 e).all a6o=true from A8.1 hn2 e (C8 hie)) c (C8 hc);have hnr:(A6 c||I5 c)=true:=by have h1:es.all D4=true:=(by simpa using A8.1 hok _ hmem);exact A8.1 (show(l6 e).all (fun c=>A6 c||I5 c)=true from A8.1 h1 e (C8 hie)) c (C8 hc)
   cases c<;>(try (simp[A6,I5]at hnr;done))<;>(try (simp[a6o]at hn1;done))
   case uslc ns=>
    unfold F9 N7 at o12⊢;refine⟨fun rr=>?_,o12.2⟩;obtain⟨us',T',f,cc,n1,n2,n3,n4,n5,n6,n7,n8,n9⟩:=o12.1 rr;refine⟨us',T',f,cc,n1,n2,n3,n4,n5,n6,n7,n8,fun a x hx=>?_⟩;obtain⟨m1,m2⟩:=n9 a x hx;refine⟨m1,fun t y hy=>?_⟩;obtain⟨m3,vv,m4,m5⟩:=m2 t y hy;exact⟨m3,vv,m4,c6P (A8.1 (A8.1 hn1 x (C8 hx)) y (C8 hy)) m3 m5⟩
   all_goals
    unfold F9 at o12⊢;obtain⟨p1,p2⟩:=o12;refine⟨p1,?_⟩;unfold D at p2⊢;unfold j8 at p2⊢;exact p2
theorem c4j{ks:Nat→Nat×Nat}{gen:Nat→Nat}(hn:noS r=true)(hv:j8 G (a0v szs r) w D v (X2 ks gen r)):j8 (G.b7A B) (a0v szs r) w D v (X2 ks gen r):=by
 refine b9a (fun{n u p c} hp hc=>?_) hv;have hn2:a2H c=true:=by obtain⟨x,hx1,hx2⟩:=a2V.1 (C8 hp);exact A8.1 (A8.1 hn x hx1) _ hx2
 cases c<;>simp only[M5]at hc⊢ <;>(try exact L3)
 case slc es=>simp[a2H]at hn2
 case J9=>simp[a2H]at hn2
 case fptr=>simp[a2H]at hn2
 all_goals (cases n<;>(unfold j8 at hc⊢;exact hc))
theorem c0x(hr:p7 B Z0 G h w){hide:List Nat}(hrd:∀x d,rd x=some d→j8 G h w D (ρ x) (ev d)){ds:List s8}(hds:M8 rd args.toList=some ds){ks:List (Nat×Nat)}
 (hF:Fn P f (ks.map (·.2)) (ds.map fun a=>fzV (l8 h hide) (ev a)) r) (hok:a4g h.length ks ((ds.map ev).any (a2g (l8 h hide))) r=true) (hhid:∀j,j∈(ks.filter (·.2 !=0)).map (·.1)→hide.contains j=false) {R:Ending→World→Prop}
 (hR:∀v w' G',p7 B Z0 G' (m6 h (J4 (N6 ks) (Y1 (l8 h hide)) 0 (B5 r))) w'→Ext G h w G' (m6 h (J4 (N6 ks) (Y1 (l8 h hide)) 0 (B5 r))) w'→j8 G' (m6 h (J4 (N6 ks) (Y1 (l8 h hide)) 0 (B5 r))) w' D v (X2 (N6 ks) (Y1 (l8 h hide)) r)→Bl B w w'→R (.returned v) w'):
 Calls P f (args.map ρ) w R:=by
 unfold a4g at hok;simp only[E6]at hok;obtain⟨⟨⟨k1,k2⟩,k3⟩,k4⟩:=hok;have hkeys:∀{g1 g2:Nat→Nat} (cells:List PV) (q:Nat),(J4 (N6 ks) g1 q cells).map (·.1)=(J4 (N6 ks) g2 q cells).map (·.1):=by
  intro g1 g2 cells
  induction cells with
  |nil=>intro q;rfl
  |cons c cells ih=>intro q;cases c<;>simp only[J4,a0s,ih]
 have hn:((J4 (N6 ks) (Y1 (l8 h hide)) 0 (B5 r)).map (·.1)).Nodup:=by rw[hkeys (g2:=fun _=>0)];exact a5y k2
 have hsz:∀p es,(B5 r)[p]?=some (.uslc es)→(N6 ks p).2=(ks.map (·.2)).getD p 0:=fun p es _=>by simp only[N6,u9,H5];cases ks[p]?<;>rfl
 have hg:∀p es,(B5 r)[p]?=some (.uslc es)→∃o,h[(N6 ks p).1]?=some (Y1 (l8 h hide) (N6 ks p).1-1,o)∧0<Y1 (l8 h hide) (N6 ks p).1:=fun p es hp=>by
  have hm:=a5K (ks:=N6 ks) (gen:=fun _=>0) (q:=0) hp;have h3:=A8.1 k3 _ (E9.2 ⟨_,hm,rfl⟩);rw[U3,E6]at h3;have hlt:(N6 ks p).1<h.length:=by simpa[a1I]using h3.1
  have hnh:hide.contains (N6 ks p).1=false:=hhid _ (a0S.1 h3.2);obtain⟨⟨g,o⟩,ho⟩:∃x,h[(N6 ks p).1]?=some x:=⟨_,l9 hlt⟩
  exact⟨o,by rw[ho];simp[Y1,a6p hnh ho],by simp[Y1]⟩
 have hargs:∀(Z':Nat→Prop),(∀b,G.Z b→Z' b)→((ds.map ev).any (a2g (l8 h hide))=true→∀key,G.R key→Z' (G.β key))→I6 (j8 (G0 Z') [] w D) (args.map ρ) (ds.map fun a=>fzV (l8 h hide) (ev a)):=fun Z' hz hown=>by
  obtain⟨q1,q2⟩:=a5r hds;refine⟨by simpa using q1,fun i c hc=>?_⟩;rw[H5]at hc;obtain⟨d,hd,rfl⟩:=C5.1 hc;have hi:i<args.toList.length:=by grind
  obtain⟨d',q3,q4⟩:=q2 i _ (l9 hi);rw[hd]at q3;cases q3;have hi':i<args.size:=by simpa using hi
  refine⟨ρ args.toList[i],by simp[hi'],c8h hr hz (fun ho=>hown (a9x.2 ⟨_,E9.2 ⟨d,C8 hd,rfl⟩,ho⟩)) (hrd _ _ q4)⟩
 by_cases hown:(ds.map ev).any (a2g (l8 h hide))=true
 . have hnS:noS r=true:=(by simpa[hown]using k4);refine(hF.2 w (fun b=>G.Z b∨∃key,G.R key∧b=G.β key) (args.map ρ) ?_ (hargs _ (fun b hb=>.inl hb) fun _ key hk=>.inr ⟨key,hk,rfl⟩)).mono ?_
   . rintro b (hb|⟨key,hk,rfl⟩)
     . exact hr.zb b hb
     . exact(hr.lv _ hk).2
   . rintro e w' ⟨v,G',rfl,hb,h1,h2⟩;obtain⟨G'',x1,x2,x3,x4⟩:=a1p hr hb (c1z h1 hnS k1) (c4j (B:=w.heap.size) hnS h2) (fun b hb'=>.inr hb'.2) k1 hn hsz hg;exact hR v w' G'' x1 x2 x3 x4
 . refine(hF.2 w G.Z (args.map ρ) hr.zb (hargs G.Z (fun b hb=>hb) fun ho=>absurd ho hown)).mono ?_;rintro e w' ⟨v,G',rfl,hb,h1,h2⟩;obtain⟨G'',x1,x2,x3,x4⟩:=a1p hr hb h1 h2 h1.zo k1 hn hsz hg;exact hR v w' G'' x1 x2 x3 x4
theorem b4T(hr:p7 B Z0 G h w)(hrd:∀x d,rd x=some d→j8 G h w D (ρ x) (ev d)){fo:Operand}{fd:s8}(hfo:rd fo=some fd){ds:List s8}(hds:M8 rd args.toList=some ds){ws:List (Nat×Row)}
 (hF:FI P (ev fd) (ds.map ev) h r ws):∃f vf vc,a1P P f=true∧ρ fo=.func (.func f) vf vc∧∀R:Ending→World→Prop,
  (∀v w' G',p7 B Z0 G' (m6 h ws) w'→Ext G h w G' (m6 h ws) w'→j8 G' (m6 h ws) w' D v r→Bl B w w'→R (.returned v) w')→Calls P f (vf++args.map ρ++vc) w R:=by
 obtain⟨f,first,cap,hv,hc,ho,hF⟩:=hF;rw[E6]at ho;have hf:=hrd _ _ hfo;rw[hv]at hf;unfold D at hf;unfold j8 at hf;obtain⟨vf,vc,h1,h2,h3⟩:=hf;refine⟨f,vf,vc,hc,h1,fun R hR=>?_⟩;have hargs:I6 (j8 G h w D) (args.map ρ) (ds.map ev):=by
  obtain⟨q1,q2⟩:=a5r hds;refine⟨by simpa using q1,fun i c hc=>?_⟩;rw[H5]at hc;obtain⟨d,hd,rfl⟩:=C5.1 hc;have hi:i<args.toList.length:=by grind
  obtain⟨d',q3,q4⟩:=q2 i _ (l9 hi);rw[hd]at q3;cases q3;have hi':i<args.size:=by simpa using hi
  exact⟨ρ args.toList[i],by simp[hi'],hrd _ _ q4⟩
 refine(hF B Z0 G w vf (args.map ρ) vc hr (a6T h2 ho.1) hargs (a6T h3 ho.2)).mono ?_;rintro e w' ⟨u,G',rfl,x1,x2,x3,x4⟩;exact hR u w' G' x1 x2 x3 x4
end
end
section
variable{rd:Operand→Option s8}{k:Nat}{app:Nat×Option Nat}{al:Bool}{ty:TypeId}{op:Op}{a:List s8}
section
variable{P:Program}{B:Nat}{Z0:Nat→Prop}{W0:M3 B}{ρ:Option Nat}{nn:Nat}
theorem b8w{FN:N2}{x:k8}{xs:List k8}{st:B0}{Q:B0→Prop}(hx:∀f a k al,x.op≠ .call f a k al)(hv:∀f a,x.op≠ .callv f a)(hy:∀f a,x.op≠ .cally f a)(hg:gdO st.loc st.vars x.guard=some true)(h:F8 FN (x::xs) st Q):
 ∃p ws,s9 (y9 st.loc st.vars) (l8 st.heap x.hide) x.op=some (p,ws)∧F8 FN xs ⟨st.loc++[p],K6 st.vars x.var p,m6 st.heap ws⟩ Q:=by
 cases hxo:x.op
 case call f a k al=>exact absurd hxo (hx _ _ _ _)
 case callv f a=>exact absurd hxo (hv _ _)
 case cally f a=>exact absurd hxo (hy _ _)
 all_goals
  simp only[F8,hg,hxo]at h;split at h
  . rename_i p ws ha;exact⟨p,ws,ha,h⟩
  . exact h.elim
theorem b8u{f:FuncId}{ks:List (Nat×Nat)}{al':Bool}(hc:a2N P rd k app al ty op=some (.call f a ks al')):
 ∃args ats,op=.call {callee:=.value (.func f),args:=args,argTypes:=ats}∧M8 rd args.toList=some a:=by
 cases op<;>simp only[a2N]at hc
 case call c=>
  obtain⟨callee,args,ats⟩:=c;cases callee<;>simp only[]at hc
  case value g=>
   cases g<;>simp only[]at hc
   case func g=>
    split at hc
    . split at hc<;>cases hc
    . split at hc
      . rename_i l ks0 h1 h2;cases hc;exact⟨args,ats,rfl,h1⟩
      . cases hc
   all_goals
    split at hc
    . cases al<;>cases hc
    . cases hc
  case builtin b=>
   exfalso;unfold a8s at hc;split at hc<;>(try (cases hc;done))<;>(repeat' (split at hc))<;>(try (cases hc;done))<;>(obtain⟨d,_,h2⟩:=C5.1 hc;cases h2)
  case invoke=>cases hc
 case makeMap t r=>
  exfalso;cases r with
  |none=>simp at hc
  |some r=>
   simp only[]at hc;split at hc
   . obtain⟨d,_,h2⟩:=C5.1 hc;cases h2
   . cases hc
 all_goals
  exfalso
  (repeat' (split at hc))<;>first|(cases hc;done)|(obtain⟨d,_,h2⟩:=C5.1 hc;cases h2;done)
theorem c6S{f:s8}(hc:a2N P rd k app al ty op=some (.cally f a)):
 ∃fo args ats,op=.call {callee:=.value fo,args:=args,argTypes:=ats}∧rd fo=some f∧M8 rd args.toList=some a:=by
 cases op<;>simp only[a2N]at hc
 case call c=>
  obtain⟨callee,args,ats⟩:=c;cases callee<;>simp only[]at hc
  case value g=>
   cases g<;>simp only[]at hc
   case func g=>
    split at hc
    . grind
    . split at hc<;>cases hc
   all_goals
    split at hc
    . grind
    . cases hc
  case builtin b=>
   exfalso;unfold a8s at hc;split at hc<;>(try (cases hc;done))<;>(repeat' (split at hc))<;>(try (cases hc;done))<;>(obtain⟨d,_,h2⟩:=C5.1 hc;cases h2)
  case invoke=>cases hc
 case makeMap t r=>
  exfalso;cases r with
  |none=>simp at hc
  |some r=>
   simp only[]at hc;split at hc
   . obtain⟨d,_,h2⟩:=C5.1 hc;cases h2
   . cases hc
 all_goals
  exfalso
  (repeat' (split at hc))<;>first|(cases hc;done)|(obtain⟨d,_,h2⟩:=C5.1 hc;cases h2;done)
theorem b8X{f:s8}(hc:a2N P rd k app al ty op=some (.callv f a)):
 ∃fo args ats,op=.call {callee:=.value fo,args:=args,argTypes:=ats}∧rd fo=some f∧M8 rd args.toList=some a:=by
 cases op<;>simp only[a2N]at hc
 case call c=>
  obtain⟨callee,args,ats⟩:=c;cases callee<;>simp only[]at hc
  case value g=>
   cases g<;>simp only[]at hc
   case func g=>
    split at hc
    . grind
    . split at hc<;>cases hc
   all_goals
    split at hc
    . grind
    . cases hc
  case builtin b=>
   exfalso;unfold a8s at hc;split at hc<;>(try (cases hc;done))<;>(repeat' (split at hc))<;>(try (cases hc;done))<;>(obtain⟨d,_,h2⟩:=C5.1 hc;cases h2)
  case invoke=>cases hc
 case makeMap t r=>
  exfalso;cases r with
  |none=>simp at hc
  |some r=>
   simp only[]at hc;split at hc
   . obtain⟨d,_,h2⟩:=C5.1 hc;cases h2
   . cases hc
 all_goals
  exfalso
  (repeat' (split at hc))<;>first|(cases hc;done)|(obtain⟨d,_,h2⟩:=C5.1 hc;cases h2;done)
theorem c0P{x:N5}(h:a2N P rd k app al ty op=some x):∀c,op≠ .defer c:=fun c e=>by subst e;simp only[a2N]at h;cases h
def FyR(B:Nat)(Z0:Nat→Prop)(W0:M3 B)(vs:List Nat)(vars:List PV)(K:PV→List PV→l5→Prop)(G:Gh)(h:l5)(w:World):Ending→World→Prop:=fun e w'=>
 ∃r vars' h' u G',e=.returned u∧K r vars' h'∧(∀k,k<vs.length→vars'.getD k .uu=vars.getD k .uu)∧p7 B Z0 G' h' w'∧Ext G h w G' h' w'∧j8 G' h' w' D u r∧W0.psi (V7 vs vars') G' h' w'∧∀ds,a0k W0.m ds w→a0k W0.m ds w'
abbrev FYT:=PV→List PV→List PV→l5→(PV→List PV→l5→Prop)→Prop
def a7f(P:Program)(B:Nat)(Z0:Nat→Prop)(W0:M3 B)(ρ:Option Nat)(vs:List Nat)(Y:FYT):Prop:=∀{v:PV} {args vars:List PV} {h:l5} {K:PV→List PV→l5→Prop},Y v args vars h K→
 ∀{G:Gh} {w:World} {u:Value} {va:Array Value},p7 B Z0 G h w→W0.psi (V7 vs vars) G h w→j8 G h w D u v→I6 (j8 G h w D) va args→
  (∃f vf vc,a1P P f=true∧u=.func (.func f) vf vc∧Calls P f (vf++va++vc) w (FyR B Z0 W0 vs vars K G h w))∨
  (∃l,u=.func (.yield l) #[] #[]∧∀n,YieldAt (fz ρ) n P l va w (FyR B Z0 W0 vs vars K G h w))
theorem a6f{ρ:Option Nat}{vs:List Nat}{W0:M3 B}:a7f P B Z0 W0 ρ vs (fyI P):=by
 rintro v args vars h K ⟨r,ws,⟨f,first,cap,rfl,hcal,hone,hF⟩,hK⟩ G w u va hr hpsi hv ha
 left
 unfold D at hv;unfold j8 at hv;obtain⟨vf,vc,rfl,hf,hc⟩:=hv;rw[E6]at hone;refine⟨f,vf,vc,hcal,rfl,?_⟩;refine(hF B Z0 G w vf va vc hr (a6T hf hone.1) ha (a6T hc hone.2)).mono ?_;rintro e w' ⟨u,G',rfl,h1,h2,h3,h4⟩;exact⟨r,vars,_,u,G',rfl,hK,fun _ _=>rfl,h1,h2,h3,W0.step hpsi h2 h4,fun ds hd=>hd.step h4⟩
theorem c7E{ρ:Operand→Value}{dst:Option Tmp}{fo:Operand}{l:Nat}{args:Array Operand}{ats:Array TypeId}{type:TypeId}{pos:String}{after:Array Edge}{guard:Option (Nat×Bool)}{w:World}(hρ:ρ fo=.func (.yield l) #[] #[]):
 (execOp ρ {dst:=dst,op:=.call {callee:=.value fo,args:=args,argTypes:=ats},type:=type,pos:=pos,after:=after,guard:=guard}).run P w=(Instr.yield l (args.map ρ)).run P w:=by
 simp[execOp,resolve,hρ,Deferred.ofValue,invoke]
theorem b3J{vs:List Nat}{N:Nat}{FN:N2}(hfn:FN.fn=Fn P)(hfi:FN.fi=FI P)(hfy:a7f P B Z0 W0 ρ vs FN.fy)(hn:vs.Nodup){ops:List Oper}{al:Bool}{Q:Exit→Act→World→Prop}{Q':B0→Prop}(hQ:∀i st a w,Inv vs N B Z0 W0 ops i st a w→Q' st→Q .normal a w):
 ∀(rest:List Oper) (acc:List k8) (k k':Nat) (xs:List k8),ops.drop acc.length=rest→a4Q P vs N ops al acc k rest=some (xs,k')→∃tail,xs=acc++tail∧
  ∀st a w,Inv vs N B Z0 W0 ops acc.length st a w→a2a st.heap.length tail=true→F8 FN tail st Q'→wpOpsIn (fz ρ) nn P ops.toArray Q (List.range' acc.length rest.length) a w
 | [],acc,k,k',xs,hdrop,hc=>by
  simp only[a4Q,p9,s6]at hc;obtain⟨rfl,rfl⟩:=hc;refine⟨[],k7,fun st a w hinv _ hx=>?_⟩;simp only[F8]at hx;exact hQ _ st a w hinv hx
 |o::rest,acc,k,k',xs,hdrop,hc=>by
  have ho:ops[acc.length]?=some o:=by have:=congrArg (·[0]?) hdrop;simpa using this
  have hdrop':ops.drop (acc.length+1)=rest:=by rw[←a1U,hdrop];rfl
  simp only[a4Q]at hc;split at hc
  . cases hc
  . rename_i xop hop;split at hc
    . cases hc
    . rename_i g hg;split at hc
      . rename_i hN;obtain⟨tail,rfl,ih⟩:=b3J hfn hfi hfy hn hQ rest (acc++[{op:=xop,var:=o.dst.bind (vs.idxOf? ·),guard:=g,hide:=[]}]) (k+b3e xop) k' xs (by grind) hc;refine⟨{op:=xop,var:=o.dst.bind (vs.idxOf? ·),guard:=g,hide:=[]}::tail,k7,fun st a w hinv hsites hx=>?_⟩;obtain⟨G,i1,i2,i3,i4,i5,i6,i7⟩:=hinv;simp only[a2a,List.all_cons,E6]at hsites;obtain⟨hs1,hs2⟩:=hsites;have hks:∀j,j∈G8 xop→j<st.heap.length∧([]:List Nat).contains j=false:=fun j hj=>⟨by have:=A8.1 hs1 j hj;simpa[a1I]using this,rfl⟩
        have hrd:=c4m (o:=o) (b3c i2 i3);have hd:∀t,o.dst=some t→t<N:=fun t ht=>(by simp only[b2B,ht]at hN;simpa[a1I]using hN);have hcont:∀{p ws v w' G'},p7 B Z0 G' (m6 st.heap ws) w'→Ext G st.heap w G' (m6 st.heap ws) w'→j8 G' (m6 st.heap ws) w' D v p→Bl B w w'→
         F8 FN tail ⟨st.loc++[p],K6 st.vars (o.dst.bind (vs.idxOf? ·)) p,m6 st.heap ws⟩ Q'→wpOpsIn (fz ρ) nn P ops.toArray Q (List.range' (acc.length+1) rest.length) (a.put o.dst v) w':=fun{p ws v w' G'} r1 r2 r3 r4 r5=>by
         have:=ih ⟨st.loc++[p],K6 st.vars (o.dst.bind (vs.idxOf? ·)) p,m6 st.heap ws⟩ (a.put o.dst v) w' (by simp only[a0u,Z3,a7F];exact c3R hn ho hd i2 i3 i4 i5 i6 i7 r1 r2 r3 r4) (by simp only[a6m];exact hs2) r5
         simpa using this
        have hab:∀(a:Act) (w:World) f,o.about P w a.eval=some f→(fz ρ).fn f:=fun _ _ _ _=>trivial;have hsem:o.semAt (fz ρ).round a.eval=execOp a.eval o:=Oper.semAt_eq _ _ _ (c0P hop);have hwp:∀K,(∀c,gdO st.loc st.vars g=some c→(if c then o.uponIn (fz ρ) nn P a K Q ((execOp a.eval o).run P w)else K (a.put o.dst undef) w))→wpOpIn (fz ρ) nn P ops.toArray Q acc.length K a w:=fun K hK=>by
         unfold wpOpIn;rw[show ops.toArray[acc.length]?=some o by simpa using ho];simp only;cases hgd:gdO st.loc st.vars g with
         |none=>simp only[F8,hgd]at hx
         |some c=>
          have hw:=c8N i2 i3 hg hgd;have:=hK c hgd;rw[hw];cases c
          . exact⟨hab _ _,by simpa using this⟩
          . refine⟨hab _ _,?_⟩;rw[hsem];simpa using this
        rw[show List.range' acc.length (o::rest).length=acc.length::List.range' (acc.length+1) rest.length by simp[List.range'_succ],wpOpsIn_cons];refine hwp _ fun c hgd=>?_;cases c with
        |false=>
         simp only[F8,hgd]at hx;simp only[a3W,if_false];exact hcont (ws:=[]) i1 Ext.refl b6f (Bl.refl _ _) hx
        |true=>
         simp only[if_true];by_cases hcall:∃f b ks al',xop=.call f b ks al'
         . obtain⟨f,b,ks,al',rfl⟩:=hcall;obtain⟨args,ats,ho2,hds⟩:=b8u hop;simp only[F8,hgd]at hx;obtain⟨r,_,hF,hok,hx'⟩:=hx;rw[hfn]at hF;obtain⟨dst,op,type,pos,after,guard⟩:=o;simp only at ho2;subst ho2;have hrun:=b6z (P:=P) (w:=w) (ρ:=a.eval) (dst:=dst) (args:=args) (ats:=ats) (type:=type) (pos:=pos) (after:=after) (guard:=guard) hF.1 rfl;rw[hrun];refine⟨fun e=>(by cases e),a4i.2 ?_⟩;exact c0x i1 hrd hds hF hok (fun _ _=>rfl) fun v w' G' r1 r2 r3 r4=>hcont r1 r2 r3 r4 hx'
         by_cases hcy:∃f b,xop=.cally f b
         . obtain⟨fd,b,rfl⟩:=hcy;obtain⟨fo,args,ats,ho2,hfo,hds⟩:=c6S hop;simp only[F8,hgd]at hx;obtain⟨dst,op,type,pos,after,guard⟩:=o;simp only at ho2;subst ho2;have hargs:I6 (j8 G st.heap w D) (args.map a.eval) (b.map (y9 st.loc st.vars)):=by
            obtain⟨q1,q2⟩:=a5r hds;refine⟨by simpa using q1,fun i c hc=>?_⟩;rw[H5]at hc;obtain⟨d,hd,rfl⟩:=C5.1 hc;have hi:i<args.toList.length:=(by grind);obtain⟨d',q3,q4⟩:=q2 i _ (l9 hi)
            grind
           have hback:∀(e:Ending) (w':World),FyR B Z0 W0 vs st.vars (fun r vs' h=>h.length=st.heap.length∧F8 FN tail ⟨st.loc++[r],K6 vs' (dst.bind (vs.idxOf? ·)) r,h⟩ Q') G st.heap w e w'→
            (match e with
             | .returned v=>wpOpsIn (fz ρ) nn P ops.toArray Q (List.range' (acc.length+1) rest.length) (a.put dst v) w'
             |_=>False):=by
            rintro e w' ⟨r,vars',h',u,G',rfl,⟨hlen,hx'⟩,hv',r1,r2,r3,r4,r5⟩;have i2':V9 G st.heap w vs vars' a:=fun k s hk=>by
             obtain⟨v,q1,q2⟩:=i2 k s hk
             grind
            have:=ih ⟨st.loc++[r],K6 vars' (dst.bind (vs.idxOf? ·)) r,h'⟩ (a.put dst u) w' (by simp only[a0u,Z3,a7F];exact⟨G',r1,V9.put r2 hn i2' (fun t ht=>by rw[i5];exact hd t ht) r3,a4p.put r2 ho i3 i4 (fun t ht=>by rw[i5];exact hd t ht) r3,by simp[i4],by rw[a8i];exact i5,by rw[b3n];exact r5 _ i6,by rw[b4e];exact r4⟩) (by simp only[hlen];exact hs2) hx'
            simpa using this
           rcases hfy hx i1 i7 (hrd _ _ hfo) hargs with⟨f,vf,vc,hcf,hρ,hcalls⟩|⟨l,hρ,hround⟩
           . have hrun:=b1X (P:=P) (w:=w) (ρ:=a.eval) (dst:=dst) (args:=args) (ats:=ats) (type:=type) (pos:=pos) (after:=after) (guard:=guard) hcf hρ;rw[hrun];refine⟨fun e=>(by cases e),a4i.2 (hcalls.mono fun e w' hh=>?_)⟩
             grind
           . have hrun:=c7E (P:=P) (w:=w) (ρ:=a.eval) (dst:=dst) (args:=args) (ats:=ats) (type:=type) (pos:=pos) (after:=after) (guard:=guard) hρ;obtain⟨fn,tm,asg,body,hy1,hy2⟩:=hround (nn-1);rw[hrun,hy1];refine⟨fun e=>(by cases e),hy2.mono fun e w' hh=>?_⟩
             grind
         by_cases hcv:∃f b,xop=.callv f b
         . obtain⟨fd,b,rfl⟩:=hcv;obtain⟨fo,args,ats,ho2,hfo,hds⟩:=b8X hop;simp only[F8,hgd,fiH]at hx;obtain⟨r,ws,hF,hx'⟩:=hx;rw[hfi]at hF;obtain⟨dst,op,type,pos,after,guard⟩:=o;simp only at ho2;subst ho2;obtain⟨f,vf,vc,hcf,hρ,hcalls⟩:=b4T i1 hrd hfo hds hF;have hrun:=b1X (P:=P) (w:=w) (ρ:=a.eval) (dst:=dst) (args:=args) (ats:=ats) (type:=type) (pos:=pos) (after:=after) (guard:=guard) hcf hρ;rw[hrun];refine⟨fun e=>(by cases e),a4i.2 (hcalls _ fun v w' G' r1 r2 r3 r4=>hcont r1 r2 r3 r4 hx')⟩
         . obtain⟨p,ws,ha,hx'⟩:=b8w (fun f b ks al' e=>hcall ⟨f,b,ks,al',e⟩) (fun f b e=>hcv ⟨f,b,e⟩) (fun f b e=>hcy ⟨f,b,e⟩) hgd hx;obtain⟨n,v,w',G',g1,g2,g3,g4,g5,g6⟩:=b9u i1 hrd hop hks ha;rw[g1];rcases g2 with rfl|⟨rfl,rfl⟩
           . exact hcont g3 g4 g5 g6 hx'
           . exact hcont g3 g4 g5 g6 hx'
      . cases hc
end
end
section
variable{lk:D6}{news:List PV}{ev:s8→PV}{sz k n i kt b:Nat}{v m z x c d s r:PV}{op:N5}{hide:List Nat}{S q:Nat→Bool}
section
variable{P:Program}{B:Nat}{Z0:Nat→Prop}{W0:M3 B}
theorem c8U{lk':D6}(h:K8 op=0):s9 ev lk op=s9 ev lk' op:=by
 cases op<;>(try (simp[K8]at h;done))<;>(try rfl)
 case append k sz b m s x=>simp only[K8]at h;split at h<;>simp at h
theorem b1c{ws:List (Nat×Row)}(h:a1r lk k sz b s news=some (v,ws)):∀y∈ws,y.1=a4T k s:=by
 cases s<;>simp only[a1r]at h<;>(try (cases h;done))
 all_goals
  (repeat' (split at h))<;>(try (cases h;done))<;>(simp only[p9,s6]at h;obtain⟨_,rfl⟩:=h;intro y hy;simp only[F7]at hy;subst hy;rfl)
theorem b2m{ok:Bool}{p:PV}{ks vs:List PV}{ws:List (Nat×Row)}(h:a3z kt ok z x ks vs=some (p,ws)):ws=[]:=by
 unfold a3z at h
 (repeat' (split at h))<;>(try (cases h;done))<;>(simp only[p9,s6]at h;exact h.2.symm)
theorem c4l{ok:Bool}{p:PV}{ws:List (Nat×Row)}(h:a6R lk kt ok z m x=some (p,ws)):ws=[]:=by
 unfold a6R at h;split at h
 . split at h
   . split at h
     . exact b2m h
     . cases h
   . cases h
 . exact b2m h
 . exact b2m h
 . cases h
theorem b9J{p:PV}{ws:List (Nat×Row)}(hk:K8 op≤2)(h:s9 ev lk op=some (p,ws)):∀y∈ws,y.1∈G8 op:=by
 cases op<;>(try (simp[K8]at hk;done))<;>simp only[s9]at h
 case append k sz b m s x=>
  have hm:m=2:=by simp only[K8]at hk;split at hk<;>first|assumption|(exfalso;omega)
  subst hm;split at h
  . rename_i news ws1 hsrc;obtain rfl:=b7p hsrc;split at h
    . rename_i hok;split at h
      . rename_i v ws' happ;simp only[p9,s6,a4E]at h;obtain⟨_,rfl⟩:=h;intro y hy;have h1:=b1c happ y hy;simp only[a5a,E6]at hok;obtain⟨⟨_,h2⟩,_⟩:=hok;simp only[bne_self_eq_false,Bool.false_or,E6,beq_iff_eq]at h2;rw[h1,h2.2];simp[G8]
      . cases h
    . cases h
  . cases h
 case lookup kt ok z m x=>rw[c4l h];intro y hy;cases hy
 case appendF k sz b s x=>
  split at h
  . split at h
    . rename_i hok;split at h
      . rename_i v ws' happ;intro y hy;simp only[a5a,E6]at hok;obtain⟨⟨_,h2⟩,_⟩:=hok;simp only[bne_self_eq_false,Bool.false_or,E6,beq_iff_eq]at h2;unfold a7Q at h;split at h
        case h_2=>cases h
        split at h
        case isFalse=>cases h
        rename_i hc;simp only[p9,s6]at h;obtain⟨_,rfl⟩:=h;have h1:=b1c happ _ (a2W ..);dsimp only at h1;rw[h2.2]at h1;simp only[Z5,List.not_mem_nil,or_false]at hy;rcases hy with rfl|rfl<;>(simp only[G8,F7];rw[←h1,hc.1])
      . cases h
    . cases h
  . cases h
 all_goals
  (repeat' (split at h))<;>(try (cases h;done))<;>(simp only[p9,s6]at h;obtain⟨_,rfl⟩:=h;intro y hy;first|(simp only[F7]at hy;subst hy;simp[G8];done)|(cases hy;done))
theorem c8H(h:K8 op=0):G8 op=[]:=by
 cases op<;>(try (simp[K8]at h;done))<;>(try rfl)
 case append k sz b m s x=>simp only[K8]at h;split at h<;>simp at h
def isA:Ob→Bool
 | .arr .. =>true
 |_=>false
def L5:Ob→Bool
 | .var _=>true
 |_=>false
theorem a9d{o:Ob}(h:isA o=true):o≠ .dead:=by cases o<;>simp[isA]at h⊢
theorem b1d{o:Ob}(h:isA o=true):L5 o=false:=by cases o<;>simp[isA]at h⊢ <;>rfl
theorem b4Z{ks:List Nat}(h:a4z lk c=some (d,ks)):∀k∈ks,isA (lk k).2=true:=by
 cases c<;>simp only[a4z]at h<;>(try (cases h;done))<;>(try (simp only[p9,s6]at h;obtain⟨_,rfl⟩:=h;intro k hk;cases hk;done))
 case own k g gl s o l=>
  split at h
  . rename_i he;split at h
    . split at h
      . grind
      . simp only[p9,s6]at h;obtain⟨_,rfl⟩:=h;intro k' hk;simp only[F7]at hk;subst hk;rw[he];rfl
    . cases h
  . cases h
theorem b4q{lk:D6}:∀{cs ds:List PV} {ks:List Nat},a2i lk cs=some (ds,ks)→∀k∈ks,isA (lk k).2=true
 | [],ds,ks,h=>by simp only[a2i,p9,s6]at h;obtain⟨_,rfl⟩:=h;intro k hk;cases hk
 |c::cs,ds,ks,h=>by
  simp only[a2i]at h;split at h
  . rename_i d ks1 ds1 ls h1 h2;split at h
    . simp only[p9,s6]at h;obtain⟨_,rfl⟩:=h;intro k hk;rcases G7.1 hk with hk|hk
      . exact b4q h2 k hk
      . exact b4Z h1 k hk
    . cases h
  . cases h
theorem c2W{e:PV}{ks:List Nat}(h:a6H lk e=some (d,ks)):∀k∈ks,isA (lk k).2=true:=by
 unfold a6H at h;split at h
 . rename_i h1;simp only[p9,s6]at h;obtain⟨_,rfl⟩:=h;exact b4q h1
 . cases h
theorem b5f{lk:D6}:∀{cs ds:List PV} {ks:List Nat},a3T lk cs=some (ds,ks)→∀k∈ks,isA (lk k).2=true
 | [],ds,ks,h=>by simp only[a3T,p9,s6]at h;obtain⟨_,rfl⟩:=h;intro k hk;cases hk
 |c::cs,ds,ks,h=>by
  simp only[a3T]at h;split at h
  . rename_i d ks1 ds1 ls h1 h2;split at h
    . simp only[p9,s6]at h;obtain⟨_,rfl⟩:=h;intro k hk;rcases G7.1 hk with hk|hk
      . exact b5f h2 k hk
      . exact c2W h1 k hk
    . cases h
  . cases h
theorem b8G{ks:List Nat}:∀y∈kill lk ks,y.1∈ks:=fun y hy=>by obtain⟨k,hk,rfl⟩:=E9.1 hy;exact hk
theorem c3W{m:Nat}{p:PV}{ws:List (Nat×Row)}(h:a2z lk m p=some (news,ws)):∀y∈ws,isA (lk y.1).2=true:=by
 cases p<;>simp only[a2z]at h<;>(try (cases h;done))<;>(try (simp only[p9,s6]at h;obtain⟨_,rfl⟩:=h;intro y hy;cases hy;done))
 case lst es=>
  split at h
  . grind
  . cases h
 case own k g gl s o l=>
  split at h
  . rename_i he;have hk:isA (lk k).2=true:=(by rw[he];rfl);split at h
    . split at h
      . split at h
        . rename_i h1;split at h
          . cases h
          . simp only[p9,s6]at h;obtain⟨_,rfl⟩:=h;intro y hy;have:=b8G y hy;rcases G7.1 this with h2|h2
            . exact b5f h1 _ h2
            . grind
        . cases h
      . grind
    . cases h
  . cases h
 grind
theorem b2I{m:Nat}{p:PV}{ws:List (Nat×Row)}(h:a1q lk m p=some (news,ws)):∀y∈ws,isA (lk y.1).2=true:=by
 unfold a1q at h;split at h
 . cases p<;>simp only[a8Y]at h<;>(try (cases h;done));split at h
   . grind
   . cases h
 split at h
 . cases p<;>simp only[a9s]at h<;>(try (cases h;done))
   grind
 . exact c3W h
theorem b0X{h:l5}(hl:(l8 h hide k).2≠ .dead):hide.contains k=false:=by
 unfold l8 at hl
 grind
theorem b2J{g g':Nat}{fr fr2:Bool}{ks vs ks2 vs2:List PV}(hlk:lk k=(g',.mp fr ks vs)):∀y∈[((k,(g,Ob.mp fr2 ks2 vs2)):Nat×Row)],(lk y.1).2≠ .dead∧L5 y.2.2=L5 (lk y.1).2:=by intro y hy;simp only[F7]at hy;subst hy;simp[hlk,L5]
theorem b9h{k3:Nat}{p:PV}{ws:List (Nat×Row)}(h:a5l lk k3 kt sz z m x=some (p,ws)):∀y∈ws,y.1=k3∨((lk y.1).2≠ .dead∧L5 y.2.2=L5 (lk y.1).2):=by
 unfold a5l at h;split at h
 case h_2=>cases h
 split at h
 case h_2=>cases h
 rename_i hlk;split at h
 case isFalse=>cases h
 split at h
 . split at h
   . split at h
     . split at h
       . split at h
         . simp only[p9,s6]at h;obtain⟨_,rfl⟩:=h;intro y hy;rcases Z5.1 hy with rfl|hy
           . exact .inr (b2J hlk _ a2W)
           . grind
         . cases h
       . cases h
     . cases h
   . grind
   . cases h
 . grind
 . cases h
theorem c7b{k3:Nat}{p:PV}{ws:List (Nat×Row)}(h:a5l lk k3 kt sz z m x=some (p,ws)):∀y∈ws,L5 y.2.2=false:=by
 unfold a5l at h
 (repeat' (split at h))<;>first
  |(cases h;done)
  |(simp only[p9,s6]at h
    obtain⟨_,rfl⟩:=h;intro y hy
    first
     |(cases hy;done)
     |(simp only[Z5,List.not_mem_nil,or_false]at hy
       rcases hy with rfl|rfl<;>rfl))
theorem c1R{h:l5}{p:PV}{ws:List (Nat×Row)}(happ:isApp op=true)(ha:s9 ev (l8 h hide) op=some (p,ws))(hs:∀k∈G8 op,hide.contains k=false):∀y∈ws,hide.contains y.1=false:=by
 cases op<;>(try (simp[isApp]at happ;done))
 case lookupT k kt sz z m x=>
  intro y hy;rcases b9h ha y hy with e|⟨e,_⟩
  . rw[e];exact hs k (by simp[G8])
  . exact b0X e
 case append k sz b m s x=>
  simp only[s9]at ha;split at ha
  . rename_i news ws1 hsrc;split at ha
    . split at ha
      . rename_i v ws' hap;simp only[p9,s6]at ha;obtain⟨_,rfl⟩:=ha;intro y hy;rcases G7.1 hy with hy|hy
        . exact b0X (a9d (b2I hsrc y hy))
        . have h1:=b1c hap y hy;cases hsv:ev s
          case own k1 g gl s' o l=>
           rw[hsv]at h1 hap;simp only[a4T]at h1;rw[h1];simp only[a1r]at hap;split at hap
           . rename_i he;exact b0X (by rw[he];simp)
           . cases hap
          all_goals (rw[hsv]at h1;simp only[a4T]at h1;rw[h1];exact hs k (by simp[G8]))
      . cases ha
    . cases ha
  . cases ha
def Res(FN:N2)(x:k8)(st:B0)(p:PV)(ws:List (Nat×Row)):Prop:=
 (gdO st.loc st.vars x.guard=some false∧p=.tup []∧ws=[])∨
 (gdO st.loc st.vars x.guard=some true∧((∃f args ks al r,x.op=.call f args ks al∧(al=true→args.all (fun a=>a3f (y9 st.loc st.vars a))=true)∧FN.fn f (ks.map (·.2)) (args.map fun a=>fzV (l8 st.heap x.hide) (y9 st.loc st.vars a)) r∧
  a4g st.heap.length ks ((args.map (y9 st.loc st.vars)).any (a2g (l8 st.heap x.hide))) r=true∧p=X2 (N6 ks) (Y1 (l8 st.heap x.hide)) r∧ws=J4 (N6 ks) (Y1 (l8 st.heap x.hide)) 0 (B5 r))∨
  (∃f args,x.op=.callv f args∧fiH FN.fi x.hide (y9 st.loc st.vars) (y9 st.loc st.vars f) (args.map (y9 st.loc st.vars)) st.heap p ws)∨
  ((∀f a k al,x.op≠ .call f a k al)∧(∀f a,x.op≠ .callv f a)∧(∀f a,x.op≠ .cally f a)∧s9 (y9 st.loc st.vars) (l8 st.heap x.hide) x.op=some (p,ws))))
theorem a3V{FN:N2}{x:k8}{st:B0}{p:PV}{ws:List (Nat×Row)}(h:Res FN x st p ws)(hk:K8 x.op≤2):∀y∈ws,y.1∈G8 x.op:=by
 rcases h with⟨_,_,rfl⟩|⟨_,⟨f,args,ks,al,r,hx,_,_,hok,_,rfl⟩|⟨f,args,hx,_⟩|⟨_,_,_,ha⟩⟩
 . intro y hy;simp at hy
 . intro y hy;rw[hx];unfold a4g at hok;simp only[E6]at hok;obtain⟨⟨⟨_,_⟩,k3⟩,_⟩:=hok;obtain⟨i,es,h1,h2⟩:=b0k hy;have hm:=a5K (ks:=N6 ks) (gen:=fun _=>0) (q:=0) h1;have h3:=A8.1 k3 _ (E9.2 ⟨_,hm,rfl⟩);rw[E6]at h3;have:=a0S.1 h3.2;simp only[G8];rw[h2];simpa using this
 . rw[hx]at hk;simp[K8]at hk
 . exact b9J hk ha
theorem b3p{FN:N2}{x:k8}{st:B0}{p:PV}{ws:List (Nat×Row)}(h:Res FN x st p ws)(hk:isApp x.op=true)(hs:∀k∈G8 x.op,x.hide.contains k=false):∀y∈ws,x.hide.contains y.1=false:=by
 rcases h with⟨_,_,rfl⟩|⟨_,⟨f,args,ks,al,r,hx,_,_,hok,_,rfl⟩|⟨f,args,hx,_⟩|⟨_,_,_,ha⟩⟩
 . intro y hy;cases hy
 . rw[hx]at hk;simp[isApp]at hk
 . rw[hx]at hk;simp[isApp]at hk
 . exact c1R hk ha hs
theorem c2d{h h':l5}(h1:agr [] h h'):h'=h:=a4F fun k=>h1.2 k rfl
theorem c0h{fi:PV→List PV→l5→PV→List (Nat×Row)→Prop}{a:List PV}{h:l5}{ws:List (Nat×Row)}(hf:fiH fi hide ev v a h r ws):(∀h',agr hide h h'→fi v a h' r ws)∧a2v hide ev ws=true:=by
 cases hide with
 |nil=>exact⟨fun h' e=>by rw[c2d e];exact hf,by simp[a2v]⟩
 |cons k l=>exact hf
theorem c4D{ws:List (Nat×Row)}(ho:a2v hide ev ws=true):∀y∈ws,hide.contains y.1=false:=fun y hy=>by unfold a2v at ho;rw[E6]at ho;simpa using A8.1 ho.1 y hy
theorem c9f{ws:List (Nat×Row)}(ho:a2v hide ev ws=true)(hn:hide.contains (n+1000000)=true):a2b ws (ev (avO n))=true:=by
 unfold a2v at ho;rw[E6]at ho;have:=A8.1 ho.2 _ (a0S.1 hn);rw[a0P]at this;rcases this with h|h
 . rw[a1I]at h;omega
 . simpa using h
theorem a8l(h:quiet op=true):K8 op=2:=by cases op<;>(try (simp[quiet,a7N,a5s,isLit]at h;done))<;>rfl
section
variable{ks:Nat→Nat×Nat}{gen gen':Nat→Nat}
theorem c0Q{kz:Nat×Nat}(h:∀es,c=.uslc es→gen kz.1=gen' kz.1):M5 kz gen c=M5 kz gen' c:=by
 cases c<;>simp only[M5]
 grind
theorem b9I:∀{cs:List PV} {p:Nat},(∀i es,cs[i]?=some (.uslc es)→gen (ks (p+i)).1=gen' (ks (p+i)).1)→a1O ks gen p cs=a1O ks gen' p cs
 | [],p,_=>rfl
 |c::cs,p,h=>by
  have h1:M5 (ks p) gen c=M5 (ks p) gen' c:=c0Q fun es e=>h 0 es (by simp[e]);have h2:a1O ks gen (p+1) cs=a1O ks gen' (p+1) cs:=b9I fun i es e=>by have:=h (i+1) es (by simpa using e);rwa[show p+(i+1)=p+1+i by omega]at this
  simp only[a1O];rw[h1,h2]
theorem c0T{p:Nat}(h:∀i es,(l6 c)[i]?=some (.uslc es)→gen (ks (p+i)).1=gen' (ks (p+i)).1):a2c ks gen p c=a2c ks gen' p c:=by
 cases c
 case agg cs=>
  have h1:a1O ks gen p cs=a1O ks gen' p cs:=b9I h;simp only[a2c];rw[h1]
 all_goals (simp only[a2c];exact c0Q fun es e=>h 0 es (by simp[l6,e]))
theorem b5w:∀{vs:List PV} {p:Nat},(∀i es,(vs.flatMap l6)[i]?=some (.uslc es)→gen (ks (p+i)).1=gen' (ks (p+i)).1)→a1z ks gen p vs=a1z ks gen' p vs
 | [],p,_=>rfl
 |c::vs,p,h=>by
  simp only[a1z];rw[c0T (gen':=gen') fun i es e=>h i es ?_,b5w fun i es e=>?_]
  . have:=h ((l6 c).length+i) es (by rw[a2C,a3X i9];simpa using e)
    grind
  . grind
theorem c2n(h:∀i es,(B5 r)[i]?=some (.uslc es)→gen (ks i).1=gen' (ks i).1):X2 ks gen r=X2 ks gen' r:=by
 have h0:∀i es,((a0m r).flatMap l6)[i]?=some (.uslc es)→gen (ks (0+i)).1=gen' (ks (0+i)).1:=fun i es e=>by rw[U3];exact h i es e
 cases r
 case tup vs=>simp only[X2];rw[b5w (by simpa[a0m]using h0)]
 all_goals (simp only[X2];exact c0T (by simpa[a0m]using h0))
theorem b8n:∀{cells:List PV} {p:Nat},(∀i es,cells[i]?=some (.uslc es)→gen (ks (p+i)).1=gen' (ks (p+i)).1)→J4 ks gen p cells=J4 ks gen' p cells
 | [],p,_=>rfl
 |c::cs,p,h=>by
  have hr:=b8n (cells:=cs) (p:=p+1) fun i es e=>by have:=h (i+1) es (by simpa using e);rwa[show p+(i+1)=p+1+i by omega]at this
  cases c<;>simp only[J4]<;>(try exact hr)
  case uslc es=>rw[hr,show gen (ks p).1=gen' (ks p).1 from h 0 es rfl]
end
theorem c7l{lk':D6}{p:PV}(h:a3f p=true):fzV lk p=fzV lk' p:=by
 have hc:∀c,(A6 c||(match c with| .nils=>true|_=>false))=true→fzC lk c=fzC lk' c:=fun c hc=>by cases c<;>first|rfl|(simp[A6]at hc;done)
 cases p
 case agg cs=>
  simp only[fzV];congr 1;exact L9 fun c hm=>hc c (A8.1 h c hm)
 case ptr=>simp[a3f,l6,A6]at h
 case eptr=>simp[a3f,l6,A6]at h
 all_goals (simp only[fzV,fzP];refine hc _ ?_;simp only[a3f,l6,List.all_cons,List.all_nil,Bool.and_true]at h;exact h)
theorem c2M{p:PV}(h:a3f p=true):a2g lk p=false:=by unfold a2g;rw[List.any_eq_false];intro c hm;have:=A8.1 h c hm;cases c<;>simp[A6,a7q]at this⊢
theorem c2P{ks:List (Nat×Nat)}{own:Bool}(h:a4g n ks own r=true){es:List PV}(hi:(B5 r)[i]?=some (.uslc es)):(N6 ks i).1∈(ks.filter (·.2 !=0)).map (·.1):=by
 unfold a4g at h;simp only[E6]at h;obtain⟨⟨⟨_,_⟩,k3⟩,_⟩:=h;have hm:=a5K (ks:=N6 ks) (gen:=fun _=>0) (q:=0) hi;have h3:=A8.1 k3 _ (E9.2 ⟨_,hm,rfl⟩)
 grind
theorem b9H{ks:List Nat}:∀y∈kill lk ks,y.2.2=.dead:=fun y hy=>by obtain⟨k,hk,rfl⟩:=E9.1 hy;rfl
theorem c2S{m:Nat}{p:PV}{ws:List (Nat×Row)}(h:a2z lk m p=some (news,ws)):∀y∈ws,L5 y.2.2=false:=by
 cases p<;>simp only[a2z]at h<;>(try (cases h;done))<;>(try (simp only[p9,s6]at h;obtain⟨_,rfl⟩:=h;intro y hy;cases hy;done))
 case lst es=>
  split at h
  . grind
  . cases h
 case own k g gl s o l=>
  split at h
  . split at h
    . split at h
      . split at h
        . split at h
          . cases h
          . simp only[p9,s6]at h;obtain⟨_,rfl⟩:=h;intro y hy;rw[b9H y hy];rfl
        . cases h
      . split at h
        . simp only[p9,s6]at h;obtain⟨_,rfl⟩:=h;split
          . intro y hy;cases hy
          . intro y hy;simp only[F7]at hy;subst hy;rfl
        . cases h
    . cases h
  . cases h
 grind
theorem b2q{m:Nat}{p:PV}{ws:List (Nat×Row)}(h:a1q lk m p=some (news,ws)):∀y∈ws,L5 y.2.2=false:=by
 unfold a1q at h;split at h
 . cases p<;>simp only[a8Y]at h<;>(try (cases h;done));split at h
   . grind
   . cases h
 split at h
 . cases p<;>simp only[a9s]at h<;>(try (cases h;done))
   grind
 . exact c2S h
theorem b5G{ws:List (Nat×Row)}(h:a1r lk k sz b s news=some (v,ws)):∀y∈ws,L5 y.2.2=false:=by
 cases s<;>simp only[a1r]at h<;>(try (cases h;done))
 all_goals
  (repeat' (split at h))<;>(try (cases h;done))<;>(simp only[p9,s6]at h;obtain⟨_,rfl⟩:=h;intro y hy;simp only[F7]at hy;subst hy;rfl)
theorem c6T{ws:List (Nat×Row)}(h:a1r lk k sz b s news=some (v,ws)):∀y∈ws,y.1=k∨isA (lk y.1).2=true:=by
 intro y hy;have h1:=b1c h y hy;cases s<;>simp only[a1r]at h<;>(try (cases h;done))
 case nils=>exact .inl h1
 case ne=>exact .inl h1
 case own k1 g gl s' o l=>
  simp only[a4T]at h1;split at h
  . rename_i he;rw[h1,he];exact .inr rfl
  . cases h
theorem b0r{a:PV}{ws:List (Nat×Row)}(h:a5d lk sz a v=some ws):∀y∈ws,(lk y.1).2≠ .dead∧L5 y.2.2=L5 (lk y.1).2:=by
 unfold a5d at h;split at h
 . cases a<;>(try (cases h;done))
   case ptr k g o=>
    dsimp only at h;split at h
    . rename_i he;split at h
      . cases h;intro y hy;simp only[F7]at hy;subst hy;rw[he];exact⟨k7,rfl⟩
      . cases h
    . cases h
   case eptr k g gl s i j=>
    dsimp only at h;split at h
    . rename_i he;split at h
      . split at h
        . split at h
          . split at h
            . rename_i hemb;split at h
              . cases h
              . cases h;intro y hy;rcases G7.1 hy with hy|hy
                . have h1:=b4q hemb _ (b8G y hy);exact⟨a9d h1,by rw[b9H y hy,b1d h1];rfl⟩
                . simp only[F7]at hy;subst hy;rw[he];exact⟨k7,rfl⟩
            . cases h
          . cases h
        . cases h
      . cases h
    . cases h
   case nptr k g ver s i j m l=>
    dsimp only at h;split at h
    . rename_i he;split at h
      . split at h
        . split at h
          . split at h
            . split at h
              . cases h;intro y hy;simp only[F7]at hy;subst hy;rw[he];exact⟨k7,rfl⟩
              . cases h
            . cases h
          . cases h
        . cases h
      . cases h
    . cases h
 . cases h
theorem c9h{a:PV}{ws:List (Nat×Row)}(h:a6N lk n a v=some ws):∀y∈ws,(lk y.1).2≠ .dead∧L5 y.2.2=L5 (lk y.1).2:=by
 cases a<;>simp only[a6N]at h<;>(try exact b0r h)
 case eptr k g gl s i j=>
  split at h
  . cases v<;>(try (cases h;done));simp only[]at h;split at h
    . rename_i g' sz ver fr es hlk;split at h
      . simp only[p9]at h;subst h;intro y hy;simp only[F7]at hy;subst hy;rw[hlk];exact⟨k7,rfl⟩
      . cases h
    . cases h
  . exact b0r h
theorem c1h{p:PV}{ws0 ws:List (Nat×Row)}(h:a6O lk sz d news ws0=some (p,ws))(h0:∀y∈ws0,isA (lk y.1).2=true∧L5 y.2.2=false):∀y∈ws,isA (lk y.1).2=true∧L5 y.2.2=false:=by
 unfold a6O at h;split at h
 . cases d<;>(try (cases h;done))
   case nils=>simp only[p9,s6]at h;obtain⟨_,rfl⟩:=h;exact h0
   case own k g gl s o l=>
    dsimp only at h;split at h
    . rename_i he;split at h
      . split at h
        . grind
        . simp only[p9,s6]at h;obtain⟨_,rfl⟩:=h;intro y hy;rcases G7.1 hy with hy|hy
          . exact h0 y hy
          . simp only[F7]at hy;subst hy;rw[he];exact⟨rfl,rfl⟩
      . cases h
    . cases h
 . cases h
theorem c7i{ks:List Nat}(h:a5Q lk c=some (d,ks)):∀k∈ks,isA (lk k).2=true:=by
 unfold a5Q at h;split at h
 . exact b4Z h
 . grind
theorem c5L{p:PV}{ws:List (Nat×Row)}(h:a7c lk kt m x v=some (p,ws)):∀y∈ws,(lk y.1).2≠ .dead∧L5 y.2.2=L5 (lk y.1).2:=by
 unfold a7c at h;split at h
 case h_2=>cases h
 split at h
 case h_2=>cases h
 rename_i hlk;split at h
 case isFalse=>cases h
 split at h
 case h_2=>cases h
 rename_i hemb;split at h
 case isTrue=>cases h
 have key:∀{ks vs:List PV} {g:Nat},∀y∈(kill lk _++[(_,(g,Ob.mp false ks vs))]:List (Nat×Row)),(lk y.1).2≠ .dead∧L5 y.2.2=L5 (lk y.1).2:=fun y hy=>by
  rcases G7.1 hy with hy|hy
  . simp only[kill,E9]at hy;obtain⟨k,hk,rfl⟩:=hy;have:=c7i hemb k hk;exact⟨a9d this,by rw[b1d this];rfl⟩
  . exact b2J hlk y hy
 grind
theorem c1m{p:PV}{ws:List (Nat×Row)}(h:a7j lk m=some (p,ws)):∀y∈ws,(lk y.1).2≠ .dead∧L5 y.2.2=L5 (lk y.1).2:=by
 unfold a7j at h;split at h
 . split at h
   . rename_i hlk;split at h
     . simp only[p9,s6]at h;obtain⟨_,rfl⟩:=h;exact b2J hlk
     . cases h
   . cases h
 . grind
 . cases h
theorem c6M{p:PV}{ws:List (Nat×Row)}(h:a6K lk z m=some (p,ws)):∀y∈ws,(lk y.1).2≠ .dead∧L5 y.2.2=L5 (lk y.1).2:=by
 unfold a6K at h;split at h
 . grind
 . split at h
   . rename_i hlk
     (repeat' (split at h))<;>(try (cases h;done))
     simp only[p9,s6]at h;obtain⟨_,rfl⟩:=h;intro y hy;simp only[F7]at hy;subst hy;rw[hlk];exact⟨k7,rfl⟩
   . cases h
 . cases h
theorem c3z{p:PV}{ws:List (Nat×Row)}(h:s9 ev lk op=some (p,ws)):∀y∈ws,y.1∈G8 op∨((lk y.1).2≠ .dead∧L5 y.2.2=L5 (lk y.1).2):=by
 have ofA:∀{ws:List (Nat×Row)},(∀y∈ws,isA (lk y.1).2=true∧L5 y.2.2=false)→∀y∈ws,y.1∈G8 op∨((lk y.1).2≠ .dead∧L5 y.2.2=L5 (lk y.1).2):=fun h y hy=>by obtain⟨h1,h2⟩:=h y hy;exact .inr ⟨a9d h1,by rw[h2,b1d h1]⟩
 by_cases hk:K8 op≤2
 . exact fun y hy=>.inl (b9J hk h y hy)
 . cases op<;>(try (simp[K8]at hk;done))<;>simp only[s9]at h<;>(try (cases h;done))
   case store sz a v=>
    split at h
    . rename_i ws' hs;simp only[p9,s6]at h;obtain⟨_,rfl⟩:=h;exact fun y hy=>.inr (b0r hs y hy)
    . cases h
   case storeN sz a v av=>
    split at h
    . rename_i ws' hs;split at h
      . simp only[p9,s6]at h;obtain⟨_,rfl⟩:=h;exact fun y hy=>.inr (b0r hs y hy)
      . cases h
    . cases h
   case mapUpd kt m x v=>exact fun y hy=>.inr (c5L h y hy)
   case clearM m=>exact fun y hy=>.inr (c1m h y hy)
   case clearS z x=>exact fun y hy=>.inr (c6M h y hy)
   case lookupT k kt sz z m x=>exact fun y hy=>(b9h h y hy).imp (fun e=>by simp[G8,e]) id
   case storeA n a v=>
    split at h
    . rename_i ws' hs;simp only[p9,s6]at h;obtain⟨_,rfl⟩:=h;exact fun y hy=>.inr (c9h hs y hy)
    . cases h
   case append k sz b m s x=>
    split at h
    . rename_i news ws1 hsrc;split at h
      . split at h
        . rename_i v ws' hap;simp only[p9,s6]at h;obtain⟨_,rfl⟩:=h;intro y hy;rcases G7.1 hy with hy|hy
          . exact ofA (fun y hy=>⟨b2I hsrc y hy,b2q hsrc y hy⟩) y hy
          . rcases c6T hap y hy with h1|h1
            . exact .inl (by rw[h1];simp[G8])
            . exact .inr ⟨a9d h1,by rw[b5G hap y hy,b1d h1]⟩
        . cases h
      . cases h
    . cases h
   case copy sz d s=>
    split at h
    . rename_i news ws1 hsrc;exact ofA (c1h h fun y hy=>⟨b2I hsrc y hy,b2q hsrc y hy⟩)
    . cases h
theorem b4S{FN:N2}{x:k8}{st:B0}{p:PV}{ws:List (Nat×Row)}(h:Res FN x st p ws)(hv:a4j x.op=false):∀y∈ws,y.1∈G8 x.op∨(x.hide.contains y.1=false∧L5 y.2.2=L5 (st.heap.getD y.1 (0,.dead)).2):=by
 have h0:=h;rcases h with⟨_,_,rfl⟩|⟨_,⟨f,args,ks,al,r,hx,_,_,hok,_,rfl⟩|⟨f,args,hx,_⟩|⟨_,_,_,ha⟩⟩
 . intro y hy;cases hy
 . exact fun y hy=>.inl (a3V h0 (by rw[hx];exact m0 _) y hy)
 . rw[hx]at hv;cases hv
 . intro y hy;refine(c3z ha y hy).imp id fun⟨h1,h2⟩=>?_;have h3:=b0X h1;refine⟨h3,?_⟩;rw[h2];unfold l8;rw[h3];rfl
theorem b7l:∀{ws:List (Nat×Row)} {h:l5} {k:Nat} {r:Row},(m6 h ws)[k]?=some r→(k,r)∈ws∨h[k]?=some r
 | [],h,k,r,e=>.inr e
 |x::ws,h,k,r,e=>by
  rcases b7l (show(m6 (h.set x.1 x.2) ws)[k]?=some r from e)with e|e
  all_goals grind
theorem b4x{FN:N2}{Q:B0→Prop}:∀{xs:List k8} {st:B0},xs.any (fun x=>a6P x.op)=false→F8 FN xs st Q→∃(T:Nat→B0) (p:Nat→PV) (ws:Nat→List (Nat×Row)),T 0=st∧Q (T xs.length)∧
 ∀i x,xs[i]?=some x→Res FN x (T i) (p i) (ws i)∧T (i+1)=⟨(T i).loc++[p i],K6 (T i).vars x.var (p i),m6 (T i).heap (ws i)⟩
 | [],st,_,h=>⟨fun _=>st,fun _=>.uu,fun _=>[],rfl,h,fun i x hx=>by simp at hx⟩
 |x::xs,st,hny,h=>by
  simp only[List.any_cons,Bool.or_eq_false_iff]at hny;have hcy:∀f a,x.op≠ .cally f a:=fun f a e=>by rw[e]at hny;cases hny.1
  have:∃p ws,Res FN x st p ws∧F8 FN xs ⟨st.loc++[p],K6 st.vars x.var p,m6 st.heap ws⟩ Q:=by
   cases hg:gdO st.loc st.vars x.guard with
   |none=>simp only[F8,hg]at h
   |some c=>
    cases c with
    |false=>simp only[F8,hg]at h;exact⟨_,[],.inl ⟨hg,rfl,rfl⟩,h⟩
    |true=>
     by_cases hcall:∃f b ks al',x.op=.call f b ks al'
     . obtain⟨f,b,ks,al',hx⟩:=hcall;simp only[F8,hg,hx]at h;obtain⟨r,hal,hF,hok,h'⟩:=h;exact⟨_,_,.inr ⟨hg,.inl ⟨f,b,ks,al',r,hx,hal,hF,hok,rfl,rfl⟩⟩,h'⟩
     . by_cases hcv:∃f b,x.op=.callv f b
       . obtain⟨f,b,hx⟩:=hcv;simp only[F8,hg,hx]at h;obtain⟨r,ws,hF,h'⟩:=h;exact⟨_,_,.inr ⟨hg,.inr (.inl ⟨f,b,hx,hF⟩)⟩,h'⟩
       . obtain⟨p,ws,ha,h'⟩:=b8w (fun f b ks al' e=>hcall ⟨f,b,ks,al',e⟩) (fun f b e=>hcv ⟨f,b,e⟩) hcy hg h;exact⟨p,ws,.inr ⟨hg,.inr (.inr ⟨fun f b ks al' e=>hcall ⟨f,b,ks,al',e⟩,fun f b e=>hcv ⟨f,b,e⟩,hcy,ha⟩)⟩,h'⟩
  obtain⟨p0,ws0,h0,h1⟩:=this;obtain⟨T,p,ws,t1,t2,t3⟩:=b4x hny.2 h1;refine⟨fun i=>match i with|0=>st|i+1=>T i,fun i=>match i with|0=>p0|i+1=>p i,fun i=>match i with|0=>ws0|i+1=>ws i,rfl,t2,fun i y hy=>?_⟩
  grind
def J3(q:Nat→Bool):Nat→Option Nat
 |0=>none
 |i+1=>if q i then some i else J3 q i
theorem b9N{q:Nat→Bool}:∀{n j:Nat},J3 q n=some j→j<n∧q j=true
 |0,j,h=>by simp[J3]at h
 |n+1,j,h=>by
  simp only[J3]at h;split at h
  . grind
  . obtain⟨h1,h2⟩:=b9N h;exact⟨i9,h2⟩
theorem a8Q{q q':Nat→Bool}:∀{n:Nat},(∀j,j<n→q j=q' j)→J3 q n=J3 q' n
 |0,_=>rfl
 |n+1,h=>by simp only[J3];rw[h n i9,a8Q fun j hj=>h j i9]
theorem b4v{q:Nat→Bool}{i:Nat}:∀{n:Nat},i≤n→(∀j,i≤j→j<n→q j=false)→J3 q n=J3 q i
 |0,h,_=>by
  obtain rfl:i=0:=i9;rfl
 |n+1,h,hq=>by
  by_cases hi:i=n+1
  . subst hi;rfl
  . simp only[J3];rw[hq n i9 i9,if_neg k7];exact b4v i9 fun j h1 h2=>hq j h1 i9
theorem b2G(hi:i<n)(hS:S i=false)(hC:∀j,j<n→((j<i∧S j=false)∨(i<j∧S j=true))→q j=false):J3 (fun j=>S j&&q j) n=J3 q i:=by
 rw[b4v (a5L hi) fun j h1 h2=>?_]
 . refine a8Q fun j hj=>?_;cases hs:S j
   . grind
   . rfl
 . grind
theorem b6n(hi:i<n)(hq:q i=true)(hC:∀j,j<n→i<j→S j=true→q j=false):J3 (fun j=>(S j||j==i)&&q j) n=some i:=by
 rw[b4v (i:=i+1) i9 fun j h1 h2=>?_]
 . simp only[J3];simp[hq]
 . grind
theorem b8k(hq:q i=false):J3 (fun j=>(S j||j==i)&&q j) n=J3 (fun j=>S j&&q j) n:=by grind
theorem b0E{ops:List Oper}{t:Nat}:∀{i:Nat},a0J ops t i=J3 (fun j=>decide ((ops[j]?).bind (·.dst)=some t)) i
 |0=>rfl
 |i+1=>by simp only[a0J,J3,decide_eq_true_eq];rw[b0E]
theorem b5C:∀{ws:List (Nat×Row)} {h h':l5} {k:Nat},k∈ws.map (·.1)→h.length=h'.length→(m6 h ws)[k]?=(m6 h' ws)[k]?
 | [],_,_,_,hk,_=>by simp at hk
 |(k0,r)::ws,h,h',k,hk,hl=>by
  show(m6 (h.set k0 r) ws)[k]?=(m6 (h'.set k0 r) ws)[k]?;by_cases hm:k∈ws.map (·.1)
  . exact b5C hm (by simpa using hl)
  . have:k=k0:=(by simp only[a0s,Z5]at hk;exact hk.resolve_right hm);subst this;rw[a5j _ _ _ hm,a5j _ _ _ hm,List.getElem?_set_self',List.getElem?_set_self']
    grind
structure Trace(FN:N2)(xs:List k8)(vars:List PV)(h:l5)(T:Nat→B0)(p:Nat→PV)(ws:Nat→List (Nat×Row)):Prop where
 t0:T 0=⟨[],vars,h⟩
 st:∀i x,xs[i]?=some x→Res FN x (T i) (p i) (ws i)∧T (i+1)=⟨(T i).loc++[p i],K6 (T i).vars x.var (p i),m6 (T i).heap (ws i)⟩
section
variable{FN:N2}{xs:List k8}{vars:List PV}{h:l5}{T:Nat→B0}{p:Nat→PV}{ws:Nat→List (Nat×Row)}
theorem Trace.next(t:Trace FN xs vars h T p ws)(hi:i<xs.length):T (i+1)=⟨(T i).loc++[p i],K6 (T i).vars (xs[i]).var (p i),m6 (T i).heap (ws i)⟩:=(t.st i _ (l9 hi)).2
theorem Trace.loc(t:Trace FN xs vars h T p ws):∀{i:Nat},i≤xs.length→(T i).loc.length=i∧∀j,j<i→(T i).loc.getD j .uu=p j
 |0,_=>by rw[t.t0];exact⟨rfl,fun j hj=>i9⟩
 |i+1,hi=>by
  obtain⟨h1,h2⟩:=t.loc (i:=i) i9;rw[t.next i9]
  grind
theorem Trace.len(t:Trace FN xs vars h T p ws):∀{i:Nat},i≤xs.length→(T i).heap.length=h.length
 |0,_=>by rw[t.t0]
 |i+1,hi=>by rw[t.next i9];simp only[a6m];exact t.len i9
theorem Trace.c8t(t:Trace FN xs vars h T p ws)(hi:i<xs.length)(hv:a4j (xs[i]).op=false)(hk:k∉G8 (xs[i]).op):L5 ((T (i+1)).heap.getD k (0,.dead)).2=L5 ((T i).heap.getD k (0,.dead)).2:=by
 rw[t.next hi];simp only;have hr:=b4S (t.st i _ (l9 hi)).1 hv;rw[u9];cases he:(m6 (T i).heap (ws i))[k]? with
 |none=>
  have:(T i).heap.length≤k:=by have:=List.getElem?_eq_none_iff.1 he;rwa[a6m]at this
  rw[u9,a0f this]
 |some r=>
  simp only[a4I];rcases b7l he with hm|hm
  . grind
  . grind
theorem Trace.kinds(t:Trace FN xs vars h T p ws)(hv:∀m (hm:m<xs.length),a4j (xs[m]).op=false){k a:Nat}:∀{n:Nat},a+n≤xs.length→(∀m (hm:m<xs.length),a≤m→m<a+n→k∉G8 (xs[m]).op)→L5 ((T (a+n)).heap.getD k (0,.dead)).2=L5 ((T a).heap.getD k (0,.dead)).2
 |0,_,_=>rfl
 |n+1,hn,hm=>by rw[show a+(n+1)=a+n+1 by omega,t.c8t i9 (hv _ i9) (hm (a+n) i9 i9 i9)];exact t.kinds hv i9 fun m hl h1 h2=>hm m hl h1 i9
def wr(ws:Nat→List (Nat×Row))(k j:Nat):Bool:=((ws j).map (·.1)).contains k
theorem Trace.heap(t:Trace FN xs vars h T p ws)(k:Nat):∀{i:Nat},i≤xs.length→(T i).heap[k]?=match J3 (wr ws k) i with|some j=>(T (j+1)).heap[k]?|none=>h[k]?
 |0,_=>by rw[t.t0];rfl
 |i+1,hi=>by
  simp only[J3];by_cases hw:wr ws k i=true
  . rw[if_pos hw]
  . rw[if_neg hw,←t.heap k (i:=i) i9,t.next i9];exact a5j _ _ _ fun hm=>hw (a0S.2 hm)
theorem Trace.vr(t:Trace FN xs vars h T p ws){q:Nat→Bool}{k:Nat}(hq:∀j (hj:j<xs.length),(xs[j]).var=some k→q j=true)(hq':∀j (hj:j<xs.length),q j=true→(xs[j]).var=some k):∀{i:Nat},i≤xs.length→(T i).vars.getD k .uu=.uu∨(T i).vars.getD k .uu=match J3 q i with|some j=>p j|none=>vars.getD k .uu
 |0,_=>by rw[t.t0];exact .inr rfl
 |i+1,hi=>by
  simp only[J3];have hi':i<xs.length:=i9;rw[t.next hi'];by_cases hv:(xs[i]).var=some k
  . rw[if_pos (hq i hi' hv),hv];simp only[K6,u9]
    grind
  . rw[if_neg fun e=>hv (hq' i hi' e)];have:(K6 (T i).vars (xs[i]).var (p i)).getD k .uu=(T i).vars.getD k .uu:=by
     cases hx:(xs[i]).var with
     |none=>rfl
     |some k0=>
      simp only[K6,u9];rw[D9 fun e=>hv (by rw[hx,e])]
    rw[this];exact t.vr hq hq' i9
end
end
end
section
variable{P:Program}{B:Nat}{Z0:Nat→Prop}{W0:M3 B}
def b5k(x y:N5):Prop:=y=x∨∃sz a v av,x=.store sz a v∧y=.storeN sz a v av
theorem b2R{ws:List Nat}{xs:List k8}{i:Nat}{x:k8}:b5k x.op (a2u ws xs i x).op∧(a2u ws xs i x).guard=x.guard∧(a2u ws xs i x).var=x.var∧G8 (a2u ws xs i x).op=G8 x.op∧∀k∈a9m ws xs i,k∈(a2u ws xs i x).hide:=by
 unfold a2u;split
 . rename_i h1 h2;exact⟨.inr ⟨_,_,_,_,h1,rfl⟩,rfl,rfl,by rw[h1];rfl,fun k hk=>hk⟩
 . rename_i h1;exact⟨.inl h1.symm,rfl,rfl,by rw[h1],fun k hk=>a2D _ hk⟩
 . exact⟨.inl rfl,rfl,rfl,rfl,fun k hk=>hk⟩
structure b6P(P:Program)(vs:List Nat)(N:Nat)(ops:List Oper)(i:Nat)(o:Oper)(x:k8):Prop where
 op:∃k app al x0,a2N P (a6e o (a0h vs ops i)) k app al o.type o.op=some x0∧b5k x0 x.op
 gd:(match o.guard with
     |none=>some none
     |some (j,b)=>match(ops[j]?).bind (·.dst)with
      |some t=>(a0h vs ops i (.tmp t)).map fun d=>some (d,b)
      |none=>none)=some x.guard
 var:x.var=o.dst.bind (vs.idxOf? ·)
 dst:∀t,o.dst=some t→t<N
theorem b8c{vs:List Nat}{N:Nat}{ops:List Oper}{al:Bool}:∀(rest:List Oper) (acc:List k8) (k k':Nat) (xs:List k8),ops.drop acc.length=rest→a4Q P vs N ops al acc k rest=some (xs,k')→
 ∃tail,xs=acc++tail∧tail.length=rest.length∧∀(i:Nat) o,rest[i]?=some o→∃x,tail[i]?=some x∧b6P P vs N ops (acc.length+i) o x∧∃k app al,a2N P (a6e o (a0h vs ops (acc.length+i))) k app al o.type o.op=some x.op
 | [],acc,k,k',xs,hdrop,hc=>by
  simp only[a4Q,p9,s6]at hc;exact⟨[],by simp[hc.1],rfl,fun i o ho=>by simp at ho⟩
 |o::rest,acc,k,k',xs,hdrop,hc=>by
  have hdrop':ops.drop (acc.length+1)=rest:=by rw[←a1U,hdrop];rfl
  simp only[a4Q]at hc;split at hc
  . cases hc
  . rename_i xop hop;split at hc
    . cases hc
    . rename_i g hg;split at hc
      . rename_i hN;obtain⟨tail,rfl,h1,h2⟩:=b8c rest (acc++[{op:=xop,var:=o.dst.bind (vs.idxOf? ·),guard:=g,hide:=[]}]) (k+b3e xop) k' xs (by grind) hc;refine⟨{op:=xop,var:=o.dst.bind (vs.idxOf? ·),guard:=g,hide:=[]}::tail,k7,by simp[h1],fun i y hy=>?_⟩;cases i with
        |zero=>
         simp only[List.getElem?_cons_zero,p9]at hy;subst hy;exact⟨_,rfl,⟨⟨_,_,_,_,hop,.inl rfl⟩,hg,rfl,fun t ht=>by simp only[b2B,ht]at hN;simpa[a1I]using hN⟩,_,_,_,hop⟩
        |succ i=>
         obtain⟨x,h3,h4⟩:=h2 i y (by simpa using hy);refine⟨x,by simpa using h3,?_⟩;simp only[a0u,Z3,a7F]at h4;rw[show acc.length+(i+1)=acc.length+1+i by omega];exact h4
      . cases hc
theorem c1S{acc:List Nat}{o:Oper}{j:Nat}(h:(a5k acc o).testBit j=true):∃e∈o.after.toList,Region.binds .any e=true∧e.on<acc.length∧(j=e.on∨(acc.getD e.on 0).testBit j=true):=by
 unfold a5k at h;generalize o.after.toList=l at h
 induction l with
 |nil=>simp at h
 |cons e l ih=>
  simp only[List.foldr_cons]at h;split at h
  . rename_i hc;simp only[E6,a1I]at hc
    grind
  . grind
theorem b3G:∀(rest:List Oper) (acc:List Nat),∃tail,H9 acc rest=acc++tail∧tail.length=rest.length∧∀(i:Nat) o,rest[i]?=some o→tail[i]?=some (a5k (acc++tail.take i) o)
 | [],acc=>⟨[],by simp[H9],rfl,fun i o ho=>by simp at ho⟩
 |o::rest,acc=>by
  obtain⟨tail,h1,h2,h3⟩:=b3G rest (acc++[a5k acc o]);refine⟨a5k acc o::tail,by simp[H9,h1],by simp[h2],fun i y hy=>?_⟩;cases i with
  |zero=>simp only[List.getElem?_cons_zero,p9]at hy;subst hy;simp
  |succ i=>have:=h3 i y (by simpa using hy);simpa using this
theorem a8R{ops:List Oper}{i j:Nat}{o:Oper}(ho:ops[i]?=some o)(h:((H9 [] ops).getD i 0).testBit j=true):∃e∈o.after.toList,Region.binds .any e=true∧e.on<i∧(j=e.on∨((H9 [] ops).getD e.on 0).testBit j=true):=by
 obtain⟨tail,h1,h2,h3⟩:=b3G ops [];simp only[a4E]at h1 h3;rw[h1]at h⊢;have hi:i<tail.length:=by grind
 rw[u9,h3 i o ho,a4I]at h;obtain⟨e,e1,e2,e3,e4⟩:=c1S h
 grind
theorem c6h{acc:List Nat}{o:Oper}{e:Edge}(he:e∈o.after.toList)(hb:Region.binds .any e=true)(hl:e.on<acc.length){j:Nat}(hj:(acc.getD e.on 0).testBit j=true):(a5k acc o).testBit j=true:=by
 unfold a5k;generalize o.after.toList=l at he
 induction l with
 |nil=>cases he
 |cons a l ih=>
  simp only[List.foldr_cons];rcases Z5.1 he with rfl|he
  . rw[if_pos (by simp[hb,hl])]
    grind
  . grind
theorem c0g{ops:List Oper}{m i:Nat}(h2:((H9 [] ops).getD m 0).testBit i=true):∀(j:Nat),j<ops.length→((H9 [] ops).getD j 0).testBit m=true→((H9 [] ops).getD j 0).testBit i=true:=by
 intro j
 induction j using Nat.strongRecOn with
 |_ j ih=>
  intro hj h1;obtain⟨e,e1,e2,e3,e4⟩:=a8R (l9 hj) h1;have h3:((H9 [] ops).getD e.on 0).testBit i=true:=by grind
  obtain⟨tail,t1,t2,t3⟩:=b3G ops [];simp only[a4E]at t1 t3;rw[t1]at h3⊢;rw[u9,t3 j _ (l9 hj),a4I];refine c6h e1 e2 I3 ?_;simp only[u9,a0O,if_pos e3]at h3⊢;exact h3
theorem b0Y:∀{ops:List Oper} {k:Nat},a4y k ops=true→∀(i:Nat) o,ops[i]?=some o→∀e∈o.after.toList,Region.binds .any e=true→e.on<k+i
 | [],_,_,i,o,ho=>by simp at ho
 |o::r,k,h,i,y,hy=>by
  simp only[a4y,E6]at h;cases i with
  |zero=>
   simp only[List.getElem?_cons_zero,p9]at hy;subst hy;intro e he hb;have:=Array.all_eq_true'.1 h.1 e (by simpa using he);rw[hb]at this;simpa[a1I]using this
  |succ i=>
   intro e he hb;have:=b0Y h.2 i y (by simpa using hy) e he hb;omega
structure a0x(P:Program)(vs:List Nat)(N:Nat)(ops:List Oper)(xs:List k8):Prop where
 len:xs.length=ops.length
 ok:∀i o,ops[i]?=some o→∃x,xs[i]?=some x∧b6P P vs N ops i o x
 un:∀i j x y a b,xs[i]?=some x→xs[j]?=some y→ops[i]?=some a→ops[j]?=some b→S5 (H9 [] ops) i j=true→
  a.apart ops.toArray b=true∧b.apart ops.toArray a=true∧a2y x y=true∧∀k∈G8 y.op,k∈x.hide
 ed:a4y 0 ops=true
 cy:xs.any (fun x=>a6P x.op)=false
 av:∀y∈xs,avV xs y=true
 cv:∀(i j:Nat) (x y:k8),xs[i]?=some x→xs[j]?=some y→a5s x.op=true→a4j y.op=false
theorem a9v{ws:List Nat}{i j:Nat}(h:S5 ws i j=true):S5 ws j i=true:=by
 unfold S5 at*;split at h
 . grind
 . grind
theorem c2j{x y:k8}(h:a2y x y=true):a2y y x=true:=by
 unfold a2y at*;simp only[a0P,E6,decide_eq_true_eq,beq_iff_eq]at*;rcases h with(((((((h|h)|h)|h)|h)|h)|h)|h)
 . omega
 . omega
 . omega
 all_goals grind
theorem b4z{vs:List Nat}{N k k':Nat}{ops:List Oper}{xs:List k8}(h:a4S P vs N k ops true=some (xs,k')):a0x P vs N ops xs:=by
 unfold a4S at h;split at h
 . cases h
 . rename_i xs0 k1 hc;simp only[if_true]at h;split at h
   . rename_i hd;unfold b6g at hd;simp only[E6]at hd;obtain⟨⟨⟨⟨hav,hcy⟩,hcv⟩,hd⟩,hed⟩:=hd;simp only[p9,s6]at h;obtain⟨rfl,rfl⟩:=h;obtain⟨tail,h1,h2,h3⟩:=b8c ops [] k k1 xs0 rfl hc;simp only[a4E,a7F,U3]at h1 h3;subst h1;have hget:∀(i:Nat),((xs0.zipIdx.map fun y=>a2u (H9 [] ops) xs0 y.2 y.1)[i]?)=(xs0[i]?).map fun x=>a2u (H9 [] ops) xs0 i x:=fun i=>by
      rw[H5,List.getElem?_zipIdx];cases xs0[i]?<;>simp
     refine⟨by simp[h2],fun i o ho=>?_,fun i j x y a b hx hy ha hb hu=>?_,hed,?_,fun y hy=>A8.1 hav y hy,fun i j x y hx hy hl=>?_⟩
     . obtain⟨x,h4,h5,k2,app2,al2,h6⟩:=h3 i o ho;obtain⟨l1,l2,l3,_⟩:=b2R (ws:=H9 [] ops) (xs:=xs0) (i:=i) (x:=x);refine⟨a2u (H9 [] ops) xs0 i x,by rw[hget,h4];rfl,⟨k2,app2,al2,_,h6,l1⟩,by rw[l2];exact h5.gd,by rw[l3];exact h5.var,h5.dst⟩
     . rw[hget]at hx hy;obtain⟨x0,hx0,rfl⟩:=C5.1 hx;obtain⟨y0,hy0,rfl⟩:=C5.1 hy;have hil:i<ops.length:=(B4.1 ha).1;have hjl:j<ops.length:=(B4.1 hb).1;have key:∀(i j:Nat) (x0 y0:k8) (a b:Oper),i<j→j<ops.length→xs0[i]?=some x0→xs0[j]?=some y0→ops[i]?=some a→ops[j]?=some b→S5 (H9 [] ops) j i=true→a.apart ops.toArray b=true∧b.apart ops.toArray a=true∧a2y (a2u (H9 [] ops) xs0 i x0) (a2u (H9 [] ops) xs0 j y0)=true:=(by grind);have hij:i≠j:=fun e=>(by subst e;simp[S5]at hu);have h5:∀k∈G8 (a2u (H9 [] ops) xs0 j y0).op,k∈(a2u (H9 [] ops) xs0 i x0).hide:=fun k hk=>by
        rw[(b2R (ws:=H9 [] ops) (xs:=xs0) (i:=j) (x:=y0)).2.2.2.1]at hk;refine(b2R (ws:=H9 [] ops) (xs:=xs0) (i:=i) (x:=x0)).2.2.2.2 k ?_;unfold a9m;refine List.mem_flatten.2 ⟨G8 y0.op,E9.2 ⟨(y0,j),a7J.2 ⟨?_,by simpa using hu⟩,rfl⟩,hk⟩;exact List.mem_zipIdx_iff_getElem?.2 hy0
       rcases b1M hij with hlt|hgt
       . obtain⟨k1,k2,k3⟩:=key i j x0 y0 a b hlt hjl hx0 hy0 ha hb (a9v hu);exact⟨k1,k2,k3,h5⟩
       . obtain⟨k1,k2,k3⟩:=key j i y0 x0 b a hgt hil hy0 hx0 hb ha hu;exact⟨k2,k1,c2j k3,h5⟩
     . simpa using hcy
     . grind
   . cases h
end
section
variable{x y:k8}{j k t:Nat}{o:Oper}{q:PV}
def dq(ops:List Oper)(t:Nat)(j:Nat):Bool:=decide ((ops[j]?).bind (·.dst)=some t)
structure a1a(P:Program)(B:Nat)(Z0:Nat→Prop)(W0:M3 B)(vs:List Nat)(N:Nat)(ops:List Oper)(vars:List PV)(h:l5)(T:Nat→B0)(p:Nat→PV)(ws:Nat→List (Nat×Row))(S:Nat→Bool)(G:Gh)(hS:l5)(a:Act)(w:World):Prop where
 hr:p7 B Z0 G hS w
 len:hS.length=h.length
 hp:∀k:Nat,hS[k]?=match J3 (fun j=>S j&&wr ws k j) ops.length with|some j=>(T (j+1)).heap[k]?|none=>h[k]?
 slw:∀t j,J3 (fun j=>S j&&dq ops t j) ops.length=some j→∃v,a.tmps[t]?=some v∧j8 G hS w D v (p j)
 sl0:∀t,J3 (fun j=>S j&&dq ops t j) ops.length=none→∀k,vs[k]?=some t→∃v,a.tmps[t]?=some v∧j8 G hS w D v (vars.getD k .uu)
 sz:a.tmps.size=N
 df:a0k W0.m a.defers w
 be:W0.psi (V7 vs vars) G hS w
section
variable{P:Program}{B:Nat}{Z0:Nat→Prop}{W0:M3 B}{vs:List Nat}{N:Nat}{ops:List Oper}{xs:List k8}{vars:List PV}{h:l5}{T:Nat→B0}{p:Nat→PV}{ws:Nat→List (Nat×Row)}{S:Nat→Bool}{G G':Gh}{hS:l5}{a:Act}{w w':World}
structure Next(ops:List Oper)(S:Nat→Bool)(i:Nat):Prop where
 lt:i<ops.length
 out:S i=false
 down:∀j k,S j=true→j<ops.length→((H9 [] ops).getD j 0).testBit k=true→S k=true
 mine:∀k,((H9 [] ops).getD i 0).testBit k=true→S k=true
theorem Next.a7B{i:Nat}(n:Next ops S i)(hj:j<ops.length)(h:(j<i∧S j=false)∨(i<j∧S j=true)):S5 (H9 [] ops) i j=true:=by
 unfold S5;rcases h with⟨h1,h2⟩|⟨h1,h2⟩
 . rw[if_pos h1];cases hb:((H9 [] ops).getD i 0).testBit j
   . rfl
   . have:=n.mine j hb;rw[h2]at this;cases this
 . rw[if_neg i9,if_pos h1];cases hb:((H9 [] ops).getD j 0).testBit i
   . rfl
   . have:=n.down j i h2 hj hb;rw[n.out]at this;cases this
theorem a5I(ho:ops[j]?=some o):dq ops t j=true↔o.dst=some t:=by unfold dq;rw[ho];simp
theorem c7Q(d:a0x P vs N ops xs){i:Nat}(n:Next ops S i)(ho:ops[i]?=some o)(ht:t∈o.looksAt ops.toArray):J3 (fun j=>S j&&dq ops t j) ops.length=a0J ops t i:=by
 rw[b0E];refine b2G n.lt n.out fun j hj hc=>?_;obtain⟨x,hx,_⟩:=d.ok i o ho;obtain⟨b,hb⟩:∃b,ops[j]?=some b:=⟨_,l9 hj⟩
 obtain⟨y,hy,_⟩:=d.ok j b hb;obtain⟨h1,h2,_,_⟩:=d.un i j x y o b hx hy ho hb (n.a7B hj hc);have:=(Oper.apart_spec h2).1;show dq ops t j=false;cases hq:dq ops t j
 . rfl
 . exact absurd ht (this t ((a5I hb).1 hq))
theorem c8D(h:t∈a7d o):t∈o.looksAt ops.toArray:=a2D _ h
theorem c0C(d:a0x P vs N ops xs)(tr:Trace (fns P) xs vars h T p ws)(r:a1a P B Z0 W0 vs N ops vars h T p ws S G hS a w){i:Nat}(n:Next ops S i)(ho:ops[i]?=some o)(ht:t∈o.looksAt ops.toArray){dd:s8}(hd:a0h vs ops i (.tmp t)=some dd):
 ∃v,a.tmps[t]?=some v∧j8 G hS w D v (y9 (T i).loc (T i).vars dd):=by
 have hag:=c7Q d n ho ht;simp only[a0h]at hd;split at hd
 . rename_i j hj;cases hd;rw[hj]at hag;obtain⟨v,h1,h2⟩:=r.slw t j hag;refine⟨v,h1,?_⟩;have hji:=(b3W hj).1;have:=(tr.loc (i:=i) (by rw[d.len];exact a5L n.lt)).2 j hji;simp only[y9];rw[this];exact h2
 . rename_i hj;obtain⟨k,h1,rfl⟩:=C5.1 hd;rw[hj]at hag;obtain⟨v,h2,h3⟩:=r.sl0 t hag k (a0H h1);refine⟨v,h2,?_⟩;have hvar:∀j (hjl:j<xs.length),∃b,ops[j]?=some b∧(xs[j]).var=b.dst.bind (vs.idxOf? ·):=fun j hjl=>by
    obtain⟨x,hx,hok⟩:=d.ok j _ (l9 (d.len▸hjl));rw[l9 hjl]at hx;cases hx;exact⟨_,l9 (d.len▸hjl),hok.var⟩
   have hq1:∀j (hjl:j<xs.length),(xs[j]).var=some k→dq ops t j=true:=fun j hjl hv=>by obtain⟨b,hb,hb2⟩:=hvar j hjl;rw[hb2]at hv;obtain⟨t',h5,h6⟩:=V1.1 hv;have:t'=t:=W6 ((a0H h6).symm.trans (a0H h1));subst this;exact(a5I hb).2 h5
   have hq2:∀j (hjl:j<xs.length),dq ops t j=true→(xs[j]).var=some k:=fun j hjl hq=>by obtain⟨b,hb,hb2⟩:=hvar j hjl;rw[hb2,(a5I hb).1 hq];exact h1
   rcases tr.vr hq1 hq2 (i:=i) (by rw[d.len];exact a5L n.lt)with h4|h4
   . simp only[y9];rw[h4];exact L3
   . rw[show J3 (dq ops t) i=none by rw[←hj,b0E];rfl]at h4;simp only[y9];rw[h4];exact h3
theorem c8e(d:a0x P vs N ops xs)(tr:Trace (fns P) xs vars h T p ws)(r:a1a P B Z0 W0 vs N ops vars h T p ws S G hS a w){i:Nat}(n:Next ops S i)(ho:ops[i]?=some o):
 ∀x dd,a6e o (a0h vs ops i) x=some dd→j8 G hS w D (a.eval x) (y9 (T i).loc (T i).vars dd):=by
 intro x dd hx;obtain⟨h1,h2⟩:=b9W hx;cases x with
 |tmp t=>
  obtain⟨v,h3,h4⟩:=c0C d tr r n ho (c8D (h2 t rfl)) h1;have:a.eval (.tmp t)=v:=by simp[Act.eval,h3]
  rw[this];exact h4
 |const v=>
  simp only[a0h]at h1;obtain⟨q,h3,rfl⟩:=C5.1 h1;exact b7o h3
 |func f=>
  simp only[a0h]at h1;cases h1;show j8 G hS w D (.func (.func f) #[] #[]) (.fn (.func f) [] []);unfold D;unfold j8;exact⟨_,_,rfl,⟨rfl,fun i c hc=>by simp at hc⟩,⟨rfl,fun i c hc=>by simp at hc⟩⟩
 |global g=>simp[a0h]at h1
theorem b2U(d:a0x P vs N ops xs)(tr:Trace (fns P) xs vars h T p ws)(r:a1a P B Z0 W0 vs N ops vars h T p ws S G hS a w){i:Nat}(n:Next ops S i)(hk:∀j y,j<ops.length→xs[j]?=some y→S5 (H9 [] ops) i j=true→wr ws k j=false):
 hS[k]?=(T i).heap[k]?:=by
 have hlast:J3 (fun j=>S j&&wr ws k j) ops.length=J3 (wr ws k) i:=by
  refine b2G n.lt n.out fun j hj hc=>?_;obtain⟨y,hy⟩:∃y,xs[j]?=some y:=⟨_,l9 (by rw[d.len];exact hj)⟩
  exact hk j y hj hy (n.a7B hj hc)
 rw[r.hp k,tr.heap k (i:=i) (by rw[d.len];exact a5L n.lt),hlast]
 all_goals rfl
theorem b4u{h h':l5}{hide:List Nat}(e:hide.contains k=false→h[k]?=h'[k]?):l8 h hide k=l8 h' hide k:=by
 unfold l8
 grind
theorem b1T(d:a0x P vs N ops xs)(tr:Trace (fns P) xs vars h T p ws){i:Nat}(hx:xs[i]?=some x)(hy:xs[j]?=some y)(hu:S5 (H9 [] ops) i j=true)(hk2:K8 y.op≤2)(hnh:x.hide.contains k=false):wr ws k j=false:=by
 have hio:i<ops.length:=by rw[←d.len];exact(B4.1 hx).1
 have hjo:j<ops.length:=by rw[←d.len];exact(B4.1 hy).1
 obtain⟨_,_,_,h4⟩:=d.un i j x y _ _ hx hy (l9 hio) (l9 hjo) hu;cases hw:wr ws k j
 . rfl
 . exfalso;obtain⟨z,hz1,hz2⟩:=E9.1 (a0S.1 hw);have:=h4 _ (a3V (tr.st j y hy).1 hk2 z hz1)
   grind
theorem b5i(d:a0x P vs N ops xs)(tr:Trace (fns P) xs vars h T p ws)(r:a1a P B Z0 W0 vs N ops vars h T p ws S G hS a w){i:Nat}(n:Next ops S i)(hx:xs[i]?=some x)(hlow:∀j y,j<ops.length→xs[j]?=some y→S5 (H9 [] ops) i j=true→K8 y.op≤2)(hnh:x.hide.contains k=false):
 hS[k]?=(T i).heap[k]?:=
 b2U d tr r n fun j y hj hy hu=>b1T d tr hx hy hu (hlow j y hj hy hu) hnh
def a7v:N5→Bool
 | .load .. =>true
 |_=>false
theorem a3Q(hc:a6c x y=true):a7v x.op=true:=by
 unfold a6c at hc;split at hc
 . rename_i h;rw[h];rfl
 . cases hc
theorem a6h{op:N5}(h:a7v op=true):K8 op=2∧G8 op=[]:=by cases op<;>(try (cases h;done));exact⟨rfl,rfl⟩
theorem b3X(d:a0x P vs N ops xs){i:Nat}(hx:xs[i]?=some x)(hy:xs[j]?=some y)(hu:S5 (H9 [] ops) i j=true):a2y x y=true:=by
 have hio:i<ops.length:=by rw[←d.len];exact(B4.1 hx).1
 have hjo:j<ops.length:=by rw[←d.len];exact(B4.1 hy).1
 exact(d.un i j x y _ _ hx hy (l9 hio) (l9 hjo) hu).2.2.1
theorem b6m(d:a0x P vs N ops xs)(tr:Trace (fns P) xs vars h T p ws)(r:a1a P B Z0 W0 vs N ops vars h T p ws S G hS a w){i:Nat}(n:Next ops S i)(hx:xs[i]?=some x)(hk:K8 x.op≠0)(hnc:quiet x.op=false)(hk1:K8 x.op≠1)(hnl:a7v x.op=false)(hnv:a4j x.op=false):
 l8 hS x.hide=l8 (T i).heap x.hide:=by
 funext k;refine b4u fun hnh=>b5i d tr r n hx (fun j y hj hy hu=>?_) hnh;have h3:=b3X d hx hy hu;unfold a2y at h3;simp only[a0P,E6,decide_eq_true_eq,beq_iff_eq]at h3;rcases h3 with(((((((h3|h3)|h3)|h3)|h3)|h3)|h3)|h3)
 . omega
 . omega
 . exact h3.2
 . rw[a8l h3.2];exact m0 _
 . rw[hnc]at h3;cases h3.1
 . rcases h3 with h3|h3
   . rw[a3Q h3]at hnl;cases hnl
   . rw[(a6h (a3Q h3)).1];exact m0 _
 . rw[hnv]at h3;cases h3.1
 . omega
theorem b5N{FN:N2}{st:B0}{p:PV}{ws:List (Nat×Row)}(h:Res FN x st p ws)(hv:a4j x.op=true):a2v x.hide (y9 st.loc st.vars) ws=true∨ws=[]:=by
 rcases h with⟨_,_,rfl⟩|⟨_,⟨f,args,ks,al,r,hx,_⟩|⟨f,args,hx,hF⟩|⟨_,hn,_,ha⟩⟩
 . exact .inr rfl
 . rw[hx]at hv;cases hv
 . exact .inl (c0h hF).2
 . cases hop:x.op<;>(try (rw[hop]at hv;cases hv;done));exact absurd hop (hn _ _)
theorem b4f{FN:N2}{st:B0}{p:PV}{ws:List (Nat×Row)}(h:Res FN x st p ws)(hv:a4j x.op=true):∀y∈ws,x.hide.contains y.1=false:=by
 rcases b5N h hv with h1|h1
 . exact c4D h1
 grind
theorem b3H(d:a0x P vs N ops xs)(tr:Trace (fns P) xs vars h T p ws)(hsi:a2a h.length xs=true)(r:a1a P B Z0 W0 vs N ops vars h T p ws S G hS a w){i:Nat}(n:Next ops S i)(hx:xs[i]?=some x)(hk:K8 x.op=1∨K8 x.op=2)(hks:k∈G8 x.op):
 l8 hS x.hide k=l8 (T i).heap x.hide k:=by
 have hsite:∀{i:Nat} {x:k8},xs[i]?=some x→∀k∈G8 x.op,x.hide.contains k=false:=fun hx k hk=>by have:=A8.1 (A8.1 hsi _ (C8 hx)) _ hk;simp only[E6,a6C]at this;exact this.2
 refine b4u fun hnh=>b2U d tr r n fun j y hj hy hu=>?_;obtain⟨_,_,h3,h4⟩:=d.un i j x y _ _ hx hy (l9 n.lt) (l9 hj) hu;obtain⟨_,_,_,h5⟩:=d.un j i y x _ _ hy hx (l9 hj) (l9 n.lt) (a9v hu);by_cases hk2:K8 y.op≤2
 . exact b1T d tr hx hy hu hk2 hnh
 . cases hw:wr ws k j
   . rfl
   . exfalso;obtain⟨z,hz1,hz2⟩:=E9.1 (a0S.1 hw);have hyk:y.hide.contains z.1=true:=(by grind);unfold a2y at h3;simp only[a0P,E6,decide_eq_true_eq,beq_iff_eq]at h3;rcases h3 with(((((((h3|h3)|h3)|h3)|h3)|h3)|h3)|h3)
     . omega
     . omega
     . omega
     . have:=a8l h3.2;omega
     . have:=b3p (tr.st j y hy).1 h3.2 (hsite hy) z hz1;rw[hyk]at this;cases this
     . rcases h3 with h3|h3
       . rw[(a6h (a3Q h3)).2]at hks;cases hks
       . have:=(a6h (a3Q h3)).1;omega
     . omega
     . have:=b4f (tr.st j y hy).1 h3.2 z hz1;rw[hyk]at this;cases this
theorem c9E(d:a0x P vs N ops xs)(tr:Trace (fns P) xs vars h T p ws){i:Nat}(hx:xs[i]?=some x)(hy:xs[j]?=some y)(hc:a6c x y=true){agg:Bool}{sz:Nat}{m:s8}(hxo:x.op=.load agg sz m){lk:D6}(hq:a0j lk agg sz (y9 (T i).loc (T i).vars m)=some q):
 a2b (ws j) (y9 (T i).loc (T i).vars m)=true:=by
 have hil:i<xs.length:=(B4.1 hx).1;have hjl:j<xs.length:=(B4.1 hy).1;unfold a6c at hc;rw[hxo]at hc;simp only[]at hc;split at hc
 case h_2=>cases hc
 rename_i n hn;obtain⟨t1,t2⟩:=tr.loc (i:=i) (a5L hil);obtain⟨t3,t4⟩:=tr.loc (i:=j) (a5L hjl);have hun:∀{lk:D6} {v:PV} {agg:Bool} {sz:Nat} {q:PV},a0j lk agg sz v=some q→∀ws:List (Nat×Row),a2b ws .uu=true→a2b ws v=true:=fun _ ws h=>by cases h
 have hvar:∀t,(∀z∈xs,z.var≠some t)→∀a,a≤xs.length→(T a).vars.getD t .uu=vars.getD t .uu:=fun t ht a=>by
  induction a with
  |zero=>intro _;rw[tr.t0]
  |succ a ih=>
   intro ha;have hal:a<xs.length:=i9;rw[tr.next hal,←ih i9];simp only;have:=ht _ (B7 hal);cases hv:(xs[a]).var with
   |none=>rfl
   |some t0=>
    simp only[K6,u9];rw[D9 fun e=>this (by rw[hv,e])]
 have key:(∀t,n=t+1000000→∀z∈xs,z.var≠some t)→a2b (ws j) (y9 (T j).loc (T j).vars (avO n))=true→a2b (ws j) (y9 (T i).loc (T i).vars m)=true:=fun hw h1=>by
  cases m<;>simp only[avC]at hn<;>(try (cases hn;done))
  case l n0=>
   split at hn
   . rename_i hlt;cases hn;rw[show avO n=.l n by unfold avO;rw[if_pos hlt]]at h1;simp only[y9]at hq h1⊢;have hni:n<i:=by
      refine Classical.byContradiction fun hn=>?_;rw[u9,a0f i9]at hq;simp[a0j]at hq
     rw[t2 n hni];by_cases hnj:n<j
     . rw[t4 n hnj]at h1;exact h1
     . grind
   . cases hn
  case v t=>
   cases hn;rw[show avO (t+1000000)=.v t by unfold avO;rw[if_neg (by rw[a1I];omega)];simp]at h1;simp only[y9]at h1⊢;rw[hvar t (hw t rfl) i (a5L hil)];rw[hvar t (hw t rfl) j (a5L hjl)]at h1;exact h1
 have hnil:ws j=[]→a2b (ws j) (y9 (T i).loc (T i).vars m)=true:=fun e=>by rw[e];cases hp:y9 (T i).loc (T i).vars m<;>rw[hp]at hq<;>first|rfl|(simp[a0j]at hq;done)
 have hav:=d.av y (C8 hy);unfold avV at hav;split at hc
 . rename_i sz' a v av hyo;have hw:∀t,n=t+1000000→∀z∈xs,z.var≠some t:=fun t e z hz hv=>by
    rw[hyo]at hav;have:=A8.1 hav n (a0S.1 hc);rw[a0P]at this;rcases this with h1|h1
    . rw[a1I]at h1;omega
    . grind
   rcases(tr.st j y hy).1 with⟨_,_,h1⟩|⟨_,⟨f,args,ks,al,r,h1,_⟩|⟨f,args,h1,_⟩|⟨_,_,_,ha⟩⟩
   . exact hnil h1
   . rw[hyo]at h1;cases h1
   . rw[hyo]at h1;cases h1
   . rw[hyo]at ha;simp only[s9]at ha;split at ha
     . grind
     . cases ha
 . rename_i f b hyo;have hw:∀t,n=t+1000000→∀z∈xs,z.var≠some t:=fun t e z hz hv=>by
    rw[hyo]at hav;have:=A8.1 hav n (E9.2 ⟨n+1000000,a0S.1 hc,i9⟩);rw[a0P]at this;rcases this with h1|h1
    . rw[a1I]at h1;omega
    . grind
   rcases b5N (tr.st j y hy).1 (by rw[hyo];rfl)with h1|h1
   . exact key hw (c9f h1 hc)
   . exact hnil h1
 . cases hc
theorem c4e{lk lk':D6}{agg:Bool}{sz:Nat}{v:PV}(h:∀k,(∀ws,a2b ws v=true→(ws.map (·.1)).contains k=false)→lk k=lk' k):a0j lk agg sz v=a0j lk' agg sz v:=by
 cases v<;>simp only[a0j]
 case ptr k g o=>rw[h k fun ws hw=>by simpa[a2b]using hw]
 case eptr k g gl s i j=>rw[h k fun ws hw=>by simpa[a2b]using hw]
 case nptr k g ver s i j m l=>rw[h k fun ws hw=>by simpa[a2b]using hw]
theorem c7g(d:a0x P vs N ops xs)(tr:Trace (fns P) xs vars h T p ws)(r:a1a P B Z0 W0 vs N ops vars h T p ws S G hS a w){i:Nat}(n:Next ops S i)(hx:xs[i]?=some x)(hl:a7v x.op=true){us:List (Nat×Row)}(ha:s9 (y9 (T i).loc (T i).vars) (l8 (T i).heap x.hide) x.op=some (q,us)):
 s9 (y9 (T i).loc (T i).vars) (l8 hS x.hide) x.op=some (q,us):=by
 cases hop:x.op<;>(try (rw[hop]at hl;cases hl;done))
 case load agg sz m=>
  rw[hop]at ha;simp only[s9]at ha⊢;split at ha
  . rename_i v hv;rw[←c4e (lk:=l8 (T i).heap x.hide) (lk':=l8 hS x.hide) fun k hk=>(b4u fun hnh=>b2U d tr r n fun j y hj hy hu=>?_).symm,hv]
    . exact ha
    . have h3:=b3X d hx hy hu;by_cases hk2:K8 y.op≤2
      . exact b1T d tr hx hy hu hk2 hnh
      . unfold a2y at h3;simp only[a0P,E6,decide_eq_true_eq,beq_iff_eq]at h3;have hcov:a6c x y=true:=by
         rcases h3 with(((((((h3|h3)|h3)|h3)|h3)|h3)|h3)|h3)
         . rw[hop]at h3;cases h3
         . omega
         . omega
         . rw[hop]at h3;cases h3.1
         . rw[hop]at h3;cases h3.1
         . rcases h3 with h3|h3
           . exact h3
           . have:=(a6h (a3Q h3)).1;omega
         . rw[hop]at h3;cases h3.1
         . rw[hop]at h3;cases h3.1
        exact hk _ (c9E d tr hx hy hcov hop hv)
  . cases ha
theorem c2l(d:a0x P vs N ops xs)(tr:Trace (fns P) xs vars h T p ws){i:Nat}(hx:xs[i]?=some x)(hy:xs[j]?=some y)(hxl:a5s x.op=true)(hya:isApp y.op=true)(hu:S5 (H9 [] ops) i j=true)(hv:L5 (l8 (T i).heap x.hide k).2=true):wr ws k j=false:=by
 have hil:i<xs.length:=(B4.1 hx).1;have hjl:j<xs.length:=(B4.1 hy).1;have hio:i<ops.length:=by rw[←d.len];exact hil
 have hjo:j<ops.length:=by rw[←d.len];exact hjl
 have hnh:x.hide.contains k=false:=by
  unfold l8 at hv;cases hc:x.hide.contains k
  . rfl
  . rw[hc]at hv;cases hv
 have hv':L5 ((T i).heap.getD k (0,.dead)).2=true:=by unfold l8 at hv;rw[hnh]at hv;exact hv
 obtain⟨_,_,_,h4⟩:=d.un i j x y _ _ hx hy (l9 hio) (l9 hjo) hu;cases hw:wr ws k j
 . rfl
 . exfalso;obtain⟨z,hz1,hz2⟩:=E9.1 (a0S.1 hw);have hks:k∉G8 y.op:=fun hk=>by
    have:=h4 k hk;rw[a0S.2 this]at hnh;cases hnh
   rcases b4S (tr.st j y hy).1 (d.cv i j x y hx hy hxl) z hz1 with h1|⟨h1,h2⟩
   . rw[hz2]at h1;exact hks h1
   . rw[hz2]at h1 h2;have hnv:L5 z.2.2=false:=by
      rcases(tr.st j y hy).1 with⟨_,_,hw0⟩|⟨_,⟨f,args,ks,al,r,hyo,_⟩|⟨f,args,hyo,_⟩|⟨_,_,_,ha⟩⟩
      . rw[hw0]at hz1;cases hz1
      . rw[hyo]at hya;cases hya
      . rw[hyo]at hya;cases hya
      . cases hop:y.op<;>(try (rw[hop]at hya;cases hya;done))
        case lookupT k0 kt sz z0 m xx=>
         rw[hop]at ha;exact c7b ha z hz1
        case append k0 sz b m s xx=>
         rw[hop]at ha;simp only[s9]at ha;split at ha
         . rename_i news ws1 hsrc;split at ha
           . split at ha
             . rename_i v ws' hap;simp only[p9,s6]at ha;obtain⟨_,ha⟩:=ha;rw[←ha]at hz1;rcases G7.1 hz1 with hz1|hz1
               . exact b2q hsrc z hz1
               . exact b5G hap z hz1
             . cases ha
           . cases ha
         . cases ha
     rw[hnv]at h2;have hmid:∀a b,a<b→b<xs.length→L5 ((T b).heap.getD k (0,.dead)).2≠L5 ((T a).heap.getD k (0,.dead)).2→∃m,∃hm:m<xs.length,a≤m∧m<b∧k∈G8 (xs[m]).op:=fun a b hab hb hne=>by apply Classical.byContradiction;intro hno;refine hne ?_;have:=tr.kinds (fun m hm=>d.cv i m x _ hx (l9 hm) hxl) (k:=k) (a:=a) (n:=b-a) i9 fun m hm h1 h2 hk=>hno ⟨m,hm,h1,i9,hk⟩;rwa[show a+(b-a)=b by omega]at this
     have hnoV:G8 x.op=[]:=(by cases hop:x.op<;>(try (rw[hop]at hxl;cases hxl;done))<;>rfl);have hord:∀{q:Nat} {z:k8} (hq:xs[q]?=some z) (hc:z.hide.contains k=false) {m:Nat} (hm:m<xs.length),k∈G8 (xs[m]).op→S5 (H9 [] ops) q m=false:=fun{q z} hq hc {m} hm hk=>by
      cases hu2:S5 (H9 [] ops) q m
      . rfl
      . have hql:q<ops.length:=(by rw[←d.len];exact(B4.1 hq).1);obtain⟨_,_,_,h5⟩:=d.un q m z _ _ _ hq (l9 hm) (l9 hql) (l9 (by rw[←d.len];exact hm)) hu2
        grind
     have hne:i≠j:=fun e=>(by subst e;simp[S5]at hu);have hwt:∀{a b:Nat},a<b→S5 (H9 [] ops) a b=false→((H9 [] ops).getD b 0).testBit a=true:=fun{a b} hab h=>by unfold S5 at h;rw[if_neg i9,if_pos hab]at h;simpa using h
     rcases b1M hne with hlt|hgt
     . obtain⟨m,hm,m1,m2,hk⟩:=hmid i j hlt hjl (by grind);have hmi:i≠m:=fun e=>(by subst e;rw[l9 hm]at hx;cases hx;rw[hnoV]at hk;cases hk);have u1:=hwt (show i<m by omega) (hord hx hnh hm hk);have u2:=hord hy h1 hm hk;rw[show S5 (H9 [] ops) j m=S5 (H9 [] ops) m j from by
        cases hq:S5 (H9 [] ops) m j
        . omega
        . exact a9v hq]at u2
       have u3:=c0g u1 j hjo (hwt m2 u2);unfold S5 at hu;rw[if_neg i9,if_pos hlt,u3]at hu;cases hu
     . obtain⟨m,hm,m1,m2,hk⟩:=hmid j i hgt hil (by grind);have hmj:j≠m:=fun e=>(by subst e;rw[l9 hm]at hy;cases hy;exact hks hk);have u1:=hwt (show j<m by omega) (hord hy h1 hm hk);have u2:=hord hx hnh hm hk;rw[show S5 (H9 [] ops) i m=S5 (H9 [] ops) m i from by
        cases hq:S5 (H9 [] ops) m i
        . omega
        . exact a9v hq]at u2
       have u3:=c0g u1 i hio (hwt m2 u2);unfold S5 at hu;rw[if_pos hgt,u3]at hu;cases hu
theorem c2J(d:a0x P vs N ops xs)(tr:Trace (fns P) xs vars h T p ws)(r:a1a P B Z0 W0 vs N ops vars h T p ws S G hS a w){i:Nat}(n:Next ops S i)(hx:xs[i]?=some x)(hl:a5s x.op=true){us:List (Nat×Row)}(ha:s9 (y9 (T i).loc (T i).vars) (l8 (T i).heap x.hide) x.op=some (q,us)):
 s9 (y9 (T i).loc (T i).vars) (l8 hS x.hide) x.op=some (q,us):=by
 cases hop:x.op<;>(try (rw[hop]at hl;cases hl;done))
 case loadV agg sz a=>
  rw[hop]at ha;simp only[s9]at ha⊢;cases hev:y9 (T i).loc (T i).vars a<;>(try (rw[hev]at ha;cases ha;done))
  case ptr k g o=>
   rw[hev]at ha;have hv:L5 (l8 (T i).heap x.hide k).2=true:=by
    simp only[a0j]at ha;cases hk:l8 (T i).heap x.hide k with
    |mk g' ob=>cases ob<;>rw[hk]at ha<;>first|rfl|(cases ha;done)
   have hrow:l8 hS x.hide k=l8 (T i).heap x.hide k:=by
    unfold l8;split
    . rfl
    . rename_i hnh;have hlast:J3 (fun j=>S j&&wr ws k j) ops.length=J3 (wr ws k) i:=by
       refine b2G n.lt n.out fun j hj hc=>?_;obtain⟨y,hy⟩:∃y,xs[j]?=some y:=⟨_,l9 (by rw[d.len];exact hj)⟩
       obtain⟨_,_,h3,h4⟩:=d.un i j x y _ _ hx hy (l9 n.lt) (l9 hj) (n.a7B hj hc);by_cases hk2:K8 y.op≤2
       . cases hw:wr ws k j
         . rfl
         . exfalso;obtain⟨z,hz1,hz2⟩:=E9.1 (a0S.1 hw);have:=h4 _ (a3V (tr.st j y hy).1 hk2 z hz1);rw[hz2]at this;exact hnh (a0S.2 this)
       . refine c2l d tr hx hy hl ?_ (n.a7B hj hc) hv;unfold a2y at h3;simp only[a0P,E6,decide_eq_true_eq,beq_iff_eq]at h3;rcases h3 with(((((((h3|h3)|h3)|h3)|h3)|h3)|h3)|h3)
         . rw[hop]at h3;cases h3
         . omega
         . omega
         . have:=a8l h3.2;omega
         . exact h3.2
         . rcases h3 with h3|h3
           . have:=a3Q h3;rw[hop]at this;cases this
           . have:=(a6h (a3Q h3)).1;omega
         . rw[hop]at h3;cases h3.1
         . rw[hop]at h3;cases h3.1
      rw[u9,u9,r.hp k,tr.heap k (i:=i) (by grind),hlast]
      all_goals rfl
   simp only[a0j]at ha⊢;rw[hrow];exact ha
theorem c1K(hn:vs.Nodup)(d:a0x P vs N ops xs)(tr:Trace (fns P) xs vars h T p ws)(hsi:a2a h.length xs=true)(r:a1a P B Z0 W0 vs N ops vars h T p ws S G hS a w){i:Nat}(n:Next ops S i)(ho:ops[i]?=some o){v:Value}
 (hr':p7 B Z0 G' (m6 hS (ws i)) w') (x:Ext G hS w G' (m6 hS (ws i)) w') (hv:j8 G' (m6 hS (ws i)) w' D v (p i)) (hb:Bl B w w'):
 a1a P B Z0 W0 vs N ops vars h T p ws (fun j=>S j||j==i) G' (m6 hS (ws i)) (a.put o.dst v) w':=by
 obtain⟨xo,hxo,hok⟩:=d.ok i o ho;have hd:∀t,o.dst=some t→t<a.tmps.size:=fun t ht=>by rw[r.sz];exact hok.dst t ht
 have hconf:∀j,j<ops.length→i<j→S j=true→∃b y,ops[j]?=some b∧xs[j]?=some y∧o.apart ops.toArray b=true∧b.apart ops.toArray o=true∧a2y xo y=true∧(∀k∈G8 y.op,k∈xo.hide)∧∀k∈G8 xo.op,k∈y.hide:=fun j hj hij hs=>by
  obtain⟨b,hb⟩:∃b,ops[j]?=some b:=⟨_,l9 hj⟩
  obtain⟨y,hy,_⟩:=d.ok j b hb;obtain⟨h1,h2,h3,h4⟩:=d.un i j xo y o b hxo hy ho hb (n.a7B hj (.inr ⟨hij,hs⟩));obtain⟨_,_,_,h5⟩:=d.un j i y xo b o hy hxo hb ho (a9v (n.a7B hj (.inr ⟨hij,hs⟩)));exact⟨b,y,hb,hy,h1,h2,h3,h4,h5⟩
 have hsite:∀{i:Nat} {x:k8},xs[i]?=some x→∀k∈G8 x.op,x.hide.contains k=false:=fun hx k hk=>by have:=A8.1 (A8.1 hsi _ (C8 hx)) _ hk;simp only[E6,a6C]at this;exact this.2
 have hslot:∀t,o.dst=some t→J3 (fun j=>(S j||j==i)&&dq ops t j) ops.length=some i:=fun t ht=>
  b6n n.lt ((a5I ho).2 ht) fun j hj hij hs=>by
   obtain⟨b,y,hb,_,h1,_⟩:=hconf j hj hij hs;cases hq:dq ops t j
   . rfl
   . exact absurd ((a5I hb).1 hq) ((Oper.apart_spec h1).2.1 t ht)
 have hslot':∀t,o.dst≠some t→J3 (fun j=>(S j||j==i)&&dq ops t j) ops.length=J3 (fun j=>S j&&dq ops t j) ops.length:=fun t ht=>
  b8k (by cases hq:dq ops t i;rfl;exact absurd ((a5I ho).1 hq) ht)
 refine⟨hr',by rw[a6m];exact r.len,fun k=>?_,fun t j hj=>?_,fun t hj k hk=>?_,by rw[a8i];exact r.sz,by rw[b3n];exact r.df.step hb,W0.step r.be x hb⟩
 . by_cases hw:wr ws k i=true
   . have hlast:J3 (fun j=>(S j||j==i)&&wr ws k j) ops.length=some i:=b6n n.lt hw fun j hj hij hs=>by
      obtain⟨b,y,hb,hy,h1,h2,h3,h4,h5⟩:=hconf j hj hij hs;cases hq:wr ws k j
      . rfl
      . exfalso;obtain⟨z,hz1,hz2⟩:=E9.1 (a0S.1 hw);obtain⟨z',hz1',hz2'⟩:=E9.1 (a0S.1 hq);have hlow:K8 xo.op≤2→K8 y.op≤2→False:=fun hx2 hy2=>by
         have g5:=a3V (tr.st i xo hxo).1 hx2 z hz1;have g6:=h4 _ (a3V (tr.st j y hy).1 hy2 z' hz1');have g7:=hsite hxo _ g5;rw[hz2,←hz2',a0S.2 g6]at g7;cases g7
        have hload:∀{u:k8} {m:Nat},xs[m]?=some u→a7v u.op=true→∀z∈ws m,False:=fun hu hl z hz=>by obtain⟨l1,l2⟩:=a6h hl;have:=a3V (tr.st _ _ hu).1 i9 z hz;rw[l2]at this;cases this
        have hzero:∀{u:k8} {m:Nat},xs[m]?=some u→K8 u.op=0→∀z∈ws m,False:=fun hu hl z hz=>by have:=a3V (tr.st _ _ hu).1 i9 z hz;rw[c8H hl]at this;cases this
        unfold a2y at h3;simp only[a0P,E6,decide_eq_true_eq,beq_iff_eq]at h3;rcases h3 with(((((((h3|h3)|h3)|⟨h3,h3'⟩)|⟨h3,h3'⟩)|h3)|⟨h3,h3'⟩)|⟨h3,h3'⟩)
        . exact hzero hxo h3 z hz1
        . exact hzero hy h3 z' hz1'
        . exact hlow h3.1 h3.2
        . have:=b3p (tr.st i xo hxo).1 h3 (hsite hxo) z hz1;have h6:=h4 _ (a3V (tr.st j y hy).1 (by rw[a8l h3'];exact m0 _) z' hz1');rw[hz2,←hz2',a0S.2 h6]at this;cases this
        . have:=b3p (tr.st j y hy).1 h3' (hsite hy) z' hz1';have h6:=h5 _ (a3V (tr.st i xo hxo).1 (by rw[a8l h3];exact m0 _) z hz1);rw[hz2',←hz2,a0S.2 h6]at this;cases this
        . rcases h3 with h3|h3
          . exact hload hxo (a3Q h3) z hz1
          . exact hload hy (a3Q h3) z' hz1'
        . have:=b4f (tr.st i xo hxo).1 h3 z hz1;have h6:=h4 _ (a3V (tr.st j y hy).1 i9 z' hz1');rw[hz2,←hz2',a0S.2 h6]at this;cases this
        . have:=b4f (tr.st j y hy).1 h3' z' hz1';have h6:=h5 _ (a3V (tr.st i xo hxo).1 i9 z hz1);rw[hz2',←hz2,a0S.2 h6]at this;cases this
     rw[hlast];simp only;rw[(tr.st i xo hxo).2];exact b5C (a0S.1 hw) (by rw[r.len,tr.len (by grind)])
   . rw[b8k (by simpa using hw),←r.hp k];exact a5j _ _ _ fun hm=>hw (a0S.2 hm)
 . by_cases ht:o.dst=some t
   . rw[hslot t ht]at hj;cases hj;rw[ht];exact⟨v,b2x (hd t ht),hv⟩
   . rw[hslot' t ht]at hj;obtain⟨u,h1,h2⟩:=r.slw t j hj;exact⟨u,by rw[b0S ht];exact h1,h2.ext x⟩
 . by_cases ht:o.dst=some t
   . rw[hslot t ht]at hj;cases hj
   . rw[hslot' t ht]at hj;obtain⟨u,h1,h2⟩:=r.sl0 t hj k hk;exact⟨u,by rw[b0S ht];exact h1,h2.ext x⟩
end
end
def M9(B:Nat)(Z0:Nat→Prop)(W0:M3 B)(vs:List Nat)(N:Nat)(vars:List PV)(h:l5)(a:Act)(w:World):Prop:=
 ∃G,p7 B Z0 G h w∧V9 G h w vs vars a∧a.tmps.size=N∧a0k W0.m a.defers w∧W0.psi (V7 vs vars) G h w
section
variable{P:Program}{B:Nat}{Z0:Nat→Prop}{W0:M3 B}{ρ:Option Nat}{nn:Nat}{vs:List Nat}{N:Nat}{ops:List Oper}{xs:List k8}{vars:List PV}{h:l5}{T:Nat→B0}{p:Nat→PV}{ws:Nat→List (Nat×Row)}{S:Nat→Bool}{G G':Gh}{hS:l5}{a:Act}{w w':World}
theorem c4f{i:Nat}{loc vars:List PV}{o:Oper}(hrd:∀j b t d,o.guard=some (j,b)→(ops[j]?).bind (·.dst)=some t→a0h vs ops i (.tmp t)=some d→∃v,a.tmps[t]?=some v∧j8 G h w D v (y9 loc vars d)){g:Option (s8×Bool)}
 (hg:(match o.guard with
  |none=>some none
  |some (j,b)=>match(ops[j]?).bind (·.dst)with
   |some t=>(a0h vs ops i (.tmp t)).map fun d=>some (d,b)
   |none=>none)=some g) {c:Bool} (hc:gdO loc vars g=some c):Region.wanted o (yielded ops.toArray a.tmps)=c:=by
 unfold Region.wanted;cases hgo:o.guard with
 |none=>
  rw[hgo]at hg;simp at hg;subst hg;simpa[gdO]using hc
 |some jb=>
  obtain⟨j,b⟩:=jb;rw[hgo]at hg;simp only at hg;split at hg
  . rename_i t ht;obtain⟨d,h1,rfl⟩:=C5.1 hg;obtain⟨v,hv,hr⟩:=hrd j b t d hgo ht h1;simp only[gdO]at hc;have hy:yielded ops.toArray a.tmps j=(match a.tmps[t]? with|some (.bool b)=>some b|_=>none):=by
     unfold yielded;rw[show ops.toArray[j]?=ops[j]? by simp,ht];rfl
    show(yielded ops.toArray a.tmps j==some b)=c;rw[hy,hv];split at hc
    . rename_i c0 he;cases hc;rw[he]at hr;rw[a1c hr];cases c0<;>cases b<;>rfl
    . rename_i he;cases hc;rw[he]at hr;obtain⟨us,hb,hs⟩:=a8n hr;rw[hb];cases b<;>rfl
    . cases hc
  . cases hg
theorem c3w(hn:vs.Nodup)(d:a0x P vs N ops xs)(tr:Trace (fns P) xs vars h T p ws)(hsi:a2a h.length xs=true)(r:a1a P B Z0 W0 vs N ops vars h T p ws S G hS a w){i:Nat}(n:Next ops S i){Q:Exit→Act→World→Prop}{K:Act→World→Prop}
 (hK:∀G' hS' a' w',a1a P B Z0 W0 vs N ops vars h T p ws (fun j=>S j||j==i) G' hS' a' w'→K a' w'):wpOpIn (fz ρ) nn P ops.toArray Q i K a w:=by
 obtain⟨o,ho⟩:∃o,ops[i]?=some o:=⟨_,l9 n.lt⟩
 obtain⟨x,hx,hok⟩:=d.ok i o ho;have hsi2:∀j,j∈G8 x.op→j<hS.length∧x.hide.contains j=false:=fun j hj=>by have:=A8.1 (A8.1 hsi x (C8 hx)) j hj;rw[r.len];simpa[a1I]using this
 have hlen:(T i).heap.length=hS.length:=by rw[r.len];exact tr.len (by grind)
 have hrd:=c8e d tr r n ho;have hcont:∀{v w' G'},p7 B Z0 G' (m6 hS (ws i)) w'→Ext G hS w G' (m6 hS (ws i)) w'→j8 G' (m6 hS (ws i)) w' D v (p i)→Bl B w w'→K (a.put o.dst v) w':=fun{v w' G'} r1 r2 r3 r4=>
  hK _ _ _ _ (c1K hn d tr hsi r n ho r1 r2 r3 r4)
 have hgd:∀c,gdO (T i).loc (T i).vars x.guard=some c→Region.wanted o (yielded ops.toArray a.tmps)=c:=fun c hc=>
  c4f (fun j b t dd hg ht hd=>c0C d tr r n ho (a7K _ (by grind)) hd) hok.gd hc
 unfold wpOpIn;rw[show ops.toArray[i]?=some o by simpa using ho];simp only;obtain⟨k,app,al,x0,hop,hls⟩:=hok.op;have hsame:(∀sz a v av,x.op≠ .storeN sz a v av)→x0=x.op:=fun hne=>by
  rcases hls with e|⟨sz,a,v,av,_,e⟩
  . exact e.symm
  . exact absurd e (hne _ _ _ _)
 rcases(tr.st i x hx).1 with⟨hg,hp,hw⟩|⟨hg,hcase⟩
 . rw[hgd _ hg,if_neg k7];refine⟨fun _ _=>trivial,hcont (G':=G) ?_ ?_ ?_ (Bl.refl _ _)⟩
   . rw[hw];exact r.hr
   . rw[hw];exact Ext.refl
   . rw[hp];exact b6f
 . rw[hgd _ hg,if_pos rfl];refine⟨fun _ _=>trivial,?_⟩;rw[show o.semAt (fz ρ).round a.eval=execOp a.eval o from Oper.semAt_eq _ _ _ (c0P hop)];rcases hcase with⟨f,b,ks,al',q,hxo,hal,hF,hcok,hp,hw⟩|⟨fd,b,hxo,hF⟩|⟨hnc,hnv,_,ha⟩
   . have hx0:=hsame (by grind);subst hx0;have hk0:K8 x.op≠0:=(by rw[hxo];simp[K8]);have hsd:∀k∈G8 x.op,l8 hS x.hide k=l8 (T i).heap x.hide k:=fun k hk=>b3H d tr hsi r n hx (.inr (by rw[hxo];rfl)) hk;have hall:(b.map fun a=>fzV (l8 (T i).heap x.hide) (y9 (T i).loc (T i).vars a))=(b.map fun a=>fzV (l8 hS x.hide) (y9 (T i).loc (T i).vars a))∧
      (b.map (y9 (T i).loc (T i).vars)).any (a2g (l8 (T i).heap x.hide))=(b.map (y9 (T i).loc (T i).vars)).any (a2g (l8 hS x.hide)):=by
      cases hcc:a7N x.op
      . rw[b6m d tr r n hx hk0 (by unfold quiet;rw[hcc,hxo];rfl) (by rw[hxo];simp[K8]) (by rw[hxo];rfl) (by rw[hxo];rfl)];exact⟨rfl,rfl⟩
      . rw[hxo]at hcc;have hcp:∀a∈b,a3f (y9 (T i).loc (T i).vars a)=true:=fun a ha=>by
         simp only[a7N,a0P,A8]at hcc;rcases hcc with hcc|hcc
         . grind
         . have:=hcc a ha;cases a<;>first|exact this|(simp at this;done)
        refine⟨L9 fun a ha=>c7l (hcp a ha),?_⟩;have hno:∀lk,(b.map (y9 (T i).loc (T i).vars)).any (a2g lk)=false:=fun lk=>by rw[List.any_eq_false];intro c hc;obtain⟨a,ha,rfl⟩:=E9.1 hc;rw[c2M (hcp a ha)];simp
        rw[hno,hno]
     have hgen:∀j es,(B5 q)[j]?=some (.uslc es)→Y1 (l8 (T i).heap x.hide) (N6 ks j).1=Y1 (l8 hS x.hide) (N6 ks j).1:=fun j es hj=>by have:=hsd (N6 ks j).1 (by rw[hxo];exact c2P hcok hj);unfold Y1;rw[this]
     rw[hxo]at hop hsi2;obtain⟨args,ats,ho2,hds⟩:=b8u hop;obtain⟨dst,op,type,pos,after,guard⟩:=o;simp only at ho2;subst ho2;rw[hall.1]at hF;rw[hall.2,hlen]at hcok;rw[c2n hgen]at hp;have hwc:J4 (N6 ks) (Y1 (l8 (T i).heap x.hide)) 0 (B5 q)=J4 (N6 ks) (Y1 (l8 hS x.hide)) 0 (B5 q):=b8n fun j es hj=>by have:=hgen j es hj;rwa[show(0:Nat)+j=j by omega]
     rw[hwc]at hw;have hrun:=b6z (P:=P) (w:=w) (ρ:=a.eval) (dst:=dst) (args:=args) (ats:=ats) (type:=type) (pos:=pos) (after:=after) (guard:=guard) hF.1 rfl;rw[hrun];refine⟨fun e=>(by cases e),a4i.2 ?_⟩;refine c0x r.hr hrd hds hF hcok (fun j hj=>(hsi2 j hj).2) fun v w' G' r1 r2 r3 r4=>?_;rw[←hw]at r1 r2 r3;rw[←hp]at r3;exact hcont r1 r2 r3 r4
   . have hx0:=hsame (by grind);subst hx0;have hagr:agr x.hide (T i).heap hS:=⟨hlen.symm,fun k hnh=>b5i d tr r n hx (fun j y hj hy hu=>by
      have h3:=b3X d hx hy hu;unfold a2y at h3;simp only[a0P,E6,decide_eq_true_eq,beq_iff_eq]at h3;rcases h3 with(((((((h3|h3)|h3)|h3)|h3)|h3)|h3)|h3)
      . rw[hxo]at h3;cases h3
      . omega
      . rw[hxo]at h3;simp[K8]at h3
      . rw[hxo]at h3;cases h3.1
      . rw[hxo]at h3;simp[quiet,a7N,a5s,isLit]at h3
      . rcases h3 with h3|h3
        . have:=a3Q h3;rw[hxo]at this;cases this
        . rw[(a6h (a3Q h3)).1];exact m0 _
      . omega
      . rw[hxo]at h3;simp[K8]at h3) hnh⟩
     rw[hxo]at hop;obtain⟨fo,args,ats,ho2,hfo,hds⟩:=b8X hop;obtain⟨dst,op,type,pos,after,guard⟩:=o;simp only at ho2;subst ho2;have hF':FI P (y9 (T i).loc (T i).vars fd) (b.map (y9 (T i).loc (T i).vars)) hS (p i) (ws i):=(c0h hF).1 hS hagr;obtain⟨f,vf,vc,hcf,hρ,hcalls⟩:=b4T r.hr hrd hfo hds hF';have hrun:=b1X (P:=P) (w:=w) (ρ:=a.eval) (dst:=dst) (args:=args) (ats:=ats) (type:=type) (pos:=pos) (after:=after) (guard:=guard) hcf hρ;rw[hrun];exact⟨fun e=>(by cases e),a4i.2 (hcalls _ fun v w' G' r1 r2 r3 r4=>hcont r1 r2 r3 r4)⟩
   . have ha':s9 (y9 (T i).loc (T i).vars) (l8 hS x.hide) x.op=some (p i,ws i):=by
      by_cases hk0:K8 x.op=0
      . rw[←ha];exact c8U hk0
      . cases hlv:a5s x.op
        . cases hli:isLit x.op
          . cases hld:a7v x.op
            . by_cases hk1:K8 x.op=1
              . have hsd:∀k∈G8 x.op,l8 hS x.hide k=l8 (T i).heap x.hide k:=fun k hk=>b3H d tr hsi r n hx (.inl hk1) hk;cases hop:x.op<;>(try (rw[hop]at hk1;simp[K8]at hk1;done))<;>rw[hop]at ha hsd<;>(try (simp only[s9]at ha⊢;rw[hsd _ (by simp[G8])];exact ha));rename_i kk sz bb m s x;simp only[K8]at hk1;rw[hop]at hk1;simp only[K8]at hk1;split at hk1<;>cases hk1
              . rw[b6m d tr r n hx hk0 (by
                 cases hop:x.op<;>first|rfl|exact absurd hop (hnc _ _ _ _)|(rw[hop]at hli;cases hli;done)|(rw[hop]at hlv;cases hlv;done)) hk1 hld (by
                 cases hop:x.op<;>first|rfl|exact absurd hop (hnv _ _))];exact ha
            . exact c7g d tr r n hx hld ha
          . cases hop:x.op<;>(try (rw[hop]at hli;cases hli;done))
            case lit=>rw[hop]at ha;simp only[s9]at ha⊢;exact ha
            case mkarr kk sz zs parts=>
             have hsd:l8 hS x.hide kk=l8 (T i).heap x.hide kk:=b3H d tr hsi r n hx (.inr (by rw[hop];rfl)) (by rw[hop];simp[G8]);rw[hop]at ha;simp only[s9]at ha⊢;rw[hsd];exact ha
        . exact c2J d tr r n hx hlv ha
     have ha0:s9 (y9 (T i).loc (T i).vars) (l8 hS x.hide) x0=some (p i,ws i):=by
      rcases hls with e|⟨sz,a,v,av,e1,e2⟩
      . rw[←e];exact ha'
      . rw[e2]at ha';rw[e1];simp only[s9]at ha'⊢;split at ha'
        . split at ha'
          . exact ha'
          . cases ha'
        . cases ha'
     have hsi3:∀j,j∈G8 x0→j<hS.length∧x.hide.contains j=false:=fun j hj=>hsi2 j (by
      rcases hls with e|⟨sz,a,v,av,e1,e2⟩
      . rw[e];exact hj
      . rw[e1]at hj;simp[G8]at hj)
     obtain⟨nx,v,w',G',g1,g2,g3,g4,g5,g6⟩:=b9u r.hr hrd hop hsi3 ha0;rw[g1];rcases g2 with rfl|⟨rfl,rfl⟩
     . exact hcont g3 g4 g5 g6
     . exact hcont g3 g4 g5 g6
def a3r(S:Nat→Bool):Nat→Nat
 |0=>0
 |n+1=>a3r S n+if S n then 0 else 1
theorem b7c{S S':Nat→Bool}(hs:∀j,S j=true→S' j=true):∀n,a3r S' n≤a3r S n
 |0=>m0 _
 |n+1=>by
  have:=b7c hs n;simp only[a3r]
  grind
theorem b5M{S:Nat→Bool}{i:Nat}(hi:S i=false):∀{n:Nat},i<n→a3r (fun j=>S j||j==i) n<a3r S n
 |0,h=>by omega
 |n+1,h=>by
  simp only[a3r];by_cases hin:i=n
  . subst hin;have:=b7c (S:=S) (S':=fun j=>S j||j==i) (fun j hj=>by simp[hj]) i;simp[hi];omega
  . have:=b5M hi (n:=n) i9
    grind
theorem b5u{S:Nat→Bool}:∀{n:Nat},a3r S n=0→∀j,j<n→S j=true
 |0,_,j,h=>by omega
 |n+1,h,j,hj=>by
  simp only[a3r]at h;cases hs:S n
  . rw[hs]at h;simp at h
  . by_cases hjn:j=n
    . subst hjn;exact hs
    . exact b5u (n:=n) i9 j i9
theorem b2j(S:Nat→Bool):∀n,a3r S n≤n
 |0=>m0 _
 |n+1=>by have:=b2j S n;simp only[a3r];split<;>omega
theorem c0W(hn:vs.Nodup)(d:a0x P vs N ops xs)(tr:Trace (fns P) xs vars h T p ws)(r:a1a P B Z0 W0 vs N ops vars h T p ws S G hS a w)(hall:∀j,j<ops.length→S j=true):p7 B Z0 G (T xs.length).heap w∧V9 G (T xs.length).heap w vs (T xs.length).vars a∧a.tmps.size=N∧a0k W0.m a.defers w∧W0.psi (V7 vs (T xs.length).vars) G (T xs.length).heap w:=by
 have hcg:∀q:Nat→Bool,J3 (fun j=>S j&&q j) ops.length=J3 q xs.length:=fun q=>by rw[d.len];exact a8Q fun j hj=>by rw[hall j hj];rfl
 have hheap:hS=(T xs.length).heap:=a4F fun k=>by
  rw[r.hp k,tr.heap k (m0 _),hcg]
  all_goals rfl
 have hgho:∀i,i≤xs.length→V7 vs (T i).vars=V7 vs vars:=fun i=>by
  induction i with
  |zero=>intro _;rw[tr.t0]
  |succ i ih=>
   intro hi;have hi':i<xs.length:=i9;obtain⟨x,hx,hok⟩:=d.ok i _ (l9 (d.len▸hi'));rw[l9 hi']at hx;cases hx;rw[tr.next hi',←ih i9];simp only;rw[hok.var];exact b4e
 refine⟨hheap▸r.hr,fun k t hk=>?_,r.sz,r.df,by rw[hgho _ (m0 _)];exact hheap▸r.be⟩;have hidx:vs.idxOf? t=some k:=by
  cases hi:vs.idxOf? t with
  |none=>exact absurd hk (c1c hi)
  |some k0=>rw[b2Y hn (a0H hi) hk]
 have hvar:∀j (hjl:j<xs.length),∃b,ops[j]?=some b∧(xs[j]).var=b.dst.bind (vs.idxOf? ·):=fun j hjl=>by obtain⟨x,hx,hok⟩:=d.ok j _ (l9 (d.len▸hjl));rw[l9 hjl]at hx;cases hx;exact⟨_,l9 (d.len▸hjl),hok.var⟩
 have hq1:∀j (hjl:j<xs.length),(xs[j]).var=some k→dq ops t j=true:=fun j hjl hv=>by obtain⟨b,hb,hb2⟩:=hvar j hjl;rw[hb2]at hv;obtain⟨t',h5,h6⟩:=V1.1 hv;have:t'=t:=W6 ((a0H h6).symm.trans hk);subst this;exact(a5I hb).2 h5
 have hq2:∀j (hjl:j<xs.length),dq ops t j=true→(xs[j]).var=some k:=fun j hjl hq=>by obtain⟨b,hb,hb2⟩:=hvar j hjl;rw[hb2,(a5I hb).1 hq];exact hidx
 rw[←hheap];have hvr:=tr.vr hq1 hq2 (m0 _);cases hl:J3 (fun j=>S j&&dq ops t j) ops.length with
 |some j=>
  obtain⟨v,h1,h2⟩:=r.slw t j hl;refine⟨v,h1,?_⟩;rw[hcg]at hl;rcases hvr with h4|h4
  . rw[h4];exact L3
  . rw[h4,hl];exact h2
 |none=>
  obtain⟨v,h1,h2⟩:=r.sl0 t hl k hk;refine⟨v,h1,?_⟩;rw[hcg]at hl;rcases hvr with h4|h4
  . rw[h4];exact L3
  . rw[h4,hl];exact h2
theorem c5G(hn:vs.Nodup)(d:a0x P vs N ops xs)(tr:Trace (fns P) xs vars h T p ws)(r:a1a P B Z0 W0 vs N ops vars h T p ws S G hS a w)(hall:∀j,j<ops.length→S j=true):M9 B Z0 W0 vs N (T xs.length).vars (T xs.length).heap a w:=⟨G,c0W hn d tr r hall⟩
theorem b8I(hn:vs.Nodup)(d:a0x P vs N ops xs)(tr:Trace (fns P) xs vars h T p ws)(hsi:a2a h.length xs=true){Q:Exit→Act→World→Prop}(hQ:∀S G hS a w,a1a P B Z0 W0 vs N ops vars h T p ws S G hS a w→(∀j,j<ops.length→S j=true)→Q .normal a w):
 ∀(fuel:Nat) (listed:Array Bool) (a:Act) (w:World) (G:Gh) (hS:l5),listed.size=ops.length→a3r (fun j=>listed.getD j false) ops.length≤fuel→
  (∀j k,listed.getD j false=true→j<ops.length→((H9 [] ops).getD j 0).testBit k=true→listed.getD k false=true)→
  a1a P B Z0 W0 vs N ops vars h T p ws (fun j=>listed.getD j false) G hS a w→wpAnyIn (fz ρ) nn P .any ops.toArray Q fuel listed a w:=by
 have hready:∀(listed:Array Bool) (i:Nat),listed.size=ops.length→(i∈Region.ready .any ops.toArray listed↔i<ops.length∧listed.getD i false=false∧∃o,ops[i]?=some o∧∀e∈o.after.toList,Region.binds .any e=true→listed.getD e.on false=true):=by
  intro listed i hl;unfold Region.ready;rw[a7J,a1v];simp only[a9y,a7G,E6,a6C];constructor
  . rintro⟨h1,h2,h3⟩;refine⟨h1,?_,ops[i],l9 h1,fun e he hb=>?_⟩
    . grind
    . rw[l9 h1]at h3;simp only[a2U,a4I]at h3;have:=Array.all_eq_true'.1 h3 e (by simpa using he);rw[hb]at this;simpa using this
  . grind
 have hdone:∀(listed:Array Bool),listed.size=ops.length→Region.ready .any ops.toArray listed=[]→∀j,j<ops.length→listed.getD j false=true:=by
  intro listed hl hr j
  induction j using Nat.strongRecOn with
  |_ j ih=>
   intro hj;cases hs:listed.getD j false
   . exfalso;have:j∈Region.ready .any ops.toArray listed:=(hready listed j hl).2 ⟨hj,hs,ops[j],l9 hj,fun e he hb=>by
      have:=b0Y d.ed j _ (l9 hj) e he hb;exact ih e.on i9 i9⟩
     rw[hr]at this;simp at this
   . rfl
 intro fuel
 induction fuel with
 |zero=>
  intro listed a w G hS hl hf hcl r;have hall:=b5u (Nat.le_zero.1 hf);unfold wpAnyIn;refine⟨?_,hQ _ _ _ _ _ r hall⟩;refine c1d.2 fun i hi=>?_;obtain⟨h1,h2,_⟩:=(hready listed i hl).1 hi;rw[hall i h1]at h2;cases h2
 |succ fuel ih=>
  intro listed a w G hS hl hf hcl r;unfold wpAnyIn;refine⟨fun hr=>hQ _ _ _ _ _ r (hdone listed hl hr),fun i hi=>?_⟩;obtain⟨h1,h2,o,h3,h4⟩:=(hready listed i hl).1 hi;have hmine:∀k,((H9 [] ops).getD i 0).testBit k=true→listed.getD k false=true:=fun k hk=>by
   obtain⟨e,e1,e2,e3,e4⟩:=a8R h3 hk;rcases e4 with rfl|e4
   . exact h4 e e1 e2
   . grind
  have hput:(fun j=>(listed.setIfInBounds i true).getD j false)=fun j=>(listed.getD j false||j==i):=by
   funext j;simp only[a3Y];by_cases hji:j=i
   . grind
   . grind
  refine c3w hn d tr hsi r ⟨h1,h2,hcl,hmine⟩ fun G' hS' a' w' r'=>?_;refine ih _ a' w' G' hS' (by simpa using hl) ?_ ?_ (by grind)
  . rw[hput];have:=b5M (S:=fun j=>listed.getD j false) h2 h1;omega
  . intro j k hj hjl hb;have e1:=congrFun hput j;have e2:=congrFun hput k;rw[e1]at hj;rw[e2];rw[a0P]at hj⊢;rcases hj with hj|hj
    . exact .inl (hcl j k hj hjl hb)
    . grind
theorem c7D{ops:List Oper}{h:l5}{G:Gh}{a:Act}{w:World}(i1:p7 B Z0 G h w)(i2:V9 G h w vs vars a)(i3:a.tmps.size=N)(i4:a0k W0.m a.defers w)(i5:W0.psi (V7 vs vars) G h w):
 a1a P B Z0 W0 vs N ops vars h T p ws (fun j=>(Array.replicate ops.length false).getD j false) G h a {w with drawn:=w.drawn+1}:=by
 have hS0:∀q:Nat→Bool,J3 (fun j=>(Array.replicate ops.length false).getD j false&&q j) ops.length=none:=fun q=>by
  have hf:∀n,J3 (fun j=>(Array.replicate ops.length false).getD j false&&q j) n=none:=fun n=>by
   induction n with
   |zero=>rfl
   |succ n ih=>
    simp only[J3];rw[ih,if_neg];simp only[a3Y,a7L];split<;>simp
  exact hf _
 have hdrew:Bl B w {w with drawn:=w.drawn+1}:=Bl.drew (Bl.refl _ _);have hext:Ext G h w G h {w with drawn:=w.drawn+1}:=⟨fun _ x=>x,fun _ _=>rfl,Ext.refl.kp (w:=w)⟩
 refine⟨?_,rfl,fun k=>?_,fun t j hj=>?_,fun t _ k hk=>?_,i3,i4,W0.step i5 hext hdrew⟩
 . exact⟨i1.base,i1.zo,i1.zb,i1.lv,i1.nz,i1.fz,i1.inj,fun k g o ho=>(i1.ob k g o ho).ext hext (fun y=>B8.refl _ _) fun y _=>rfl⟩
 . rw[hS0]
 . rw[hS0]at hj;cases hj
 . obtain⟨v,h1,h2⟩:=i2 k t hk;exact⟨v,h1,h2.ext hext⟩
theorem c5V(hm:P.follows .mixedOrders=true)(hn:vs.Nodup){id k k':Nat}{ops:List Oper}{xs:List k8}(hc:a4S P vs N k ops true=some (xs,k'))(hsi:a2a h.length xs=true){Q':B0→Prop}(hx:F8 (fns P) xs ⟨[],vars,h⟩ Q')
 {Q:Exit→Act→World→Prop} (hQ:∀st a w,M9 B Z0 W0 vs N st.vars st.heap a w→Q' st→Q .normal a w) (hi:M9 B Z0 W0 vs N vars h a w):(Code.region id ops.toArray true).wpIn (fz ρ) nn P Q a w:=by
 have d:=b4z hc;obtain⟨T,p,ws,t0,tq,tst⟩:=b4x d.cy hx;have tr:Trace (fns P) xs vars h T p ws:=⟨t0,tst⟩
 obtain⟨G,i1,i2,i3,i4,i5⟩:=hi;refine wpIn_region_any hm ?_;have hS0:∀q:Nat→Bool,J3 (fun j=>(Array.replicate ops.length false).getD j false&&q j) ops.length=none:=fun q=>by
  have hf:∀n,J3 (fun j=>(Array.replicate ops.length false).getD j false&&q j) n=none:=fun n=>by
   induction n with
   |zero=>rfl
   |succ n ih=>
    simp only[J3];rw[ih,if_neg];simp only[a3Y,a7L];split<;>simp
  exact hf _
 have hdrew:Bl B w {w with drawn:=w.drawn+1}:=Bl.drew (Bl.refl _ _);refine b8I (B:=B) (Z0:=Z0) (W0:=W0) (p:=p) (ws:=ws) hn d tr hsi (fun S G hS a w r hall=>hQ _ a w (c5G hn d tr r hall) tq) _ _ _ _ G h k7 (by simpa using b2j _ _) ?_ ?_
 . intro j k hj;exfalso;revert hj;simp only[a3Y,a7L];split<;>simp
 . have hext:Ext G h w G h {w with drawn:=w.drawn+1}:=⟨fun _ x=>x,fun _ _=>rfl,Ext.refl.kp (w:=w)⟩
   refine⟨?_,rfl,fun k=>?_,fun t j hj=>?_,fun t _ k hk=>?_,i3,i4,W0.step i5 hext hdrew⟩
   . exact⟨i1.base,i1.zo,i1.zb,i1.lv,i1.nz,i1.fz,i1.inj,fun k g o ho=>(i1.ob k g o ho).ext hext (fun y=>B8.refl _ _) fun y _=>rfl⟩
   . rw[show ops.toArray.size=ops.length by simp]at*;rw[hS0]
   . rw[show ops.toArray.size=ops.length by simp]at*;rw[hS0]at hj;cases hj
   . obtain⟨v,h1,h2⟩:=i2 k t hk;exact⟨v,h1,h2.ext hext⟩
end
section
variable{F:Fence}{n:Nat}{P:Program}{Q Q1:Exit→Act→World→Prop}{K K1:Act→World→Prop}{a:Act}{w:World}
theorem c5U{o:Oper}(hK:∀a w,K1 a w→K a w)(hQ:∀e a w,e≠ .normal→¬Q1 e a w)(hh:o.wpIn F n P a w K1 Q1):o.wpIn F n P a w K Q:=by
 unfold Oper.wpIn at*;refine⟨hh.1,?_⟩;have hh:=hh.2;generalize(o.semAt F.round a.eval).run P w=r at*;have hl:¬LetsOut Q1:=fun⟨a,w,h⟩=>hQ _ _ _ (fun e=>by cases e) h;cases r with
 |ok x w'=>
  cases x<;>simp only[Oper.uponIn]at hh⊢ <;>
   first
    |exact hK _ _ hh
    |exact⟨hh.1,CallsIn.mono hh.2 (fun e w'' he=>by cases e<;>first|exact hK _ _ he|exact absurd he (hQ _ _ _ (fun e=>by cases e))|exact absurd he hl)⟩
    |exact⟨hh.1,RowsIn.mono hh.2 (fun _ _ he=>hK _ _ he)⟩
    |exact⟨hh.1,RoundIn.mono hh.2 (fun e w'' he=>by cases e<;>first|exact hK _ _ he|exact absurd he (hQ _ _ _ (fun e=>by cases e))|exact absurd he hl)⟩
 |halt x w'=>cases x<;>simp only[Oper.uponIn]at hh⊢ <;>first|exact hh.elim|exact absurd hh (hQ _ _ _ (fun e=>by cases e))
theorem c6k{ops1 ops:Array Oper}{i:Nat}(ho:ops1[i]?=ops[i]?)(hy:∀o j b,ops[i]?=some o→o.guard=some (j,b)→ops1[j]?=ops[j]?)(hQ:∀e a w,e≠ .normal→¬Q1 e a w)(hK:∀a w,K1 a w→K a w)
 (h:wpOpIn F n P ops1 Q1 i K1 a w):wpOpIn F n P ops Q i K a w:=by
 unfold wpOpIn at*;rw[ho]at h;cases hoi:ops[i]? with
 |none=>rw[hoi]at h;exact hK _ _ h
 |some o=>
  rw[hoi]at h;simp only at h⊢;have hw:Region.wanted o (yielded ops1 a.tmps)=Region.wanted o (yielded ops a.tmps):=by
   unfold Region.wanted;cases hg:o.guard with
   |none=>rfl
   |some jb=>
    obtain⟨j,b⟩:=jb;simp only;have:yielded ops1 a.tmps j=yielded ops a.tmps j:=(by unfold yielded;rw[hy o j b hoi hg]);rw[this]
  rw[hw]at h;split at h
  . rename_i hc;rw[if_pos hc];exact c5U hK hQ h
  . rename_i hc;rw[if_neg hc];exact⟨h.1,hK _ _ h.2⟩
theorem a6x(ops:List Oper)(listed:Array Bool)(i:Nat)(hl:listed.size=ops.length):i∈Region.ready .any ops.toArray listed↔i<ops.length∧listed.getD i false=false∧∃o,ops[i]?=some o∧∀e∈o.after.toList,Region.binds .any e=true→listed.getD e.on false=true:=by
 unfold Region.ready;rw[a7J,a1v];simp only[a9y,a7G,E6,a6C];constructor
 . rintro⟨h1,h2,h3⟩;refine⟨h1,?_,ops[i],l9 h1,fun e he hb=>?_⟩
   . rw[←h2];simp only[a3Y]
     grind
   . rw[l9 h1]at h3;simp only[a2U,a4I]at h3;have:=Array.all_eq_true'.1 h3 e (by simpa using he)
     grind
 grind
theorem b3b{ops:List Oper}(hed:a4y 0 ops=true)(listed:Array Bool)(hl:listed.size=ops.length)(hr:Region.ready .any ops.toArray listed=[]):∀j,j<ops.length→listed.getD j false=true:=by
 intro j
 induction j using Nat.strongRecOn with
 |_ j ih=>
  intro hj;cases hs:listed.getD j false
  . exfalso;have:j∈Region.ready .any ops.toArray listed:=(a6x ops listed j hl).2 ⟨hj,hs,ops[j],l9 hj,fun e he hb=>by
     have:=b0Y hed j _ (l9 hj) e he hb;exact ih e.on i9 i9⟩
    grind
  . rfl
theorem c2f{ops:List Oper}:∀(i:Nat) {j:Nat},i<ops.length→((H9 [] ops).getD i 0).testBit j=true→j<i:=by
 intro i
 induction i using Nat.strongRecOn with
 |_ i ih=>
  intro j hi h;obtain⟨e,_,_,e3,e4⟩:=a8R (l9 hi) h;rcases e4 with rfl|e4
  . exact e3
  . have:=ih e.on e3 i9 e4;omega
theorem a8E{listed:Array Bool}{i:Nat}(h:i<listed.size)(j:Nat):(listed.setIfInBounds i true).getD j false=(listed.getD j false||j==i):=by
 simp only[a3Y]
 grind
theorem c7j{ops:List Oper}{m:Nat}(hch:∀i,m≤i→i<ops.length→∀j,j<i→((H9 [] ops).getD i 0).testBit j=true)(hed:a4y 0 ops=true):
 ∀(fuel i:Nat) (listed:Array Bool) (a:Act) (w:World),m≤i→i≤ops.length→ops.length-i≤fuel→listed.size=ops.length→(∀j,j<ops.length→(listed.getD j false=true↔j<i))→wpOpsIn F n P ops.toArray Q (List.range' i (ops.length-i)) a w→wpAnyIn F n P .any ops.toArray Q fuel listed a w:=by
 intro fuel
 induction fuel with
 |zero=>
  intro i listed a w hmi hin hf hl hli h;obtain rfl:i=ops.length:=i9;rw[a6B]at h;unfold wpAnyIn;refine⟨c1d.2 fun i hi=>?_,h⟩;obtain⟨h1,h2,_⟩:=(a6x ops listed i hl).1 hi;rw[(hli i h1).2 h1]at h2;cases h2
 |succ fuel ih=>
  intro i listed a w hmi hin hf hl hli h;unfold wpAnyIn;by_cases hi:i=ops.length
  . subst hi;rw[a6B]at h;refine⟨fun _=>h,fun i hi=>?_⟩;obtain⟨h1,h2,_⟩:=(a6x ops listed i hl).1 hi;rw[(hli i h1).2 h1]at h2;cases h2
  . have hi':i<ops.length:=i9;have hfree:listed.getD i false=false:=by
     cases hs:listed.getD i false
     . rfl
     . have:=(hli i hi').1 hs;omega
    refine⟨fun hr=>?_,fun i' hi2=>?_⟩
    . have:=b3b hed listed hl hr i hi';rw[hfree]at this;cases this
    . obtain⟨h1,h2,o,h3,h4⟩:=(a6x ops listed i' hl).1 hi2;have hge:¬i'<i:=fun hlt=>(by rw[(hli i' h1).2 hlt]at h2;cases h2);have hii:i'=i:=by
       rcases a5M i i' with hlt|hle
       . exfalso;obtain⟨e,e1,e2,e3,e4⟩:=a8R h3 (hch i' i9 h1 i hlt);have he:=(hli e.on i9).1 (h4 e e1 e2);rcases e4 with e4|e4
         . omega
         . have:=c2f e.on i9 e4;omega
       . omega
      subst hii;rw[show ops.length-i'=(ops.length-(i'+1))+1 by omega,List.range'_succ,wpOpsIn_cons]at h;refine wpOpIn_mono (fun a w hk=>?_) h;refine ih (i'+1) _ a w i9 i9 i9 (by simpa using hl) (fun j hj=>?_) hk;rw[a8E i9,a0P,hli j hj];simp only[beq_iff_eq];omega
theorem c4V{ops:List Oper}{m:Nat}(hm:m≤ops.length)(hch:∀i,m≤i→i<ops.length→∀j,j<i→((H9 [] ops).getD i 0).testBit j=true)(hed:a4y 0 ops=true)(hed1:a4y 0 (ops.take m)=true)
 (hgd:∀i o j b,i<m→ops[i]?=some o→o.guard=some (j,b)→j<m) (hQ:∀e a w,e≠ .normal→¬Q1 e a w) (hQ1:∀a w,Q1 .normal a w→wpOpsIn F n P ops.toArray Q (List.range' m (ops.length-m)) a w):
 ∀(fuel:Nat) (listed1 listed:Array Bool) (a:Act) (w:World),listed1.size=m→listed.size=ops.length→(∀j,j<m→listed.getD j false=listed1.getD j false)→(∀j,m≤j→j<ops.length→listed.getD j false=false)→
  (∀j k,listed.getD j false=true→j<ops.length→((H9 [] ops).getD j 0).testBit k=true→listed.getD k false=true)→
  wpAnyIn F n P .any (ops.take m).toArray Q1 fuel listed1 a w→wpAnyIn F n P .any ops.toArray Q (fuel+(ops.length-m)) listed a w:=by
 have hlen:(ops.take m).length=m:=by rw[a1G];omega
 have hget:∀i,i<m→(ops.take m)[i]?=ops[i]?:=fun i hi=>by rw[a0O,if_pos hi]
 have hall:∀(fuel:Nat) (listed1 listed:Array Bool) (a:Act) (w:World),ops.length-m≤fuel→listed.size=ops.length→(∀j,j<m→listed.getD j false=listed1.getD j false)→(∀j,m≤j→j<ops.length→listed.getD j false=false)→(∀j,j<m→listed1.getD j false=true)→Q1 .normal a w→wpAnyIn F n P .any ops.toArray Q fuel listed a w:=fun fuel listed1 listed a w hf hl h1 h2 h3 h4=>
  c7j hch hed fuel m listed a w (m0 _) hm hf hl (fun j hj=>by
   by_cases hjm:j<m
   . rw[h1 j hjm,h3 j hjm];simp[hjm]
   . rw[h2 j i9 hj];simp[hjm]) (hQ1 _ _ h4)
 intro fuel
 induction fuel with
 |zero=>
  intro listed1 listed a w hl1 hl h1 h2 hcl h;unfold wpAnyIn at h;exact hall _ listed1 listed a w i9 hl h1 h2 (fun j hj=>b3b hed1 listed1 i9 h.1 j i9) h.2
 |succ fuel ih=>
  intro listed1 listed a w hl1 hl h1 h2 hcl h;unfold wpAnyIn at h;by_cases hd:∀j,j<m→listed1.getD j false=true
  . refine hall _ listed1 listed a w i9 hl h1 h2 hd (h.1 (c1d.2 fun i hi=>?_));obtain⟨h3,h4,_⟩:=(a6x _ listed1 i i9).1 hi;rw[hd i i9]at h4;cases h4
  . rw[show fuel+1+(ops.length-m)=(fuel+(ops.length-m))+1 by omega];unfold wpAnyIn;obtain⟨j0,hj0⟩:=Classical.not_forall.1 hd;obtain⟨hj0m,hj0f⟩:=Classical.not_imp.1 hj0;have hj0l:¬listed.getD j0 false=true:=(by rw[h1 j0 hj0m];exact hj0f);refine⟨fun hr=>absurd (b3b hed listed hl hr j0 i9) hj0l,fun i hi=>?_⟩;obtain⟨i1,i2,o,i3,i4⟩:=(a6x ops listed i hl).1 hi;have hbits:∀k,((H9 [] ops).getD i 0).testBit k=true→listed.getD k false=true:=fun k hk=>by
     obtain⟨e,e1,e2,e3,e4⟩:=a8R i3 hk;rcases e4 with rfl|e4
     . exact i4 e e1 e2
     . exact hcl e.on k (i4 e e1 e2) i9 e4
    have him:i<m:=by
     rcases a5M i m with hlt|hge
     . exact hlt
     . exact absurd (hbits j0 (hch i hge i1 j0 i9)) hj0l
    have hi1:i∈Region.ready .any (ops.take m).toArray listed1:=(a6x _ listed1 i i9).2 ⟨i9,by rw[←h1 i him];exact i2,o,by rw[hget i him];exact i3,fun e he hb=>by have:=b0Y hed i o i3 e he hb;rw[←h1 e.on i9];exact i4 e he hb⟩
    refine c6k (ops1:=(ops.take m).toArray) (by simpa using hget i him) (fun o j b ho hg=>by have:=hgd i o j b him (by simpa using ho) hg;simpa using hget j this) hQ (fun a w hk=>?_) (h.2 i hi1)
    refine ih _ _ a w (by simpa using hl1) (by simpa using hl) (fun j hj=>?_) (fun j hj hjl=>?_) (fun j k hj hjl hb=>?_) hk
    . rw[a8E i9,a8E i9,h1 j hj]
    . rw[a8E i9,h2 j hj hjl];have:(j==i)=false:=I3;rw[this];rfl
    . rw[a8E i9,a0P]at hj⊢;rcases hj with hj|hj
      . exact .inl (hcl j k hj hjl hb)
      . obtain rfl:j=i:=(by simpa using hj);exact .inl (hbits k hb)
theorem a8U{FN:N2}{Q:B0→Prop}{ys:List k8}:∀{xs:List k8} {st:B0},xs.any (fun x=>a6P x.op)=false→F8 FN (xs++ys) st Q→F8 FN xs st fun st=>F8 FN ys st Q
 | [],st,_,h=>h
 |x::xs,st,hny,h=>by
  simp only[List.any_cons,Bool.or_eq_false_iff]at hny;rw[a7I]at h;cases hg:gdO st.loc st.vars x.guard with
  |none=>simp only[F8,hg]at h
  |some c=>
   cases c with
   |false=>simp only[F8,hg]at h⊢;exact a8U hny.2 h
   |true=>
    cases hx:x.op
    case call f args ks al=>
     simp only[F8,hg,hx]at h⊢;obtain⟨r,h0,h1,h2,h3⟩:=h;exact⟨r,h0,h1,h2,a8U hny.2 h3⟩
    case callv f args=>
     simp only[F8,hg,hx]at h⊢;obtain⟨r,ws,h1,h2⟩:=h;exact⟨r,ws,h1,a8U hny.2 h2⟩
    case cally f args=>rw[hx]at hny;simp[a6P]at hny
    all_goals
     simp only[F8,hg,hx]at h⊢;split at h
     . exact a8U hny.2 h
     . exact h.elim
end
section
variable{P:Program}{B:Nat}{Z0:Nat→Prop}{W0:M3 B}{ρ:Option Nat}{nn:Nat}{vs:List Nat}{N:Nat}{ops:List Oper}{xs:List k8}{vars:List PV}{h:l5}{T:Nat→B0}{p:Nat→PV}{ws:Nat→List (Nat×Row)}{S:Nat→Bool}{G:Gh}{hS:l5}{a:Act}{w:World}
theorem c3n(hn:vs.Nodup)(d:a0x P vs N ops xs)(tr:Trace (fns P) xs vars h T p ws)(r:a1a P B Z0 W0 vs N ops vars h T p ws S G hS a w)(hall:∀j,j<ops.length→S j=true):a4p G hS w ops ops.length (T xs.length).loc a:=fun t j hj=>by
 have hcg:J3 (fun j=>S j&&dq ops t j) ops.length=some j:=by rw[b0E]at hj;rw[←hj];exact a8Q fun j hj=>by rw[hall j hj];rfl
 obtain⟨v,h1,h2⟩:=r.slw t j hcg;refine⟨v,h1,?_⟩;have hjl:=(b9N hcg).1;rw[(tr.loc (m0 xs.length)).2 j (by rw[d.len];exact hjl)];exact h2
theorem c3J(d:a0x P vs N ops xs)(tr:Trace (fns P) xs vars h T p ws)(r:a1a P B Z0 W0 vs N ops vars h T p ws S G hS a w)(hall:∀j,j<ops.length→S j=true):hS=(T xs.length).heap:=a4F fun k=>by
 have hcg:∀q:Nat→Bool,J3 (fun j=>S j&&q j) ops.length=J3 q xs.length:=fun q=>by rw[d.len];exact a8Q fun j hj=>by rw[hall j hj];rfl
 rw[r.hp k,tr.heap k (m0 _),hcg]
 all_goals rfl
theorem b8t{ops:List Oper}{t m:Nat}:∀{i:Nat},i≤m→a0J (ops.take m) t i=a0J ops t i
 |0,_=>rfl
 |i+1,h=>by
  have h1:i<m:=i9;have h2:=b8t (ops:=ops) (t:=t) (m:=m) (i:=i) i9;simp only[a0J]
  grind
end
theorem b3S{P:Program}{F:Fence}{n:Nat}{Q:Exit→Act→World→Prop}{a:Act}{w:World}{c:Code}(h:c.wpIn F n P (Exit.noGoto Q) a w):(Code.scope c).wpIn F n P Q a w:=by
 intro b k cs hro hb hr;have h0:(lone (b.atR a (.code (.scope c)::k)) cs w).fenced P F:=fenced_calm hb hr rfl;have hs:step P (lone (b.atR a (.code (.scope c)::k)) cs w)=.next (lone (b.atR a (.code c::.inScope c::k)) cs w):=
  step_lone_go (by simp[stepG,stepG.exec,Frame.atR])
 have hs2:∀a w,step P (lone (b.atR a (.inScope c::k)) cs w)=.next (lone (b.atR a k) cs w):=fun a w=>
  step_lone_go (by simp[stepG,stepG.exec,Frame.atR])
 obtain⟨e,a₁,w₁,hq,harr⟩:=h b (.inScope c::k) cs hro hb hr;cases e with
 |normal=>exact⟨.normal,a₁,w₁,hq,.head h0 hs (StepsIn.trans harr (.one (fenced_calm hb hr rfl) (hs2 _ _)))⟩
 |exit id=>exact⟨.exit id,a₁,w₁,hq,fun k' hk=>.head h0 hs (harr.1 k' (by simp[exitTo,hk])),fun hr' hk=>let⟨k₁,h1,h2⟩:=harr.2 hr' (by simp[exitTo,hk]);⟨k₁,h1,.head h0 hs h2⟩⟩
 |goto l=>exact hq.elim
 |ret=>exact⟨_,a₁,w₁,hq,.of_steps (.one h0 hs) harr⟩
 |panic ch=>exact⟨_,a₁,w₁,hq,.of_steps (.one h0 hs) harr⟩
 |outgrown=>exact⟨_,a₁,w₁,hq,.of_steps (.one h0 hs) harr⟩
def exOf:O6→Exit
 | .normal=>.normal
 | .exit id=>.exit id
 | .ret=>.ret
section
variable{P:Program}{B:Nat}{Z0:Nat→Prop}{W0:M3 B}{ρ:Option Nat}{nn:Nat}{vs:List Nat}{N:Nat}{vars:List PV}{h:l5}{a:Act}{w:World}
def b0M(B:Nat)(Z0:Nat→Prop)(W0:M3 B)(vs:List Nat)(N:Nat)(Q':I9)(Q:Exit→Act→World→Prop):Prop:=∀e vars h a w,M9 B Z0 W0 vs N vars h a w→Q' e vars h→Q (exOf e) a w
theorem b3M{FN:N2}(hfn:FN.fn=Fn P)(hfi:FN.fi=FI P)(hfy:a7f P B Z0 W0 ρ vs FN.fy)(hn:vs.Nodup){id k k':Nat}{ops:List Oper}{xs:List k8}(hc:b1k P vs N k ops false=some (xs,k'))(hsi:a2a h.length xs=true){Q':B0→Prop}(hx:F8 FN xs ⟨[],vars,h⟩ Q')
 {Q:Exit→Act→World→Prop} (hQ:∀st a w,M9 B Z0 W0 vs N st.vars st.heap a w→Q' st→Q .normal a w) (hi:M9 B Z0 W0 vs N vars h a w):(Code.region id ops.toArray false).wpIn (fz ρ) nn P Q a w:=by
 have hc:a4S P vs N k ops false=some (xs,k'):=hc;unfold a4S at hc;split at hc
 . cases hc
 . rename_i xs0 k1 hc0;simp only[a3W,if_false,p9,s6]at hc;obtain⟨rfl,rfl⟩:=hc;obtain⟨tail,h1,h2⟩:=b3J (B:=B) (Z0:=Z0) (W0:=W0) hfn hfi hfy hn (Q:=Q) (Q':=Q') (fun i st a w hinv hq=>by
    obtain⟨G,i1,i2,_,_,i5,i6,i7⟩:=hinv;exact hQ st a w ⟨G,i1,i2,i5,i6,i7⟩ hq) ops [] k k1 xs0 rfl hc0
   simp only[a4E]at h1;subst h1;obtain⟨G,i1,i2,i3,i4,i5⟩:=hi;have:=h2 ⟨[],vars,h⟩ a w ⟨G,i1,i2,fun t j hj=>by simp[a0J]at hj,rfl,i3,i4,i5⟩ hsi hx;exact wpIn_region (by simpa[List.range_eq_range']using this)
theorem b0l{c:Operand}{d:s8}(hd:a0h vs [] 0 c=some d){G:Gh}(hv:V9 G h w vs vars a):j8 G h w D (a.eval c) (y9 [] vars d):=
 b3c hv (ops:=[]) (i:=0) (loc:=[]) (fun t j hj=>by simp[a0J]at hj) c d hd
theorem a6Y{FN:N2}(hfn:FN.fn=Fn P)(hfi:FN.fi=FI P){Q:B0→Prop}:∀{xs:List k8} {st:B0},xs.any (fun x=>a6P x.op)=false→F8 FN xs st Q→F8 (fns P) xs st Q
 | [],st,_,h=>h
 |x::xs,st,hny,h=>by
  simp only[List.any_cons,Bool.or_eq_false_iff]at hny;cases hg:gdO st.loc st.vars x.guard with
  |none=>simp only[F8,hg]at h
  |some c=>
   cases c with
   |false=>simp only[F8,hg]at h⊢;exact a6Y hfn hfi hny.2 h
   |true=>
    cases hx:x.op
    case call f args ks al=>
     simp only[F8,hg,hx]at h⊢;obtain⟨r,h0,h1,h2,h3⟩:=h;exact⟨r,h0,hfn▸h1,h2,a6Y hfn hfi hny.2 h3⟩
    case callv f args=>
     simp only[F8,hg,hx]at h⊢;obtain⟨r,ws,h1,h2⟩:=h;exact⟨r,ws,hfi▸h1,a6Y hfn hfi hny.2 h2⟩
    case cally f args=>rw[hx]at hny;cases hny.1
    all_goals
     simp only[F8,hg,hx]at h⊢;split at h
     . exact a6Y hfn hfi hny.2 h
     . exact h.elim
theorem b2f{FN:N2}(hm:P.follows .mixedOrders=true)(hfn:FN.fn=Fn P)(hfi:FN.fi=FI P)(hfy:a7f P B Z0 W0 ρ vs FN.fy)(hn:vs.Nodup){id k k':Nat}{ops:List Oper}{xs:List k8}(hc:b1k P vs N k ops true=some (xs,k')){vars:List PV}{h:l5}(hsi:a2a h.length xs=true){Q':B0→Prop}(hx:F8 FN xs ⟨[],vars,h⟩ Q')
 {Q:Exit→Act→World→Prop} (hQ:∀st a w,M9 B Z0 W0 vs N st.vars st.heap a w→Q' st→Q .normal a w) {a:Act} {w:World} (hi:M9 B Z0 W0 vs N vars h a w):(Code.region id ops.toArray true).wpIn (fz ρ) nn P Q a w:=by
 have hold:a4S P vs N k ops true=some (xs,k')→(Code.region id ops.toArray true).wpIn (fz ρ) nn P Q a w:=fun hc=>c5V hm hn hc hsi (a6Y hfn hfi (b4z hc).cy hx) hQ hi;unfold b1k at hc;split at hc
 . rename_i m h0 hcall;split at hc
   . rename_i r hr;cases hc;unfold b6K at hr;split at hr
     . rename_i hch;simp only[E6]at hch;obtain⟨⟨hch,hed⟩,hlt⟩:=hch;have hlt':m<ops.length:=(by simpa[a1I]using hlt);split at hr
       . rename_i xs1 k1 hc1;have d:=b4z hc1;have hol:(ops.take m).length=m:=(by rw[a1G];omega);have hxl:xs1.length=m:=(by rw[d.len,hol]);obtain⟨tail,rfl,hrun⟩:=b3J (nn:=nn) (B:=B) (Z0:=Z0) (W0:=W0) (ρ:=ρ) hfn hfi hfy hn (ops:=ops) (al:=true) (Q:=Q) (Q':=Q') (fun i st a w hinv hq=>by
          obtain⟨G,j1,j2,_,_,j5,j6,j7⟩:=hinv;exact hQ st a w ⟨G,j1,j2,j5,j6,j7⟩ hq) (ops.drop m) xs1 k1 k' xs (by rw[hxl]) hr
         have hs1:a2a h.length xs1=true∧a2a h.length tail=true:=by unfold a2a at hsi⊢;rw[List.all_append,E6]at hsi;exact hsi
         obtain⟨T,p,ws,t0,tq,tst⟩:=b4x d.cy (a6Y hfn hfi d.cy (a8U d.cy hx));have tr:Trace (fns P) xs1 vars h T p ws:=⟨t0,tst⟩
         obtain⟨G,i1,i2,i3,i4,i5⟩:=hi;have hch':∀i,m≤i→i<ops.length→∀j,j<i→((H9 [] ops).getD i 0).testBit j=true:=fun i hi1 hi2 j hj=>by unfold b5s at hch;have h1:=A8.1 hch (i-m) (a1v.2 i9);rw[show m+(i-m)=i by omega]at h1;exact A8.1 h1 j (a1v.2 hj)
         refine wpIn_region_any hm ?_;have hsz:ops.toArray.size=m+(ops.length-m):=I3;have hsz2:ops.toArray.size=ops.length:=k7;have h1:=b8I (nn:=nn) (ρ:=ρ) hn d tr hs1.1 (Q:=fun e a w=>e=.normal∧wpOpsIn (fz ρ) nn P ops.toArray Q (List.range' m (ops.length-m)) a w) (fun S G hS a w r hall=>⟨rfl,by
          have hg:=c0W hn d tr r hall;have hl:=c3n hn d tr r hall;rw[c3J d tr r hall,hol]at hl;have:=hrun (T xs1.length) a w ⟨G,hg.1,hg.2.1,by rw[hxl]at hl⊢;exact fun t j hj=>hl t j (by rw[b8t (m0 _)];exact hj),(tr.loc (m0 _)).1,hg.2.2.1,hg.2.2.2.1,hg.2.2.2.2⟩ (by rw[tr.len (m0 _)];exact hs1.2) tq;rw[hxl,a2X]at this;exact this⟩) m (Array.replicate (ops.take m).length false) a {w with drawn:=w.drawn+1} G h k7 (by have:=b2j (fun j=>(Array.replicate (ops.take m).length false).getD j false) (ops.take m).length;omega) (fun j k hj=>by exfalso;revert hj;simp only[a3Y,a7L];split<;>simp) (c7D i1 i2 i3 i4 i5)
         have hrep:∀(n j:Nat),(Array.replicate n false).getD j false=false:=fun n j=>by simp only[a3Y,a7L];split<;>simp
         have h2:=c4V (a5L hlt') hch' hed d.ed (Q:=Q) (fun i o j b him ho hg=>by
          obtain⟨x,_,hok⟩:=d.ok i o (by rw[a0O,if_pos him];exact ho);have hgd:=hok.gd;rw[hg]at hgd;simp only at hgd;rcases a5M j m with h|h
          . exact h
          . rw[a0O,if_neg i9]at hgd;simp at hgd) (fun e a w he hh=>he hh.1) (fun a w hh=>hh.2) m _ (Array.replicate ops.toArray.size false) a {w with drawn:=w.drawn+1} I3 k7 (fun j hj=>by rw[hrep,hrep]) (fun j _ _=>hrep _ _) (fun j k hj=>by rw[hrep]at hj;cases hj) h1
         rw[hsz];rw[hsz]at h2;exact h2
       . cases hr
     . cases hr
   . exact hold hc
 . exact hold hc
end
end Go.Proofs.YtbhfgadikmfjdaaGreat.Am
