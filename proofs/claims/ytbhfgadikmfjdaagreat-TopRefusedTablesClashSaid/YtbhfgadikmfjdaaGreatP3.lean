/-
  The plain machine, that it is sound, and walks: part 3 (joined and shortened by a program of the prover's).
-/
import Derived.Test.YtbhfgadikmfjdaaGreatP2
import Derived.RangeFuncRecord
import Derived.WalkKit
import Derived.ProofKit
import Derived.OpenShut
import Derived.ChangeOld
import Derived.Below
import Derived.Carry
import Derived.Deep.Slices
import Derived.Test.YtbhfgadikmfjdaaGreatProg
import Derived.KernelRfl
set_option linter.unusedSimpArgs false
set_option linter.unusedVariables false
set_option linter.unusedSectionVars false
namespace Go.Proofs.YtbhfgadikmfjdaaGreat.Am
open Go.RowKit
section
variable{x b:C6}{k g ver i j id sz:Nat}{c c' e:PV}{u:Value}{es ks cs:List PV}{FN:N2}
section
variable{P:Program}{B:Nat}{Z0:Nat→Prop}{W0:M3 B}{vs:List Nat}{N:Nat}
theorem b2E{G:Gh}{h:l5}{w:World}(hr:p7 B Z0 G h w){g' s':Nat}(hh:h[k]?=some (g',.arr s' ver true es))(hp:es.all D4=true)(hv:j8 G h w D u (.own k g' es.length s' 0 es.length)):j8 G h w D u (.slc (es.map B3)):=by have:=b1y hr (Z':=G.Z) (fun _ x=>x) hh rfl i9 hp (hr.fz k g' _ hh rfl) hv;rw[List.drop_zero,J7]at this;exact a1d this
theorem b7W{G:Gh}{h:l5}{w:World}(hr:p7 B Z0 G h w)(hh:h[k]?=some (g,.mp true ks cs))(hp:cs.all (fun c=>A6 c||fn0 c)=true)(hv:j8 G h w D u (.mapv k g)):PR G.Z w u (.J9 ks cs):=by
 obtain⟨rfl,hl,es,cq,hb,hK,hvs⟩:=a9r hr hh hv;have hob:=hr.ob k g _ hh;unfold E5 at hob;have hZ:G.Z (G.β (root k)):=hr.fz k g _ hh rfl none hob.1;have h1:∀i,i<cs.length→∃N,∀c,cs[i]?=some c→∃e,es[i]?=some e∧K0 G.Z w N e.val c:=fun i hi=>by
  obtain⟨e,e1,e2⟩:=hvs i _ (l9 hi);have hc:=A8.1 hp _ (B7 hi);have:∃N,K0 G.Z w N e.val cs[i]:=by
   generalize cs[i]=c at hc e2;by_cases hpc:A6 c=true
   . exact a4D hpc ((a4M (fun ns e=>by subst e;simp[A6]at hpc)).1 e2)
   . have hf:fn0 c=true:=(by simpa[hpc]using hc);unfold fn0 at hf;split at hf
     . unfold a0b at e2;obtain⟨vs,us,h1,h2,h3⟩:=a8C e2;refine⟨1,?_⟩;unfold K0;have hvs:vs= #[]:=b1N h2.1;have hus:us= #[]:=b1N h3.1;rw[h1,hvs,hus]
     . cases hf
  obtain⟨N,hN⟩:=this;exact⟨N,fun c hc=>by rw[l9 hi]at hc;cases hc;exact⟨e,e1,hN⟩⟩
 obtain⟨N,hN⟩:=a9a (Q:=fun i N=>∀c,cs[i]?=some c→∃e,es[i]?=some e∧K0 G.Z w N e.val c) (fun i n m hnm hq c hc=>by obtain⟨e,g1,g2⟩:=hq c hc;exact⟨e,g1,g2.le hnm⟩) cs.length h1
 refine⟨N+1,?_⟩;unfold K0
 grind
theorem a9c{G:Gh}{h:l5}{w:World}(hr:p7 B Z0 G h w)(ho:one c=true)(hv:j8 G h w D u c):one (a0a h c)=true∧j8 G h w D u (a0a h c):=by
 by_cases hc:∃k g gl s o l,c=.own k g gl s o l
 . obtain⟨k,g,gl,s,o,l,rfl⟩:=hc;simp only[a0a];split
   . rename_i g' s' ver fr es hlk;split
     . rename_i hcd;obtain⟨rfl,rfl,rfl,rfl,rfl,rfl,hp⟩:=hcd;have hh:h[k]?=some (g',.arr s' ver true es):=by
        rw[u9]at hlk
        grind
       exact⟨rfl,b2E hr hh hp hv⟩
     . exact⟨ho,hv⟩
   . exact⟨ho,hv⟩
 by_cases hm:∃k g,c=.mapv k g
 . obtain⟨k,g,rfl⟩:=hm;simp only[a0a];split
   . rename_i g' fr ks cs hlk;split
     . rename_i hcd;obtain⟨rfl,rfl,hp⟩:=hcd;have hh:h[k]?=some (g',.mp true ks cs):=by
        rw[u9]at hlk
        grind
       exact⟨rfl,a7y (b7W hr hh hp hv)⟩
     . exact⟨ho,hv⟩
   . exact⟨ho,hv⟩
 . have e:a0a h c=c:=by
    cases c<;>first|rfl|exact absurd ⟨_,_,_,_,_,_,rfl⟩ hc|exact absurd ⟨_,_,rfl⟩ hm
   rw[e];exact⟨ho,hv⟩
theorem c3X{G:Gh}{h:l5}{w:World}(hr:p7 B Z0 G h w)(hv:j8 G h w D u c):j8 G h w D u (a0a h c):=by
 by_cases hc:∃k g gl s o l,c=.own k g gl s o l
 . obtain⟨k,g,gl,s,o,l,rfl⟩:=hc;exact(a9c hr rfl hv).2
 by_cases hm:∃k g,c=.mapv k g
 . obtain⟨k,g,rfl⟩:=hm;exact(a9c hr rfl hv).2
 . have e:a0a h c=c:=by
    cases c<;>first|rfl|exact absurd ⟨_,_,_,_,_,_,rfl⟩ hc|exact absurd ⟨_,_,rfl⟩ hm
   rw[e];exact hv
theorem c5c{G:Gh}{h:l5}{w:World}(hr:p7 B Z0 G h w)(hh:h[k]?=some (g,.var cs)):
 p7 B Z0 G (h.set k (g,.var (cs.map (a0a h)))) w∧Ext G h w G (h.set k (g,.var (cs.map (a0a h)))) w:=by
 have hk:k<h.length:=(B4.1 hh).1;have hob:=hr.ob k g _ hh;unfold E5 at hob;obtain⟨hR,us,T,hb,hu⟩:=hob;have x:Ext G h w G (h.set k (g,.var (cs.map (a0a h)))) w:=by
  refine⟨fun _ y=>y,fun _ _=>rfl,fun k' gn ob e=>?_⟩;by_cases hkk:k'=k
  . subst hkk;rw[hh]at e;cases e;refine⟨g,.var _,D7 hk,m0 _,fun _=>⟨fun _ _ _ _ e'=>?_,fun cs'' e'=>⟨cs,rfl,B8.refl _ _⟩,fun _ _ _ e'=>(by cases e')⟩⟩;cases e'
  . exact⟨gn,ob,by rw[D9 (Ne.symm hkk)];exact e,m0 _,fun _=>K5.refl k' ob (B8.refl _ _) fun i j=>B8.refl _ _⟩
 refine⟨hr.update k g _ hk x (fun _ _ _=>.inl (B8.refl _ _)) (fun _ _ _ _=>rfl) (m0 _) (fun b hb'=>hr.zb b hb') (fun b hb=>.inl hb) (fun _ _ _ _ hn=>hn) (fun y hR'=>?_) (fun e=>by cases e) ?_,x⟩
 . obtain⟨b1,b2⟩:=hr.lv _ hR';exact⟨b1,b2,fun _=>hr.nz k g _ hh rfl y hR',fun y' hR2 e=>congrArg Prod.snd (hr.inj _ _ hR' hR2 e),fun k' y' hkk hR2 e=>hkk (congrArg Prod.fst (hr.inj _ _ hR' hR2 e)).symm⟩
 . unfold E5;refine⟨hR,us,T,hb,by rw[I8];exact hu.1,fun i c hc=>?_⟩;rw[H5]at hc;obtain⟨c0,hc0,rfl⟩:=C5.1 hc;obtain⟨v,h1,h2⟩:=hu.2 i c0 hc0;obtain⟨h3,h4⟩:=a9c hr h2.1 h2.2;exact⟨v,h1,h3,h4.ext x⟩
theorem c6U(h:l5)(hn:∀cs,c≠ .agg cs):l6 (a0a h c)=[a0a h c]:=by
 cases c<;>simp only[a0a]<;>(try rfl)
 case agg cs=>exact absurd rfl (hn cs)
 all_goals (repeat' split)<;>rfl
theorem b2X(h:l5)(e:PV):l6 (a4x h e)=(l6 e).map (a0a h):=by
 by_cases ha:∃cs,e=.agg cs
 . obtain⟨cs,rfl⟩:=ha;rfl
 . have e1:a4x h e=a0a h e:=by cases e<;>first|rfl|exact absurd ⟨_,rfl⟩ ha
   have e2:l6 e=[e]:=by cases e<;>first|rfl|exact absurd ⟨_,rfl⟩ ha
   rw[e1,c6U h fun cs e=>ha ⟨cs,e⟩,e2];rfl
theorem c7r{G:Gh}{h:l5}{w:World}(hr:p7 B Z0 G h w)(hh:h[k]?=some (g,.arr sz ver false es)):
 p7 B Z0 G (h.set k (g,.arr sz ver false (es.map (a4x h)))) w∧Ext G h w G (h.set k (g,.arr sz ver false (es.map (a4x h)))) w:=by
 have hk:k<h.length:=(B4.1 hh).1;have hob:=hr.ob k g _ hh;unfold E5 at hob;obtain⟨o1,o2,o3,o4,o5⟩:=hob;have hu:∀i j ns,cellAt es i j=some (.uslc ns)→cellAt (es.map (a4x h)) i j=some (.uslc ns):=fun i j ns e=>by unfold cellAt at e⊢;obtain⟨x,h1,h2⟩:=V1.1 e;rw[H5,h1];show(l6 (a4x h x))[j]?=_;rw[b2X,H5,h2];rfl
 have x:Ext G h w G (h.set k (g,.arr sz ver false (es.map (a4x h)))) w:=by
  refine⟨fun _ y=>y,fun _ _=>rfl,fun k' gn ob e=>?_⟩;by_cases hkk:k'=k
  . subst hkk;rw[hh]at e;cases e;refine⟨g,_,D7 hk,m0 _,fun _=>⟨fun sz' v' fr' es' e'=>?_,fun cs' e'=>(by cases e'),fun _ _ _ e'=>(by cases e')⟩⟩;cases e';exact⟨ver,false,es,rfl,k7,m0 _,fun _=>B8.refl _ _,fun _ i j ns hc=>⟨ns,hu i j ns hc,rfl,B8.refl _ _⟩⟩
  . exact⟨gn,ob,by rw[D9 (Ne.symm hkk)];exact e,m0 _,fun _=>K5.refl k' ob (B8.refl _ _) fun i j=>B8.refl _ _⟩
 refine⟨hr.update k g _ hk x (fun _ _ _=>.inl (B8.refl _ _)) (fun _ _ _ _=>rfl) (m0 _) (fun b hb'=>hr.zb b hb') (fun b hb=>.inl hb) (fun _ _ _ _ hn=>hn) (fun y hR'=>?_) (fun e=>by cases e) ?_,x⟩
 . obtain⟨b1,b2⟩:=hr.lv _ hR';exact⟨b1,b2,fun _=>hr.nz k g _ hh rfl y hR',fun y' hR2 e=>congrArg Prod.snd (hr.inj _ _ hR' hR2 e),fun k' y' hkk hR2 e=>hkk (congrArg Prod.fst (hr.inj _ _ hR' hR2 e)).symm⟩
 . unfold E5;refine⟨o1,by rw[I8];exact o2,o3,fun hR=>?_,fun hn=>by rw[o5 hn];rfl⟩;obtain⟨us,T,o6,o7,o8⟩:=o4 hR;refine⟨us,T,o6,o7,fun i e he=>?_⟩;rw[H5]at he;obtain⟨e0,he0,rfl⟩:=C5.1 he;obtain⟨q1,q2⟩:=o8 i e0 he0;refine⟨by rw[b2X,I8];exact q1,fun j c hc=>?_⟩;rw[b2X,H5]at hc;obtain⟨c0,hc0,rfl⟩:=C5.1 hc;obtain⟨u,h1,h2⟩:=q2 j c0 hc0;refine⟨u,h1,?_⟩;by_cases hus:∃ns,c0=.uslc ns
   . obtain⟨ns,rfl⟩:=hus;exact h2
   . have h3:one c0=true∧j8 G h w D u c0:=by
      cases c0<;>first|exact absurd ⟨_,rfl⟩ hus|exact h2
     obtain⟨h4,h5⟩:=a9c hr h3.1 h3.2;have h6:∀ns,a0a h c0≠ .uslc ns:=fun ns e=>(by rw[e]at h4;cases h4);generalize a0a h c0=y at h4 h5 h6;cases y<;>first|exact absurd rfl (h6 _)|exact⟨h4,h5.ext x⟩
theorem c2o{G:Gh}{h:l5}{w:World}(hr:p7 B Z0 G h w){ns:List PV}(hh:h[k]?=some (g,.arr 1 ver false es))(he:es[i]?=some (.uslc ns)):
 p7 B Z0 (G.drp k i) (h.set k (g,.arr 1 (ver+1) false (es.set i .any))) w∧Ext G h w (G.drp k i) (h.set k (g,.arr 1 (ver+1) false (es.set i .any))) w:=by
 have hk:k<h.length:=(B4.1 hh).1;have hob:=hr.ob k g _ hh;unfold E5 at hob;obtain⟨o1,o2,o3,o4,o5⟩:=hob;have x:Ext G h w (G.drp k i) (h.set k (g,.arr 1 (ver+1) false (es.set i .any))) w:=by
  refine⟨fun _ y=>y,fun _ _=>rfl,fun k' gn ob e=>?_⟩;by_cases hkk:k'=k
  . subst hkk;rw[hh]at e;cases e;refine⟨g,_,D7 hk,m0 _,fun _=>⟨fun sz' v' fr' es' e'=>?_,fun cs' e'=>(by cases e'),fun _ _ _ e'=>(by cases e')⟩⟩;cases e';exact⟨ver,false,es,rfl,k7,i9,fun _=>a4n k7,fun e=>i9⟩
  . exact⟨gn,ob,by rw[D9 (Ne.symm hkk)];exact e,m0 _,fun _=>K5.refl k' ob (a4n k7) fun a b=>a4n fun e=>hkk (congrArg Prod.fst e)⟩
 refine⟨hr.update k g _ hk x (fun k' y hkk=>.inl (a4n fun e=>hkk (congrArg Prod.fst e))) (fun _ _ _ _=>rfl) (m0 _) (fun b hb=>hr.zb b hb) (fun b hb=>.inl hb) (fun _ _ _ _ hn=>hn) (fun y hR=>?_) (fun e=>by cases e) ?_,x⟩
 . obtain⟨b1,b2⟩:=hr.lv _ hR.2;exact⟨b1,b2,fun _=>hr.nz k g _ hh rfl y hR.2,fun y' hR2 e=>congrArg Prod.snd (hr.inj _ _ hR.2 hR2.2 e),fun k' y' hkk hR2 e=>hkk (congrArg Prod.fst (hr.inj _ _ hR.2 hR2.2 e)).symm⟩
 . unfold E5;refine⟨o1,by rw[a2T];exact o2,o3,fun hR=>?_,fun hn=>?_⟩
   . obtain⟨us,T,o6,o7,o8⟩:=o4 hR.2;refine⟨us,T,o6,o7,fun i' e hi'=>?_⟩;by_cases hii:i'=i
     . subst hii;rw[D7 (B4.1 he).1]at hi';cases hi';refine⟨rfl,fun j c hc=>?_⟩;cases j with
       |succ j=>simp[l6]at hc
       |zero=>
        simp[l6]at hc;subst hc;obtain⟨u,u1,u2⟩:=(o8 i' _ he).2 0 (.uslc ns) rfl;refine⟨u,u1,?_⟩;unfold F9;refine⟨rfl,?_⟩;unfold F9 N7 at u2;by_cases hRn:G.R (nest k i' 0)
        . obtain⟨_,_,_,_,rfl,_⟩:=u2.1 hRn;unfold D j8;exact⟨rfl,rfl⟩
        . obtain⟨rfl,_⟩:=u2.2 hRn;unfold D j8;exact⟨rfl,rfl⟩
     . rw[D9 (Ne.symm hii)]at hi';obtain⟨o9,o10⟩:=o8 i' e hi';refine⟨o9,fun j c hc=>?_⟩;obtain⟨u,u1,u2⟩:=o10 j c hc;exact⟨u,u1,u2.ext x (a4n fun e=>hii (by simpa using e:i'=i∧j=0).1) fun _=>rfl⟩
   . have:=o5 fun y=>hn ⟨k7,y⟩;rw[this];rfl
theorem c8l{G:Gh}{h:l5}{w:World}(hr:p7 B Z0 G h w)(hh:h[k]?=some (g,.arr 1 ver false es))(he:es[i]?=some .any)(ho:one c'=true)
 (hc:∀us T u,w.heap[G.β (root k)]?=some (.cells us T (0,0))→us[i]?=some u→j8 G h w D u c'):
 p7 B Z0 G (h.set k (g,.arr 1 ver false (es.set i c'))) w∧Ext G h w G (h.set k (g,.arr 1 ver false (es.set i c'))) w:=by
 have hk:k<h.length:=(B4.1 hh).1;have hob:=hr.ob k g _ hh;unfold E5 at hob;obtain⟨o1,o2,o3,o4,o5⟩:=hob;have hec:l6 c'=[c']:=by cases c'<;>first|rfl|(simp[one,T6]at ho)
 have hnu:∀ns,c'≠ .uslc ns:=fun ns e=>by subst e;simp[one,T6]at ho
 have x:Ext G h w G (h.set k (g,.arr 1 ver false (es.set i c'))) w:=by
  refine⟨fun _ y=>y,fun _ _=>rfl,fun k' gn ob e=>?_⟩;by_cases hkk:k'=k
  . subst hkk;rw[hh]at e;cases e;refine⟨g,_,D7 hk,m0 _,fun _=>⟨fun sz' v' fr' es' e'=>?_,fun cs' e'=>(by cases e'),fun _ _ _ e'=>(by cases e')⟩⟩;cases e';refine⟨ver,false,es,rfl,k7,m0 _,fun _=>B8.refl _ _,fun _ a b ns hcn=>?_⟩;unfold cellAt at hcn⊢;by_cases hai:a=i
    . subst hai;rw[he]at hcn;cases b<;>simp[l6]at hcn
    . rw[D9 (Ne.symm hai)];exact⟨ns,hcn,rfl,B8.refl _ _⟩
  . exact⟨gn,ob,by rw[D9 (Ne.symm hkk)];exact e,m0 _,fun _=>K5.refl k' ob (B8.refl _ _) fun a b=>B8.refl _ _⟩
 refine⟨hr.update k g _ hk x (fun k' y hkk=>.inl (B8.refl _ _)) (fun _ _ _ _=>rfl) (m0 _) (fun b hb=>hr.zb b hb) (fun b hb=>.inl hb) (fun _ _ _ _ hn=>hn) (fun y hR=>?_) (fun e=>by cases e) ?_,x⟩
 . obtain⟨b1,b2⟩:=hr.lv _ hR;exact⟨b1,b2,fun _=>hr.nz k g _ hh rfl y hR,fun y' hR2 e=>congrArg Prod.snd (hr.inj _ _ hR hR2 e),fun k' y' hkk hR2 e=>hkk (congrArg Prod.fst (hr.inj _ _ hR hR2 e)).symm⟩
 . unfold E5;refine⟨o1,by rw[a2T];exact o2,o3,fun hR=>?_,fun hn=>by rw[o5 hn];rfl⟩;obtain⟨us,T,o6,o7,o8⟩:=o4 hR;refine⟨us,T,o6,o7,fun i' e hi'=>?_⟩;by_cases hii:i'=i
   . subst hii;rw[D7 (B4.1 he).1]at hi';cases hi';rw[hec];refine⟨rfl,fun j c hc'=>?_⟩;cases j with
     |succ j=>simp at hc'
     |zero=>
      simp at hc';subst hc';obtain⟨u,u1,_⟩:=(o8 i' _ he).2 0 .any rfl;refine⟨u,u1,?_⟩;have hv:=(hc us T u o6 (by simpa using u1)).ext x;clear hnu;revert ho hv;cases c'<;>intro ho hv<;>first|(simp[one,T6]at ho;done)|(unfold F9;exact⟨ho,hv⟩)
   . rw[D9 (Ne.symm hii)]at hi';obtain⟨o9,o10⟩:=o8 i' e hi';refine⟨o9,fun j c hc'=>?_⟩;obtain⟨u,u1,u2⟩:=o10 j c hc';exact⟨u,u1,u2.ext x (B8.refl _ _) fun _=>rfl⟩
theorem c6H{G:Gh}{h:l5}{w:World}(hr:p7 B Z0 G h w)(k1 k3:Nat):∃G',p7 B Z0 G' (a8c k1 k3 h) w∧Ext G h w G' (a8c k1 k3 h) w:=by
 have same:∀{h'},h'=h→∃G',p7 B Z0 G' h' w∧Ext G h w G' h' w:=fun e=>by subst e;exact⟨G,hr,Ext.refl⟩
 unfold a8c;split
 case h_2=>exact same rfl
 rename_i g s ver fr es g3 e1 e3;split
 case isFalse=>exact same rfl
 rename_i hc;obtain⟨rfl,rfl,hne,hl1,hl3⟩:=hc;split
 case h_2=>exact same rfl
 rename_i ns hlast;split
 case isFalse=>exact same rfl
 rename_i hcn;obtain⟨hn0,hsz⟩:=hcn;have h1:h[k1]?=some (g,.arr 1 ver false es):=by rw[l9 hl1];rw[u9,l9 hl1]at e1;simpa using e1
 have h3:h[k3]?=some (g3,.dead):=by rw[l9 hl3];rw[u9,l9 hl3]at e3;simpa using e3
 have hes:es≠ []:=fun e=>by subst e;simp at hlast
 have hel:0<es.length:=a2k.2 hes;obtain⟨i,hi⟩:∃i,i=es.length-1:=⟨_,rfl⟩
 have he:es[i]?=some (.uslc ns):=by rw[hi,←List.getLast?_eq_getElem?];exact hlast
 have hil:i<es.length:=i9;have hob:=hr.ob k1 g _ h1;unfold E5 at hob;obtain⟨_,_,_,o4,o5⟩:=hob;have hR1:G.R (root k1):=Classical.byContradiction fun hn=>hes (o5 hn);obtain⟨us,T,o6,_,o8⟩:=o4 hR1;obtain⟨u,u1,u2⟩:=(o8 i _ he).2 0 (.uslc ns) rfl;unfold F9 N7 at u2;have hRn:G.R (nest k1 i 0):=Classical.byContradiction fun hn=>by have:=(u2.2 hn).2;subst this;simp at hn0
 obtain⟨us2,T2,f,c,rfl,n2,n3,n4,n5,n6,n7,n8,n9⟩:=u2.1 hRn;have hσ:G.σ (nest k1 i 0)=1:=by have q:=(n9 0 ns[0] (l9 hn0)).1;have:=A8.1 hsz ns[0] (B7 hn0);simp at this;omega
 rw[hσ,Nat.mul_one]at n7;obtain⟨a1,a2⟩:=c2o hr h1 he;have h3':(h.set k1 (g,.arr 1 (ver+1) false (es.set i .any)))[k3]?=some (g3,.dead):=by rw[D9 hne];exact h3
 obtain⟨b1,b2⟩:=b4a a1 (us:=us2) (T:=T2) (b:=G.β (nest k1 i 0)) (γ0:=G.γ (nest k1 i 0)) (sz:=1) (ns:=ns) h3' (hr.lv _ hRn).1 (hr.nz k1 g _ h1 rfl _ hRn) (fun key hk e=>hk.1 (hr.inj _ _ hk.2 hRn e)) n6 i9 n5 i9 i9 (fun a e hae=>by obtain⟨q1,q2⟩:=n9 a e hae;rw[hσ]at q1 q2;refine⟨q1,fun j cc hcc=>?_⟩;obtain⟨q3,v,q4,q5⟩:=q2 j cc hcc;exact⟨q3,v,q4,q5⟩)
 have h1':((h.set k1 (g,.arr 1 (ver+1) false (es.set i .any))).set k3 (g3+1,.arr 1 0 false ns))[k1]?=some (g,.arr 1 (ver+1) false (es.set i .any)):=by rw[D9 (Ne.symm hne),D7 hl1]
 have hβ1:((G.drp k1 i).a0l k3 (G.β (nest k1 i 0)) (G.γ (nest k1 i 0))).β (root k1)=G.β (root k1):=by have:(root k1:Key)≠root k3:=fun e=>hne (congrArg Prod.fst e);simp[Gh.a0l,Gh.drp,this]
 obtain⟨c1,c2⟩:=c8l b1 (c':=.own k3 (g3+1) ns.length 1 0 ns.length) h1' (by rw[D7 hil]) rfl (fun us' T' u hu hui=>by rw[hβ1,o6]at hu;cases hu;rw[Nat.mul_one]at u1;rw[show i+0=i from rfl,hui]at u1;cases u1;unfold D j8;refine⟨_,c,rfl,n3,i9,.inr ⟨_,_,rfl⟩,g3+1,_,D7 (by simpa using hl3),m0 _,fun _ sz vr fr' es' e=>?_⟩;cases e;refine⟨m0 _,fun _=>⟨i9,fun _=>⟨f,by simp[Gh.a0l],n2.imp id fun h _=>i9,i9,by simp[Gh.a0l];omega⟩,fun hn=>absurd (.inl rfl) hn⟩⟩)
 have hfin:(((h.set k1 (g,.arr 1 (ver+1) false (es.set i .any))).set k3 (g3+1,.arr 1 0 false ns)).set k1 (g,.arr 1 (ver+1) false ((es.set i .any).set i (.own k3 (g3+1) ns.length 1 0 ns.length))))=
  ((h.set k1 (g,.arr 1 (ver+1) false (es.dropLast++[.own k3 (g3+1) ns.length 1 0 ns.length]))).set k3 (g3+1,.arr 1 0 false ns)):=by
  rw[List.set_comm _ _ (Ne.symm hne),a7H,a7H];congr 4;rw[hi]
  conv=>lhs;rw[←List.dropLast_concat_getLast hes]
  rw[List.set_append_right _ _ k7];simp
 rw[←hfin];exact⟨_,c1,a2.trans (b2.trans c2)⟩
theorem b6d{G:Gh}{h:l5}{w:World}{Z':Nat→Prop}(hz:∀b,G.Z b→Z' b)(hk:G.R (nest k i 0)→Z' (G.β (nest k i 0)))(hn:mvS c=true)(hc:a0b G h w k i u c){G':Gh}{h':l5}(hZ:G'.Z=Z'):a0b G' h' w k i u (M1 c):=by
 have done:(A6 c||I5 c)=true→F9 G h w k i 0 u c→a0b G' h' w k i u (M1 c):=fun h1 h2=>by
  obtain⟨q1,q2⟩:=a6W hz hk h1 h2;subst hZ;have hnu:∀ns,M1 c≠ .uslc ns:=fun ns e=>by rw[e]at q1;simp[one,T6]at q1
  exact(a4M hnu).2 (a1y q1 q2)
 by_cases hp:(A6 c||I5 c)=true
 . refine done hp ?_;cases c
   case uslc ns=>exact hc
   all_goals
    first
     |(simp[A6,I5]at hp;done)
     |(unfold a0b at hc;unfold F9;exact⟨rfl,hc⟩)
 . have hf:fn0 c=true:=(by unfold mvS at hn;revert hn hp;cases A6 c<;>cases I5 c<;>simp);unfold fn0 at hf;split at hf
   . rename_i f;unfold a0b at hc;show a0b G' h' w k i u (.fn (.func f) [] []);unfold a0b;obtain⟨vs,us,rfl,h1,h2⟩:=a8C hc;unfold D;unfold j8;exact⟨vs,us,rfl,⟨h1.1,fun i c hc=>by simp at hc⟩,⟨h2.1,fun i c hc=>by simp at hc⟩⟩
   . cases hf
theorem c1l{G:Gh}{h:l5}{w:World}(hr:p7 B Z0 G h w){fr:Bool}{us:List PV}(hh:h[k]?=some (g,.mp fr ks us))(hp:us.all mvS=true):
 p7 B Z0 (G.a2l k) (h.set k (g,.mp fr ks (us.map M1))) w∧Ext G h w (G.a2l k) (h.set k (g,.mp fr ks (us.map M1))) w:=by
 have hk:k<h.length:=(B4.1 hh).1;have hsame:∀k' y,k'≠k→B8 G (G.a2l k) (k',y):=fun k' y hkk=>⟨rfl,⟨fun x=>x.2,fun x=>⟨fun e=>absurd e hkk,x⟩⟩,rfl,rfl⟩
 have hroot:B8 G (G.a2l k) (root k):=⟨rfl,⟨fun x=>x.2,fun x=>⟨fun _=>rfl,x⟩⟩,rfl,rfl⟩
 have hob:=hr.ob k g _ hh;unfold E5 at hob;obtain⟨o1,o2,es,cq,o3,o4,o5⟩:=hob;have x:Ext G h w (G.a2l k) (h.set k (g,.mp fr ks (us.map M1))) w:=by
  refine⟨fun _ y=>.inl y,fun _ _=>rfl,fun k' gn ob e=>?_⟩;by_cases hkk:k'=k
  . subst hkk;rw[hh]at e;cases e;exact⟨g,_,D7 hk,m0 _,fun _=>⟨fun _ _ _ _ e'=>(by cases e'),fun _ e'=>(by cases e'),fun _ _ _ _=>⟨_,_,_,rfl,hroot⟩⟩⟩
  . exact⟨gn,ob,by rw[D9 (Ne.symm hkk)];exact e,m0 _,fun _=>K5.refl k' ob (hsame _ _ hkk) fun i j=>hsame _ _ hkk⟩
 refine⟨hr.update k g _ hk x (fun k' y hkk=>.inl (hsame k' y hkk)) (fun _ _ _ _=>rfl) (m0 _) ?_ (fun b hb=>hb.imp id fun⟨ij,h1,h2⟩=>h2▸(hr.lv _ h1).1) ?_ ?_ ?_ ?_,x⟩
 . rintro b (hb|⟨ij,hR,rfl⟩)
   . exact hr.zb b hb
   . exact(hr.lv _ hR).2
 . rintro k' y hkk hR hn (hb|⟨ij,hR2,he⟩)
   . exact hn hb
   . exact hkk (congrArg Prod.fst (hr.inj _ _ hR hR2 he))
 . intro y hR;obtain⟨b1,b2⟩:=hr.lv (k,y) hR.2;have hy:y=none:=hR.1 rfl;subst hy;refine⟨b1,b2,fun hl=>?_,fun y' hR' he=>congrArg Prod.snd (hr.inj _ _ hR.2 hR'.2 he),fun k' y' hkk hR' he=>hkk (congrArg Prod.fst (hr.inj _ _ hR.2 hR'.2 he)).symm⟩;rintro(hb|⟨ij,hR2,he⟩)
   . exact hr.nz k g _ hh hl none hR.2 hb
   . have:=hr.inj _ _ hR.2 hR2 he;simp at this
 . intro hfo y hR;exact .inl (hr.fz k g _ hh hfo y hR.2)
 . unfold E5;refine⟨⟨fun _=>rfl,o1⟩,by rw[I8];exact o2,es,cq,o3,o4,fun i c hc=>?_⟩;rw[H5]at hc;obtain⟨c0,hc0,rfl⟩:=C5.1 hc;obtain⟨e,e1,e2⟩:=o5 i c0 hc0;exact⟨e,e1,b6d (Z':=(G.a2l k).Z) (fun b hb=>.inl hb) (fun hR'=>.inr ⟨(i,0),hR',rfl⟩) (A8.1 hp c0 (C8 hc0)) e2 rfl⟩
theorem c1f{G:Gh}{h:l5}{w:World}(hr:p7 B Z0 G h w){fr:Bool}{us:List PV}(hh:h[k]?=some (g,.mp fr ks us))(hp:us.all mvS=true):
 p7 B Z0 (G.a2f k) (h.set k (g,.mp true ks (us.map M1))) w∧Ext G h w (G.a2f k) (h.set k (g,.mp true ks (us.map M1))) w:=by
 have hk:k<h.length:=(B4.1 hh).1;have hsame:∀k' y,k'≠k→B8 G (G.a2f k) (k',y):=fun k' y hkk=>⟨rfl,⟨fun x=>x.2,fun x=>⟨fun e=>absurd e hkk,x⟩⟩,rfl,rfl⟩
 have hroot:B8 G (G.a2f k) (root k):=⟨rfl,⟨fun x=>x.2,fun x=>⟨fun _=>rfl,x⟩⟩,rfl,rfl⟩
 have hob:=hr.ob k g _ hh;unfold E5 at hob;obtain⟨o1,o2,es,cq,o3,o4,o5⟩:=hob;have x:Ext G h w (G.a2f k) (h.set k (g,.mp true ks (us.map M1))) w:=by
  refine⟨fun _ y=>.inl y,fun _ _=>rfl,fun k' gn ob e=>?_⟩;by_cases hkk:k'=k
  . subst hkk;rw[hh]at e;cases e;exact⟨g,_,D7 hk,m0 _,fun _=>⟨fun _ _ _ _ e'=>(by cases e'),fun _ e'=>(by cases e'),fun _ _ _ _=>⟨_,_,_,rfl,hroot⟩⟩⟩
  . exact⟨gn,ob,by rw[D9 (Ne.symm hkk)];exact e,m0 _,fun _=>K5.refl k' ob (hsame _ _ hkk) fun i j=>hsame _ _ hkk⟩
 refine⟨hr.update k g _ hk x (fun k' y hkk=>.inl (hsame k' y hkk)) (fun _ _ _ _=>rfl) (m0 _) ?_ (fun b hb=>hb.imp id fun⟨ij,h1,h2⟩=>h2▸(hr.lv _ h1).1) ?_ ?_ ?_ ?_,x⟩
 . rintro b (hb|⟨ij,hR,rfl⟩)
   . exact hr.zb b hb
   . exact(hr.lv _ hR).2
 . rintro k' y hkk hR hn (hb|⟨ij,hR2,he⟩)
   . exact hn hb
   . exact hkk (congrArg Prod.fst (hr.inj _ _ hR hR2 he))
 . intro y hR;obtain⟨b1,b2⟩:=hr.lv (k,y) hR.2;have hy:y=none:=hR.1 rfl;subst hy;refine⟨b1,b2,fun hl=>?_,fun y' hR' he=>congrArg Prod.snd (hr.inj _ _ hR.2 hR'.2 he),fun k' y' hkk hR' he=>hkk (congrArg Prod.fst (hr.inj _ _ hR.2 hR'.2 he)).symm⟩;simp[a7x]at hl
 . intro hfo y hR;exact .inr ⟨y,hR.2,rfl⟩
 . unfold E5;refine⟨⟨fun _=>rfl,o1⟩,by rw[I8];exact o2,es,cq,o3,o4,fun i c hc=>?_⟩;rw[H5]at hc;obtain⟨c0,hc0,rfl⟩:=C5.1 hc;obtain⟨e,e1,e2⟩:=o5 i c0 hc0;exact⟨e,e1,b6d (Z':=(G.a2f k).Z) (fun b hb=>.inl hb) (fun hR'=>.inr ⟨some (i,0),hR',rfl⟩) (A8.1 hp c0 (C8 hc0)) e2 rfl⟩
theorem M9.G6{vars:List PV}{a:Act}{w:World}:∀{l:List (Nat×Bool)} {h:l5},M9 B Z0 W0 vs N vars h a w→M9 B Z0 W0 vs N vars (a5u l h) a w
 | [],h,hi=>hi
 |(k,r)::l,h,hi=>by
  refine M9.G6 (l:=l) ?_;by_cases h1000:1000≤k
  . show M9 B Z0 W0 vs N vars (if 1000≤k then _ else _) a w;rw[if_pos h1000];obtain⟨G,i1,i2,i3,i4,i5⟩:=hi;obtain⟨G',r1,r2⟩:=c6H i1 (k/1000-1) (k%1000);exact⟨G',r1,fun k s hs=>by obtain⟨v,q1,q2⟩:=i2 k s hs;exact⟨v,q1,q2.ext r2⟩,i3,i4,W0.step i5 r2 (Bl.refl _ _)⟩
  show M9 B Z0 W0 vs N vars (if 1000≤k then _ else _) a w;rw[if_neg h1000];obtain⟨G,i1,i2,i3,i4,i5⟩:=hi;cases hh:h[k]? with
  |none=>
   have:h.set k ((h.getD k (0,.dead)).1,a0q h r (h.getD k (0,.dead)).2)=h:=List.set_eq_of_length_le (by simpa using hh);show M9 B Z0 W0 vs N vars (h.set k _) a w;rw[this];exact⟨G,i1,i2,i3,i4,i5⟩
  |some o=>
   obtain⟨g,ob⟩:=o;have hd:h.getD k (0,.dead)=(g,ob):=(by simp[List.getD,hh]);show M9 B Z0 W0 vs N vars (h.set k ((h.getD k (0,.dead)).1,a0q h r (h.getD k (0,.dead)).2)) a w;rw[hd];have same:a0q h r ob=ob→M9 B Z0 W0 vs N vars (h.set k (g,a0q h r ob)) a w:=fun e=>by
    rw[e];have:h.set k (g,ob)=h:=by obtain⟨hk,hg⟩:=B4.1 hh;rw[←hg];exact b4I hk
    rw[this];exact⟨G,i1,i2,i3,i4,i5⟩
   have fresh:∀G' o',p7 B Z0 G' (h.set k (g,o')) w∧Ext G h w G' (h.set k (g,o')) w→M9 B Z0 W0 vs N vars (h.set k (g,o')) a w:=fun G' o' hx=>
    ⟨G',hx.1,fun k s hs=>by obtain⟨v,h1,h2⟩:=i2 k s hs;exact⟨v,h1,h2.ext hx.2⟩,i3,i4,W0.step i5 hx.2 (Bl.refl _ _)⟩
   cases ob with
   |dead=>exact same rfl
   |var cs=>exact fresh _ _ (c5c i1 hh)
   |mp fr us vs=>
    by_cases hp:vs.all mvS=true
    . cases r with
      |false=>
       have e:a0q h false (.mp fr us vs)=.mp fr us (vs.map M1):=(by simp only[a0q,hp,if_true,Bool.or_false]);rw[e];exact fresh _ _ (c1l i1 hh hp)
      |true=>
       have e:a0q h true (.mp fr us vs)=.mp true us (vs.map M1):=(by simp only[a0q,hp,if_true,Bool.or_true]);rw[e];exact fresh _ _ (c1f i1 hh hp)
    . exact same (by simp only[a0q,hp];rfl)
   |arr sz ver fr es=>
    by_cases hp:es.all D4=true
    . cases r with
      |false=>
       have e:a0q h false (.arr sz ver fr es)=.arr sz (ver+1) fr (es.map B3):=(by simp only[a0q,hp,if_true,Bool.or_false]);rw[e];exact fresh _ _ (c0Y i1 hh hp)
      |true=>
       have e:a0q h true (.arr sz ver fr es)=.arr sz (ver+1) true (es.map B3):=(by simp only[a0q,hp,if_true,Bool.or_true]);rw[e];exact fresh _ _ (b2y i1 hh hp)
    . cases fr with
      |true=>exact same (by simp only[a0q,hp];rfl)
      |false=>
       have e:a0q h r (.arr sz ver false es)=.arr sz ver false (es.map (a4x h)):=(by simp only[a0q,hp];rfl);rw[e];exact fresh _ _ (c7r i1 hh)
def a1W:C6→Bool
 | .seq a b| .cond _ a b=>a1W a&&a1W b
 | .block _ b| .loop b| .G6 _ b| .G4 _ _ _ _ b=>a1W b
 | .loopS .. =>false
 |_=>true
def Gh.Y4(G:Gh)(k:Nat):Gh:={G with R:=fun key=>key.1≠k∧G.R key,γ:=fun key=>if key.1=k then 0 else G.γ key}
theorem c2r{G:Gh}{h:l5}{w:World}(hr:p7 B Z0 G h w)(hh:h[k]?=some (g,.dead))(hsz:0<sz):
 p7 B Z0 (G.Y4 k) (h.set k (g+1,.arr sz 0 false [])) w∧Ext G h w (G.Y4 k) (h.set k (g+1,.arr sz 0 false [])) w∧j8 (G.Y4 k) (h.set k (g+1,.arr sz 0 false [])) w D (.slice none 0 0) (.own k (g+1) 0 sz 0 0):=by
 have hk:k<h.length:=(B4.1 hh).1;have hsame:∀k' y,k'≠k→B8 G (G.Y4 k) (k',y):=fun k' y hkk=>⟨rfl,⟨fun x=>x.2,fun x=>⟨hkk,x⟩⟩,by simp[Gh.Y4,hkk],rfl⟩
 have x:Ext G h w (G.Y4 k) (h.set k (g+1,.arr sz 0 false [])) w:=by
  refine⟨fun _ y=>y,fun _ _=>rfl,fun k' gn ob e=>?_⟩;by_cases hkk:k'=k
  . subst hkk;rw[hh]at e;cases e;exact⟨g+1,_,D7 hk,i9,fun e=>i9⟩
  . exact⟨gn,ob,by rw[D9 (Ne.symm hkk)];exact e,m0 _,fun _=>K5.refl k' ob (hsame _ _ hkk) fun i j=>hsame _ _ hkk⟩
 refine⟨hr.update k (g+1) _ hk x (fun k' y hkk=>.inl (hsame k' y hkk)) (fun _ _ _ _=>rfl) (m0 _) (fun b hb=>hr.zb b hb) (fun b hb=>.inl hb) (fun _ _ _ _ hn=>hn) (fun y hR=>absurd rfl hR.1) (fun e=>by cases e) ?_,x,?_⟩
 . unfold E5;exact⟨hsz,k7,by simp[Gh.Y4,root],fun hR=>absurd rfl hR.1,fun _=>rfl⟩
 . unfold D j8;refine⟨none,0,rfl,m0 _,C9 _,.inl ⟨rfl,rfl⟩,g+1,_,D7 hk,m0 _,fun _ sz' ver fr es e=>?_⟩;cases e;exact⟨k7,fun _=>⟨i9,fun hR=>absurd rfl hR.1,fun _=>⟨rfl,rfl⟩⟩⟩
theorem c8k{G:Gh}{h:l5}{w:World}(hr:p7 B Z0 G h w)(hh:h[k]?=some (g,.var cs))(ho:one c'=true)(hc:∀u c,cs[j]?=some c→j8 G h w D u c→j8 G h w D u c'):
 p7 B Z0 G (h.set k (g,.var (cs.set j c'))) w∧Ext G h w G (h.set k (g,.var (cs.set j c'))) w:=by
 have hk:k<h.length:=(B4.1 hh).1;have hob:=hr.ob k g _ hh;unfold E5 at hob;obtain⟨hR,us,T,hb,hu⟩:=hob;have x:Ext G h w G (h.set k (g,.var (cs.set j c'))) w:=by
  refine⟨fun _ y=>y,fun _ _=>rfl,fun k' gn ob e=>?_⟩;by_cases hkk:k'=k
  . subst hkk;rw[hh]at e;cases e;refine⟨g,.var _,D7 hk,m0 _,fun _=>⟨fun _ _ _ _ e'=>?_,fun cs'' e'=>⟨cs,rfl,B8.refl _ _⟩,fun _ _ _ e'=>(by cases e')⟩⟩;cases e'
  . exact⟨gn,ob,by rw[D9 (Ne.symm hkk)];exact e,m0 _,fun _=>K5.refl k' ob (B8.refl _ _) fun i j=>B8.refl _ _⟩
 refine⟨hr.update k g _ hk x (fun _ _ _=>.inl (B8.refl _ _)) (fun _ _ _ _=>rfl) (m0 _) (fun b hb'=>hr.zb b hb') (fun b hb=>.inl hb) (fun _ _ _ _ hn=>hn) (fun y hR'=>?_) (fun e=>by cases e) ?_,x⟩
 . obtain⟨b1,b2⟩:=hr.lv _ hR';exact⟨b1,b2,fun _=>hr.nz k g _ hh rfl y hR',fun y' hR2 e=>congrArg Prod.snd (hr.inj _ _ hR' hR2 e),fun k' y' hkk hR2 e=>hkk (congrArg Prod.fst (hr.inj _ _ hR' hR2 e)).symm⟩
 . unfold E5;refine⟨hR,us,T,hb,by rw[a2T];exact hu.1,fun i c hci=>?_⟩;by_cases hij:i=j
   . subst hij;have hl:i<cs.length:=(by simpa using(B4.1 hci).1);rw[D7 hl]at hci;cases hci;obtain⟨v,h1,h2⟩:=hu.2 i _ (l9 hl);exact⟨v,h1,ho,(hc v _ (l9 hl) h2.2).ext x⟩
   . rw[D9 (Ne.symm hij)]at hci;obtain⟨v,h1,h2⟩:=hu.2 i c hci;exact⟨v,h1,h2.1,h2.2.ext x⟩
def Gh.drc(G:Gh)(k i j:Nat):Gh:={G with R:=fun key=>key≠nest k i j∧G.R key}
theorem a6I{G:Gh}{key:Key}(h:key≠nest k i j):B8 G (G.drc k i j) key:=⟨rfl,⟨fun x=>x.2,fun x=>⟨h,x⟩⟩,rfl,rfl⟩
theorem b9x{x:PV}(hc:(l6 e)[j]?=some c)(hx:l6 x=[x]):l6 (M4 e j [x])=(l6 e).set j x:=by
 by_cases ha:∃cs,e=.agg cs
 . obtain⟨cs,rfl⟩:=ha;rfl
 . have he:l6 e=[e]:=by cases e<;>first|rfl|exact absurd ⟨_,rfl⟩ ha
   have hs:M4 e j [x]=x:=by cases e<;>first|rfl|exact absurd ⟨_,rfl⟩ ha
   grind
theorem c5u{x y:PV}(hc:(l6 e)[j]?=some c)(hx:l6 x=[x]):M4 (M4 e j [x]) j [y]=M4 e j [y]:=by
 by_cases ha:∃cs,e=.agg cs
 . obtain⟨cs,rfl⟩:=ha;simp[M4,a1S]
 . have hs:∀z,M4 e j [z]=z:=fun z=>by cases e<;>first|rfl|exact absurd ⟨_,rfl⟩ ha
   rw[hs x,hs y];cases x<;>first|rfl|skip
   case agg cs=>
    simp only[l6]at hx;have:=congrArg (fun l:List PV=>SizeOf.sizeOf l) hx;simp at this;omega
theorem c2K(ho:one c=true):l6 c=[c]:=by cases c<;>first|rfl|(simp[one,T6]at ho)
theorem b2z{G:Gh}{h:l5}{w:World}(hr:p7 B Z0 G h w){s:Nat}{c0:PV}(hh:h[k]?=some (g,.arr s ver false es))(he:es[i]?=some e)(hc0:(l6 e)[j]?=some c0)(ho:one c'=true)
 (hc:∀us T u,w.heap[G.β (root k)]?=some (.cells us T (0,0))→us[i*s+j]?=some u→F9 G h w k i j u c0→j8 G h w D u c'):
 p7 B Z0 (G.drc k i j) (h.set k (g,.arr s (ver+1) false (es.set i (M4 e j [c'])))) w∧Ext G h w (G.drc k i j) (h.set k (g,.arr s (ver+1) false (es.set i (M4 e j [c'])))) w:=by
 have hk:k<h.length:=(B4.1 hh).1;have hob:=hr.ob k g _ hh;unfold E5 at hob;obtain⟨o1,o2,o3,o4,o5⟩:=hob;have x:Ext G h w (G.drc k i j) (h.set k (g,.arr s (ver+1) false (es.set i (M4 e j [c'])))) w:=by
  refine⟨fun _ y=>y,fun _ _=>rfl,fun k' gn ob e=>?_⟩;by_cases hkk:k'=k
  . subst hkk;rw[hh]at e;cases e;refine⟨g,_,D7 hk,m0 _,fun _=>⟨fun sz' v' fr' es' e'=>?_,fun cs' e'=>(by cases e'),fun _ _ _ e'=>(by cases e')⟩⟩;cases e';exact⟨ver,false,es,rfl,k7,i9,fun _=>a6I k7,fun e=>i9⟩
  . exact⟨gn,ob,by rw[D9 (Ne.symm hkk)];exact e,m0 _,fun _=>K5.refl k' ob (a6I k7) fun a b=>a6I fun e=>hkk (congrArg Prod.fst e)⟩
 refine⟨hr.update k g _ hk x (fun k' y hkk=>.inl (a6I fun e=>hkk (congrArg Prod.fst e))) (fun _ _ _ _=>rfl) (m0 _) (fun b hb=>hr.zb b hb) (fun b hb=>.inl hb) (fun _ _ _ _ hn=>hn) (fun y hR=>?_) (fun e=>by cases e) ?_,x⟩
 . obtain⟨b1,b2⟩:=hr.lv _ hR.2;exact⟨b1,b2,fun _=>hr.nz k g _ hh rfl y hR.2,fun y' hR2 e=>congrArg Prod.snd (hr.inj _ _ hR.2 hR2.2 e),fun k' y' hkk hR2 e=>hkk (congrArg Prod.fst (hr.inj _ _ hR.2 hR2.2 e)).symm⟩
 . unfold E5;refine⟨o1,by rw[a2T];exact o2,o3,fun hR=>?_,fun hn=>?_⟩
   . obtain⟨us,T,o6,o7,o8⟩:=o4 hR.2;refine⟨us,T,o6,o7,fun i' e1 hi'=>?_⟩;by_cases hii:i'=i
     . subst hii;rw[D7 (B4.1 he).1]at hi';cases hi';obtain⟨p1,p2⟩:=o8 i' _ he;rw[b9x hc0 (c2K ho)];refine⟨by rw[a2T];exact p1,fun j' c hc'=>?_⟩;by_cases hjj:j'=j
       . subst hjj;rw[D7 (B4.1 hc0).1]at hc';cases hc';obtain⟨u,u1,u2⟩:=p2 j' c0 hc0;refine⟨u,u1,?_⟩;have hv:=(hc us T u o6 u1 u2).ext x;revert ho hv;clear hc x;cases c'<;>intro ho hv<;>first|(simp[one,T6]at ho;done)|(unfold F9;exact⟨ho,hv⟩)
       . rw[D9 (Ne.symm hjj)]at hc';obtain⟨u,u1,u2⟩:=p2 j' c hc';exact⟨u,u1,u2.ext x (a6I fun e=>hjj (by simpa using e)) fun _=>rfl⟩
     . rw[D9 (Ne.symm hii)]at hi';obtain⟨o9,o10⟩:=o8 i' e1 hi';refine⟨o9,fun j c hc=>?_⟩;obtain⟨u,u1,u2⟩:=o10 j c hc;exact⟨u,u1,u2.ext x (a6I fun e=>hii (by simpa using congrArg (fun k:Key=>k.2.map Prod.fst) e)) fun _=>rfl⟩
   . have:=o5 fun y=>hn ⟨k7,y⟩;rw[this];rfl
theorem c2k{G:Gh}{h:l5}{w:World}(hr:p7 B Z0 G h w)(k1 k3 i j:Nat):∃G',p7 B Z0 G' (a8f k1 k3 i j h) w∧Ext G h w G' (a8f k1 k3 i j h) w:=by
 have same:∀{h'},h'=h→∃G',p7 B Z0 G' h' w∧Ext G h w G' h' w:=fun e=>by subst e;exact⟨G,hr,Ext.refl⟩
 unfold a8f;split
 case h_2=>exact same rfl
 rename_i g s ver fr es g3 h1 h3;split
 case isFalse=>exact same rfl
 rename_i hc;obtain⟨rfl,hne⟩:=hc;split
 case h_2=>exact same rfl
 rename_i e he;split
 case h_2=>exact same rfl
 rename_i ns hcj;split
 case isFalse=>exact same rfl
 rename_i hcn;obtain⟨hn0,hsz⟩:=hcn;obtain⟨sz,hszd⟩:∃sz,(l6 (ns.headD .uu)).length=sz:=⟨_,rfl⟩
 rw[hszd]at hsz⊢;have hl1:k1<h.length:=(B4.1 h1).1;have hl3:k3<h.length:=(B4.1 h3).1;have hil:i<es.length:=(B4.1 he).1;have hob:=hr.ob k1 g _ h1;unfold E5 at hob;obtain⟨_,_,_,o4,o5⟩:=hob;have hR1:G.R (root k1):=Classical.byContradiction fun hn=>by rw[o5 hn]at hil;simp at hil
 obtain⟨us,T,o6,_,o8⟩:=o4 hR1;obtain⟨u,u1,u2⟩:=(o8 i _ he).2 j (.uslc ns) hcj;unfold F9 N7 at u2;have hRn:G.R (nest k1 i j):=Classical.byContradiction fun hn=>by have:=(u2.2 hn).2;subst this;simp at hn0
 obtain⟨us2,T2,f,c,rfl,n2,n3,n4,n5,n6,n7,n8,n9⟩:=u2.1 hRn;have hσ:G.σ (nest k1 i j)=sz:=by have q:=(n9 0 ns[0] (l9 hn0)).1;have:=A8.1 hsz ns[0] (B7 hn0);simp at this;omega
 rw[hσ]at n7;have hs0:0<sz:=i9;obtain⟨a1,a2⟩:=b2z hr (c':=.any) h1 he hcj rfl (fun us' T' u hu hui _=>by rw[o6]at hu;cases hu;rw[u1]at hui;cases hui;unfold D j8;exact⟨rfl,rfl⟩)
 have h3':(h.set k1 (g,.arr s (ver+1) false (es.set i (M4 e j [.any]))))[k3]?=some (g3,.dead):=by rw[D9 hne];exact h3
 obtain⟨b1,b2⟩:=b4a a1 (us:=us2) (T:=T2) (b:=G.β (nest k1 i j)) (γ0:=G.γ (nest k1 i j)) (sz:=sz) (ns:=ns) h3' (hr.lv _ hRn).1 (hr.nz k1 g _ h1 rfl _ hRn) (fun key hk e=>hk.1 (hr.inj _ _ hk.2 hRn e)) n6 i9 n5 hs0 n7 (fun a e hae=>by obtain⟨q1,q2⟩:=n9 a e hae;rw[hσ]at q1 q2;refine⟨q1,fun j cc hcc=>?_⟩;obtain⟨q3,v,q4,q5⟩:=q2 j cc hcc;exact⟨q3,v,q4,q5⟩)
 have h1':((h.set k1 (g,.arr s (ver+1) false (es.set i (M4 e j [.any])))).set k3 (g3+1,.arr sz 0 false ns))[k1]?=some (g,.arr s (ver+1) false (es.set i (M4 e j [.any]))):=by rw[D9 (Ne.symm hne),D7 hl1]
 have hβ1:((G.drc k1 i j).a0l k3 (G.β (nest k1 i j)) (G.γ (nest k1 i j))).β (root k1)=G.β (root k1):=by have:(root k1:Key)≠root k3:=fun e=>hne (congrArg Prod.fst e);simp[Gh.a0l,Gh.drc,this]
 obtain⟨c1,c2⟩:=b2z b1 (c':=.own k3 (g3+1) ns.length sz 0 ns.length) (j:=j) (c0:=.any) h1' (by rw[D7 hil]) (by rw[b9x hcj rfl,D7 (B4.1 hcj).1]) rfl (fun us' T' u hu hui _=>by rw[hβ1,o6]at hu;cases hu;rw[u1]at hui;cases hui;unfold D j8;refine⟨_,c,rfl,n3,i9,.inr ⟨_,_,rfl⟩,g3+1,_,D7 (by simpa using hl3),m0 _,fun _ sz' vr fr' es' e=>?_⟩;cases e;refine⟨m0 _,fun _=>⟨i9,fun _=>⟨f,by simp[Gh.a0l],n2.imp id fun h _=>i9,i9,by simp[Gh.a0l];omega⟩,fun hn=>absurd (.inl rfl) hn⟩⟩)
 have hfin:(((h.set k1 (g,.arr s (ver+1) false (es.set i (M4 e j [.any])))).set k3 (g3+1,.arr sz 0 false ns)).set k1 (g,.arr s (ver+1+1) false ((es.set i (M4 e j [.any])).set i (M4 (M4 e j [.any]) j [.own k3 (g3+1) ns.length sz 0 ns.length]))))=
  ((h.set k1 (g,.arr s (ver+2) false (es.set i (M4 e j [.own k3 (g3+1) ns.length sz 0 ns.length])))).set k3 (g3+1,.arr sz 0 false ns)):=by
  rw[List.set_comm _ _ (Ne.symm hne),a7H,a7H,c5u hcj rfl]
 rw[←hfin];exact⟨_,c1,a2.trans (b2.trans c2)⟩
theorem c6R(e:PV):B3 (B3 e)=B3 e:=by
 have h0:∀c,M1 (M1 c)=M1 c:=fun c=>by cases c<;>rfl
 cases e<;>first|(simp only[B3];exact h0 _)|skip
 case agg cs=>simp only[B3,a1f];congr 1;exact L9 fun c _=>h0 c
 all_goals rfl
theorem c1U{G:Gh}{h:l5}{w:World}(hr:p7 B Z0 G h w)(k1 k3 i j:Nat):∃G',p7 B Z0 G' (a8k k1 k3 i j h) w∧Ext G h w G' (a8k k1 k3 i j h) w:=by
 have same:∀{h'},h'=h→∃G',p7 B Z0 G' h' w∧Ext G h w G' h' w:=fun e=>by subst e;exact⟨G,hr,Ext.refl⟩
 unfold a8k;split
 case h_2=>exact same rfl
 rename_i g s ver fr es g3 s3 ver3 fr3 ns h1 h3;split
 case isFalse=>exact same rfl
 rename_i hc;obtain⟨rfl,hne,hp⟩:=hc;split
 case h_2=>exact same rfl
 rename_i e he;split
 case h_2=>exact same rfl
 rename_i k g' gl s' o l hcj;split
 case isFalse=>exact same rfl
 rename_i hcn;obtain⟨rfl,rfl,rfl,rfl,rfl,rfl⟩:=hcn;have hl3:k<h.length:=(B4.1 h3).1;obtain⟨a1,a2⟩:=b2y hr h3 hp;have h1':(h.set k (g',.arr s' (ver3+1) true (ns.map B3)))[k1]?=some (g,.arr s ver false es):=by rw[D9 (Ne.symm hne)];exact h1
 have h3':(h.set k (g',.arr s' (ver3+1) true (ns.map B3)))[k]?=some (g',.arr s' (ver3+1) true (ns.map B3)):=D7 hl3;have hp':(ns.map B3).all D4=true:=by rw[List.all_map];refine A8.2 fun x hx=>?_;have:=A8.1 hp x hx;simp only[Function.comp,D4,a5p]at this⊢;rw[List.all_map];refine A8.2 fun c hc=>?_;have:=A8.1 this c hc;cases c<;>simp[M1,A6,I5]at this⊢
 obtain⟨b1,b2⟩:=b2z a1 (c':=.slc (ns.map B3)) h1' he hcj rfl (fun us T u _ _ hv=>by unfold F9 at hv;have:=b2E a1 h3' hp' (by rw[I8];exact hv.2);rw[a1f]at this;rw[show(B3∘B3)=B3 from funext c6R]at this;exact this)
 have h3'':((h.set k (g',.arr s' (ver3+1) true (ns.map B3))).set k1 (g,.arr s (ver+1) false (es.set i (M4 e j [.slc (ns.map B3)]))))[k]?=some (g',.arr s' (ver3+1) true (ns.map B3)):=by rw[D9 hne];exact h3'
 obtain⟨c1,c2⟩:=b8d b1 h3'';have hfin:((h.set k (g',.arr s' (ver3+1) true (ns.map B3))).set k1 (g,.arr s (ver+1) false (es.set i (M4 e j [.slc (ns.map B3)])))).set k (g',.dead)=
  (h.set k1 (g,.arr s (ver+1) false (es.set i (M4 e j [.slc (ns.map B3)])))).set k (g',.dead):=by
  rw[List.set_comm _ _ hne,a7H];exact List.set_comm _ _ (Ne.symm hne)
 rw[←hfin];exact⟨_,c1,a2.trans (b2.trans c2)⟩
theorem c4b{G:Gh}{h:l5}{w:World}(hr:p7 B Z0 G h w){x p:PV}{h':l5}(hx:b0q h x=some (p,h')):∃G',p7 B Z0 G' h' w∧Ext G h w G' h' w∧∀u,j8 G h w D u x→j8 G' h' w D u p:=by
 unfold b0q at hx;split at hx
 . rename_i k g;split at hx
   . rename_i g' cs hh;split at hx
     . rename_i hc;simp only[p9,s6]at hx;obtain⟨rfl,rfl⟩:=hx;obtain⟨rfl,hp⟩:=hc;have hk:k<h.length:=(B4.1 hh).1;obtain⟨hR,us,T,h4,h5,h6⟩:=hr.ob k _ _ hh;have hsame:∀key,B8 G {G with Z:=fun b=>G.Z b∨b=G.β (root k)} key:=fun key=>⟨rfl,Iff.rfl,rfl,rfl⟩
       have e:Ext G h w {G with Z:=fun b=>G.Z b∨b=G.β (root k)} (h.set k (g',.dead)) w:=by
        refine⟨fun _ y=>.inl y,fun _ _=>rfl,fun k' gn ob e=>?_⟩;by_cases hkk:k'=k
        . subst hkk;rw[hh]at e;cases e;exact⟨g',_,D7 hk,m0 _,fun _=>K5.dead _ _⟩
        . exact⟨gn,ob,by rw[D9 (Ne.symm hkk)];exact e,m0 _,fun _=>K5.refl k' ob (hsame _) fun i j=>hsame _⟩
       refine⟨{G with Z:=fun b=>G.Z b∨b=G.β (root k)},hr.update k g' _ hk e (fun k' y hkk=>.inl (hsame _)) (fun _ _ _ _=>rfl) (m0 _) ?_ (fun b (hb:G.Z b∨b=G.β (root k))=>hb.imp id fun e=>by rw[e];exact(hr.lv _ hR).1) ?_ (fun y hR'=>?_) (fun e=>by cases e) trivial,e,fun u hu=>?_⟩
       . rintro b (hb|rfl)
         . exact hr.zb b hb
         . exact(hr.lv _ hR).2
       . rintro k' y hkk hR' hn (hb|hb)
         . exact hn hb
         . exact hkk (congrArg Prod.fst (hr.inj _ _ hR' hR hb))
       . obtain⟨b1,b2⟩:=hr.lv _ hR';exact⟨b1,b2,(fun hl=>by cases hl),fun y' hR2 e=>congrArg Prod.snd (hr.inj _ _ hR' hR2 e),fun k' y' hkk hR2 e=>hkk (congrArg Prod.fst (hr.inj _ _ hR' hR2 e)).symm⟩
       . unfold D at hu;unfold j8 at hu;obtain⟨b,rfl,gn,ob,q1,q2,q3⟩:=hu;rw[hh]at q1;cases q1;obtain rfl:=q3 rfl cs rfl;refine a4P (PR.a3a.2 ⟨_,0,rfl,.inr rfl,fun j c hc=>?_⟩);rw[H5]at hc;obtain⟨c0,hc0,rfl⟩:=C5.1 hc;obtain⟨u,h7,h8,h9⟩:=h6 _ _ hc0;have hpc:=A8.1 hp _ (E9.2 ⟨c0,C8 hc0,rfl⟩);obtain⟨r1,r2⟩:=c0R (Z':=fun b=>G.Z b∨b=G.β (root k)) (w':=w) (fun b hb=>.inl hb) (fun _ _=>rfl) hpc (a9c hr h8 h9).2;exact⟨r1,u,by rw[U3,←U3 j,a0U h4,U3];exact h7,r2⟩
     . cases hx
   . cases hx
 . simp only[p9,s6]at hx;obtain⟨rfl,rfl⟩:=hx;refine⟨G,hr,Ext.refl,fun u hu=>?_⟩;rw[Z7 hu];exact a1d (PR.U2.2 ⟨none,0,0,rfl,m0 _,C9 _,fun _=>rfl,fun i e he=>by simp at he⟩)
 . cases hx
theorem M9.G4(hgf:∀{g g':PV} {G:Gh} {h:l5} {w:World},W0.psi g G h w→W0.psi g' G h w){vars:List PV}{a:Act}{w:World}{v:Nat}{c:Option Nat}{h:l5}(hi:M9 B Z0 W0 vs N vars h a w):M9 B Z0 W0 vs N (a3g v c k sz vars h).1 (a3g v c k sz vars h).2 a w:=by
 unfold a3g;split
 . split
   . obtain⟨G,i1,i2,i3,i4,i5⟩:=hi;refine⟨G,i1,fun i s hs=>?_,i3,i4,hgf i5⟩;obtain⟨u,q1,q2⟩:=i2 i s hs;refine⟨u,q1,?_⟩;simp only[u9]at q2⊢;by_cases hiv:i=v
     . subst hiv;by_cases hl:i<vars.length
       . rw[D7 hl];exact c3X i1 q2
       grind
     grind
   . split
     . rename_i p h' hx;obtain⟨G,i1,i2,i3,i4,i5⟩:=hi;obtain⟨G',n1,n2,n3⟩:=c4b i1 hx;refine⟨G',n1,fun i s hs=>?_,i3,i4,hgf (W0.step i5 n2 (Bl.refl _ _))⟩;obtain⟨u,q1,q2⟩:=i2 i s hs;refine⟨u,q1,?_⟩;simp only[u9]at q2 n3⊢;by_cases hiv:i=v
       . subst hiv;by_cases hl:i<vars.length
         . rw[D7 hl];exact n3 u q2
         . rw[a0f I3];exact L3
       . rw[D9 (Ne.symm hiv)];exact q2.ext n2
     . exact hi
   . split
     . rename_i i hx;obtain⟨G,i1,i2,i3,i4,i5⟩:=hi;have go:∀{h':l5},(∃G',p7 B Z0 G' h' w∧Ext G h w G' h' w)→M9 B Z0 W0 vs N vars h' a w:=fun⟨G',n1,n2⟩=>
        ⟨G',n1,fun i s hs=>by obtain⟨u,q1,q2⟩:=i2 i s hs;exact⟨u,q1,q2.ext n2⟩,i3,i4,hgf (W0.step i5 n2 (Bl.refl _ _))⟩
       show M9 B Z0 W0 vs N vars (if _ then _ else _) a w;split
       . exact go (c2k i1 _ _ _ _)
       . exact go (c1U i1 _ _ _ _)
     . exact hi
 split
 . rename_i g hh;split
   . rename_i hsz;obtain⟨G,i1,i2,i3,i4,i5⟩:=hi;obtain⟨n1,n2,n3⟩:=c2r i1 hh hsz;have v1:V9 (G.Y4 k) (h.set k (g+1,.arr sz 0 false [])) w vs vars a:=fun k s hk=>by
      obtain⟨v,q1,q2⟩:=i2 k s hk;exact⟨v,q1,q2.ext n2⟩
     split
     . rename_i hv;refine⟨_,n1,fun i s hs=>?_,i3,i4,hgf (W0.step i5 n2 (Bl.refl _ _))⟩;obtain⟨u,q1,q2⟩:=v1 i s hs;refine⟨u,q1,?_⟩;simp only[u9]at q2 hv⊢;by_cases hiv:i=v
       . subst hiv;by_cases hl:i<vars.length
         . rw[D7 hl];rw[hv]at q2;rw[Z7 q2];exact n3
         grind
       grind
     . rename_i j k2 g2 hv;split
       . rename_i g3 cs hk2;split
         . split
           . rename_i hcj;have hne:k2≠k:=fun e=>(by subst e;rw[hh]at hk2;cases hk2);have hk2':(h.set k (g+1,.arr sz 0 false []))[k2]?=some (g3,.var cs):=(by rw[D9 (Ne.symm hne)];exact hk2);obtain⟨m1,m2⟩:=c8k n1 hk2' (c':=.own k (g+1) 0 sz 0 0) rfl (j:=j) (fun u c hc hv=>by
              rw[hcj]at hc;cases hc;rw[Z7 hv];exact n3)
             exact⟨_,m1,fun i s hs=>by obtain⟨u,q1,q2⟩:=v1 i s hs;exact⟨u,q1,q2.ext m2⟩,i3,i4,hgf (W0.step (W0.step i5 n2 (Bl.refl _ _)) m2 (Bl.refl _ _))⟩
           . exact⟨G,i1,i2,i3,i4,i5⟩
         . exact⟨G,i1,i2,i3,i4,i5⟩
       . exact⟨G,i1,i2,i3,i4,i5⟩
     . exact⟨G,i1,i2,i3,i4,i5⟩
   . exact hi
 . exact hi
theorem a3R(hgf:∀{g g':PV} {G:Gh} {h:l5} {w:World},W0.psi g G h w→W0.psi g' G h w){a:Act}{w:World}{Q:I9}:∀{x:C6} {vars:List PV} {h:l5},G5 FN x Q vars h→M9 B Z0 W0 vs N vars h a w→∃x' vars' h',(∀l b,x'≠ .G6 l b)∧(∀v c k sz b,x'≠ .G4 v c k sz b)∧(strip x'=strip x∧a1W x'=a1W x)∧G5 FN x' Q vars' h'∧M9 B Z0 W0 vs N vars' h' a w:=by
 intro x
 induction x with
 |G6 l b ih=>intro vars h hx hi;exact ih (show G5 FN b Q vars (a5u l h)from hx) hi.G6
 |G4 v c k sz b ih=>intro vars h hx hi;exact ih (show G5 FN b Q (a3g v c k sz vars h).1 (a3g v c k sz vars h).2 from hx) (hi.G4 hgf)
 |skip|reg|seq|cond|block|loop|loopS|exit|ret|rfor=>intro vars h hx hi;exact⟨_,vars,h,(fun l b e=>by cases e),(fun v c k sz b e=>by cases e),⟨rfl,rfl⟩,hx,hi⟩
theorem a4e{vars:List PV}{a:Act}{w:World}{Q:I9}:∀{x:C6} {h:l5},G5 FN x Q vars h→M9 B Z0 W0 vs N vars h a w→∃x' h',(∀l b,x'≠ .G6 l b)∧H7 x'=H7 x∧G5 FN x' Q vars h'∧M9 B Z0 W0 vs N vars h' a w:=by
 intro x
 induction x with
 |G6 l b ih=>intro h hx hi;exact ih (show G5 FN b Q vars (a5u l h)from hx) hi.G6
 |skip|reg|seq|cond|block|loop|loopS|exit|ret|rfor|G4=>intro h hx hi;exact⟨_,h,(fun l b e=>by cases e),rfl,hx,hi⟩
end
theorem b9B(hf:∀l b,x≠ .G6 l b)(hm:∀v c k sz b,x≠ .G4 v c k sz b)(h:strip x=.skip):x=.skip:=by cases x<;>simp[strip]at h<;>first|exact absurd rfl (hf _ _)|exact absurd rfl (hm _ _ _ _ _)|rfl
theorem c8G(hf:∀l b,x≠ .G6 l b)(hm:∀v c k sz b,x≠ .G4 v c k sz b)(h:strip x=.exit id):x=.exit id:=by cases x<;>simp[strip]at h<;>first|exact absurd rfl (hf _ _)|exact absurd rfl (hm _ _ _ _ _)|(subst h;rfl)
theorem c3T(hf:∀l b,x≠ .G6 l b)(hm:∀v c k sz b,x≠ .G4 v c k sz b)(h:strip x=.ret):x=.ret:=by cases x<;>simp[strip]at h<;>first|exact absurd rfl (hf _ _)|exact absurd rfl (hm _ _ _ _ _)|rfl
theorem c5X{xs:List k8}(hf:∀l b,x≠ .G6 l b)(hm:∀v c k sz b,x≠ .G4 v c k sz b)(h:strip x=.reg xs):x=.reg xs:=by cases x<;>simp[strip]at h<;>first|exact absurd rfl (hf _ _)|exact absurd rfl (hm _ _ _ _ _)|(subst h;rfl)
theorem c5D{a:C6}{g:s8}{ps:List (Option Nat)}(hf:∀l b,x≠ .G6 l b)(hm:∀v c k sz b,x≠ .G4 v c k sz b)(h:strip x=.rfor g ps a b):∃a' b',x=.rfor g ps a' b'∧H7 a'=a∧H7 b'=b:=by
 cases x<;>first|exact absurd rfl (hf _ _)|exact absurd rfl (hm _ _ _ _ _)|simp[strip]at h
 grind
theorem c2H{a:C6}(hf:∀l b,x≠ .G6 l b)(hm:∀v c k sz b,x≠ .G4 v c k sz b)(h:strip x=.seq a b):∃a' b',x=.seq a' b'∧strip a'=a∧strip b'=b:=by
 cases x<;>first|exact absurd rfl (hf _ _)|exact absurd rfl (hm _ _ _ _ _)|simp[strip]at h
 exact⟨_,_,rfl,h.1,h.2⟩
theorem c8Z{a:C6}{c:s8}(hf:∀l b,x≠ .G6 l b)(hm:∀v c k sz b,x≠ .G4 v c k sz b)(h:strip x=.cond c a b):∃a' b',x=.cond c a' b'∧strip a'=a∧strip b'=b:=by
 cases x<;>first|exact absurd rfl (hf _ _)|exact absurd rfl (hm _ _ _ _ _)|simp[strip]at h
 grind
theorem c4F(hf:∀l b,x≠ .G6 l b)(hm:∀v c k sz b,x≠ .G4 v c k sz b)(h:strip x=.block id b):∃b',x=.block id b'∧strip b'=b:=by
 cases x<;>first|exact absurd rfl (hf _ _)|exact absurd rfl (hm _ _ _ _ _)|simp[strip]at h
 grind
theorem c6u(hf:∀l b,x≠ .G6 l b)(hm:∀v c k sz b,x≠ .G4 v c k sz b)(h:strip x=.loop b):(∃b',x=.loop b'∧strip b'=b)∨∃lv c0 b',x=.loopS lv c0 b'∧strip b'=b:=by
 cases x<;>first|exact absurd rfl (hf _ _)|exact absurd rfl (hm _ _ _ _ _)|simp[strip]at h
 all_goals grind
theorem b7O(hf:∀l b,x≠ .G6 l b)(h:H7 x=.skip):x=.skip:=by cases x<;>simp[H7]at h<;>first|exact absurd rfl (hf _ _)|rfl
theorem c6q(hf:∀l b,x≠ .G6 l b)(h:H7 x=.exit id):x=.exit id:=by cases x<;>simp[H7]at h<;>first|exact absurd rfl (hf _ _)|(subst h;rfl)
theorem c6g(hf:∀l b,x≠ .G6 l b)(h:H7 x=.ret):x=.ret:=by cases x<;>simp[H7]at h<;>first|exact absurd rfl (hf _ _)|rfl
theorem c8m{xs:List k8}(hf:∀l b,x≠ .G6 l b)(h:H7 x=.reg xs):x=.reg xs:=by cases x<;>simp[H7]at h<;>first|exact absurd rfl (hf _ _)|(subst h;rfl)
theorem c7H{a:C6}(hf:∀l b,x≠ .G6 l b)(h:H7 x=.seq a b):∃a' b',x=.seq a' b'∧H7 a'=a∧H7 b'=b:=by
 cases x<;>first|exact absurd rfl (hf _ _)|simp[H7]at h
 exact⟨_,_,rfl,h.1,h.2⟩
theorem c2L{a:C6}{c:s8}(hf:∀l b,x≠ .G6 l b)(h:H7 x=.cond c a b):∃a' b',x=.cond c a' b'∧H7 a'=a∧H7 b'=b:=by
 cases x<;>first|exact absurd rfl (hf _ _)|simp[H7]at h
 grind
theorem c7p(hf:∀l b,x≠ .G6 l b)(h:H7 x=.block id b):∃b',x=.block id b'∧H7 b'=b:=by
 cases x<;>first|exact absurd rfl (hf _ _)|simp[H7]at h
 grind
theorem c3i(hf:∀l b,x≠ .G6 l b)(h:H7 x=.loop b):∃b',x=.loop b'∧H7 b'=b:=by
 cases x<;>first|exact absurd rfl (hf _ _)|simp[H7]at h
 exact⟨_,rfl,h⟩
section
variable{P:Program}{B:Nat}{Z0:Nat→Prop}{W0:M3 B}{vs:List Nat}{N:Nat}{vars:List PV}{h:l5}{a:Act}{w:World}
theorem b2d{ρ:Option Nat}{nn:Nat}(hm:P.follows .mixedOrders=true)(hn:vs.Nodup)(hfn:FN.fn=Fn P)(hfi:FN.fi=FI P)(hfy:a7f P B Z0 W0 ρ vs FN.fy):∀(c:Code),Y4 c=true→∀(k k':Nat) (x:C6),E4 P vs N k c=some (H7 x,k')→∀(Q':I9) (Q:Exit→Act→World→Prop) (vars:List PV) (h:l5) (a:Act) (w:World),
 G5 FN x Q' vars h→M9 B Z0 W0 vs N vars h a w→b0M B Z0 W0 vs N Q' Q→c.wpIn (fz ρ) nn P Q a w:=by
 intro c
 induction c with
 |skip=>
  intro hr0 k k' x hc Q' Q vars h a w hx hi hq;have hp:=a4e hx hi;clear hx hi;obtain⟨x,h,hnf,hst,hx,hi⟩:=hp;rw[←hst]at hc;simp only[E4,p9,s6]at hc;obtain⟨hc,rfl⟩:=hc;obtain rfl:=b7O hnf hc.symm;exact wpIn_skip (hq .normal _ _ _ _ hi hx)
 |label l=>
  intro hr0 k k' x hc Q' Q vars h a w hx hi hq;have hp:=a4e hx hi;clear hx hi;obtain⟨x,h,hnf,hst,hx,hi⟩:=hp;rw[←hst]at hc;simp only[E4,p9,s6]at hc;obtain⟨hc,rfl⟩:=hc;obtain rfl:=b7O hnf hc.symm;exact wpIn_label (hq .normal _ _ _ _ hi hx)
 |exit id=>
  intro hr0 k k' x hc Q' Q vars h a w hx hi hq;have hp:=a4e hx hi;clear hx hi;obtain⟨x,h,hnf,hst,hx,hi⟩:=hp;rw[←hst]at hc;simp only[E4,p9,s6]at hc;obtain⟨hc,rfl⟩:=hc;obtain rfl:=c6q hnf hc.symm;exact wpIn_exit (hq (.exit id) _ _ _ _ hi hx)
 |ret=>
  intro hr0 k k' x hc Q' Q vars h a w hx hi hq;have hp:=a4e hx hi;clear hx hi;obtain⟨x,h,hnf,hst,hx,hi⟩:=hp;rw[←hst]at hc;simp only[E4,p9,s6]at hc;obtain⟨hc,rfl⟩:=hc;obtain rfl:=c6g hnf hc.symm;exact wpIn_ret (hq .ret _ _ _ _ hi hx)
 |region id ops d=>
  intro hr0 k k' x hc Q' Q vars h a w hx hi hq;have hp:=a4e hx hi;clear hx hi;obtain⟨x,h,hnf,hst,hx,hi⟩:=hp;rw[←hst]at hc;simp only[E4]at hc;split at hc
  . rename_i xs k1 hc0;simp only[p9,s6]at hc;obtain⟨hc,rfl⟩:=hc;obtain rfl:=c8m hnf hc.symm;obtain⟨hsi,hx⟩:=hx;rw[show ops=ops.toList.toArray by simp];cases d with
    |false=>exact b3M hfn hfi hfy hn hc0 hsi hx (fun st a w hi hq'=>hq .normal _ _ _ _ hi hq') hi
    |true=>exact b2f hm hfn hfi hfy hn hc0 hsi hx (fun st a w hi hq'=>hq .normal _ _ _ _ hi hq') hi
  . cases hc
 |seq c1 c2 ih1 ih2=>
  intro hr0 k k' x hc Q' Q vars h a w hx hi hq;have hp:=a4e hx hi;clear hx hi;obtain⟨x,h,hnf,hst,hx,hi⟩:=hp;rw[←hst]at hc;simp only[E4]at hc;split at hc
  . rename_i x1 k1 h1;split at hc
    . rename_i x2 k2 h2;simp only[p9,s6]at hc;obtain⟨hc,rfl⟩:=hc;obtain⟨x1,x2,rfl,rfl,rfl⟩:=c7H hnf hc.symm;simp only[Y4,E6]at hr0;refine wpIn_seq (ih1 hr0.1 _ _ _ h1 _ _ _ _ _ _ hx hi fun e vars h a w hi he=>?_);cases e with
      |normal=>exact ih2 hr0.2 _ _ _ h2 _ _ _ _ _ _ he hi hq
      |exit id=>exact hq (.exit id) _ _ _ _ hi he
      |ret=>exact hq .ret _ _ _ _ hi he
    . cases hc
  . cases hc
 |cond cd c1 c2 ih1 ih2=>
  intro hr0 k k' x hc Q' Q vars h a w hx hi hq;have hp:=a4e hx hi;clear hx hi;obtain⟨x,h,hnf,hst,hx,hi⟩:=hp;rw[←hst]at hc;simp only[E4]at hc;split at hc
  . rename_i x1 k1 h1;split at hc
    . rename_i x2 k2 h2;split at hc
      . rename_i dd hdd;simp only[p9,s6]at hc;obtain⟨hc,rfl⟩:=hc;obtain⟨x1,x2,rfl,rfl,rfl⟩:=c2L hnf hc.symm;simp only[Y4,E6]at hr0;obtain⟨G,i1,i2,i3⟩:=id hi;have hr:=b0l hdd i2;simp only[G5]at hx;split at hx
        . rename_i he;rw[he]at hr;exact wpIn_cond_true (a1c hr) (ih1 hr0.1 _ _ _ h1 _ _ _ _ _ _ hx hi hq)
        . rename_i he;rw[he]at hr;exact wpIn_cond_false (a1c hr) (ih2 hr0.2 _ _ _ h2 _ _ _ _ _ _ hx hi hq)
        . exact hx.elim
      . cases hc
    . cases hc
  . cases hc
 |block id c ih=>
  intro hr0 k k' x hc Q' Q vars h a w hx hi hq;have hp:=a4e hx hi;clear hx hi;obtain⟨x,h,hnf,hst,hx,hi⟩:=hp;rw[←hst]at hc;simp only[E4]at hc;split at hc
  . rename_i x1 k1 h1;simp only[p9,s6]at hc;obtain⟨hc,rfl⟩:=hc;obtain⟨x1,rfl,rfl⟩:=c7p hnf hc.symm;refine wpIn_block (ih hr0 _ _ x1 h1 _ _ _ _ _ _ hx hi fun e vars h a w hi he=>?_);cases e with
    |normal=>exact hq .normal _ _ _ _ hi he
    |exit i=>
     simp only[xin]at he;show Exit.inBlock id Q (.exit i) a w;simp only[Exit.inBlock];split at he
     . rename_i e;rw[if_pos e];exact hq .normal _ _ _ _ hi he
     . rename_i e;rw[if_neg e];exact hq (.exit i) _ _ _ _ hi he
    |ret=>exact hq .ret _ _ _ _ hi he
  . cases hc
 |loop c ih=>
  intro hr0 k k' x hc Q' Q vars h a w hx hi hq;have hp:=a4e hx hi;clear hx hi;obtain⟨x,h,hnf,hst,hx,hi⟩:=hp;rw[←hst]at hc;simp only[E4]at hc;split at hc
  . rename_i x1 k1 h1;simp only[p9,s6]at hc;obtain⟨hc,rfl⟩:=hc;obtain⟨x1,rfl,rfl⟩:=c3i hnf hc.symm;obtain⟨n,hx⟩:=hx;refine wpIn_loop_rounds n ?_
    induction n generalizing vars h a w with
    |zero=>exact hx.elim
    |succ n ihn=>
     refine ih hr0 _ _ x1 h1 _ _ _ _ _ _ hx hi fun e vars h a w hi he=>?_;cases e with
     |normal=>exact ihn _ _ _ _ hi he
     |exit id=>exact hq (.exit id) _ _ _ _ hi he
     |ret=>exact hq .ret _ _ _ _ hi he
  . cases hc
 |scope c ih=>
  intro hr0 k k' x hc Q' Q vars h a w hx hi hq;have hp:=a4e hx hi;clear hx hi;obtain⟨x,h,hnf,hst,hx,hi⟩:=hp;rw[←hst]at hc;simp only[E4]at hc;refine b3S (ih hr0 _ _ _ hc _ _ _ _ _ _ hx hi fun e vars h a w hi he=>?_);cases e with
  |normal=>exact hq .normal _ _ _ _ hi he
  |exit id=>exact hq (.exit id) _ _ _ _ hi he
  |ret=>exact hq .ret _ _ _ _ hi he
 |rangeFunc=>intro hr0;simp[Y4]at hr0
 |_=>
  intro hr0 k k' x hc;simp only[E4]at hc;cases hc
end
end
theorem X0.mono{m m':Nat}{w w':World}(h:X0 m w w')(hm:m'≤m):X0 m' w w':=⟨h.os,h.tape,h.output,h.size,h.cells,fun b hb=>h.low b i9⟩
def KD(w w':World):Prop:=∀k:Nat,w.heap[k]?=some (.deferred (some []))→w'.heap[k]?=some (.deferred (some []))
theorem KD.refl(w:World):KD w w:=fun _ h=>h
theorem KD.trans{a b c:World}(h:KD a b)(k:KD b c):KD a c:=fun i x=>k i (h i x)
theorem KD.bl{B:Nat}{w w':World}(b:Bl B w w'):KD w w':=fun k h=>b.same k _ h rfl
theorem KD.put{l:Nat}{w:World}{r:Loop}{o:Obj}(h:w.heap[l]?=some (.loop r)):KD w (w.putObj l o):=fun k hk=>(b4E fun e=>by subst e;rw[h]at hk;cases hk).trans hk
theorem a0k.kd{m:Nat}{ds:List Deferred}{w w':World}(h:a0k m ds w)(k:KD w w'):a0k m ds w':=by obtain⟨Ds,h1,h2,h3⟩:=h;exact⟨Ds,h1,h2,fun D hD=>⟨(h3 D hD).1,k D (h3 D hD).2⟩⟩
section
variable{P:Program}{B:Nat}{Z0:Nat→Prop}{vs:List Nat}{N:Nat}{G:Gh}{h:l5}{w:World}
theorem b7z(hn:vs.Nodup):∀(ps:List Tmp) (va:List Value) (args vars:List PV) (a:Act),args.length=ps.length→va.length=args.length→(∀(i:Nat) c,args[i]?=some c→∃u,va[i]?=some u∧j8 G h w D u c)→
 (∀t∈ps,t<a.tmps.size)→V9 G h w vs vars a→
 V9 G h w vs (a5U vars (ps.map fun t=>vs.idxOf? t) args) {a with tmps:=(ps.zip va).foldl (fun t x=>t.setIfInBounds x.1 x.2) a.tmps}∧((ps.zip va).foldl (fun t x=>t.setIfInBounds x.1 x.2) a.tmps).size=a.tmps.size
 | [],va,args,vars,a,h1,h2,h3,h4,h5=>by
  have:args=[]:=List.eq_nil_of_length_eq_zero h1;subst this;exact⟨h5,rfl⟩
 |p::ps,[],args,vars,a,h1,h2,h3,h4,h5=>by simp at h1 h2;omega
 |p::ps,v::va,[],vars,a,h1,h2,h3,h4,h5=>by simp at h1
 |p::ps,v::va,c::args,vars,a,h1,h2,h3,h4,h5=>by obtain⟨u,g1,g2⟩:=h3 0 c rfl;simp at g1;subst g1;have hp:=V9.put (Ext.refl (G:=G) (h:=h) (w:=w)) hn h5 (dst:=some p) (v:=v) (p:=c) (fun t ht=>by cases ht;exact h4 _ a2W) g2;have:=b7z hn ps va args (K6 vars (vs.idxOf? p) c) (a.put (some p) v) (by simpa using h1) (by simpa using h2) (fun i c hc=>by simpa using h3 (i+1) c (by simpa using hc)) (fun t ht=>by rw[a8i];exact h4 t (a5g _ ht)) hp;rw[a8i]at this;exact this
def stc:Option O6→LoopState×Option Code
 |none=>(.ready,none)
 |some .ret=>(.done,some .ret)
 |some (.exit id)=>(.done,some (.exit id))
 |some .normal=>(.done,some .skip)
theorem c0B(p:Option O6):(stc p).2.isNone=p.isNone∧(if(stc p).2.isNone then LoopState.ready else LoopState.done)=(stc p).1∧(stc p).1≠ .busy:=by
 rcases p with _|e
 . exact⟨rfl,rfl,by simp[stc]⟩
 . cases e<;>exact⟨rfl,rfl,by simp[stc]⟩
theorem c5p{f:FuncId}{vc args:Array Value}(hf:a1P P f=true):(invoke (.fn (.func f) vc) args).run P w=.ok (.enter f (args++vc)) w:=by
 unfold a1P at hf;split at hf
 . rename_i fn hfn;simp only[E6,a6C]at hf;obtain⟨h1,h2⟩:=hf;have h3:¬fn.body=none:=fun e=>(by rw[e]at h2;cases h2);have h4:¬fn.name= "runtime.NumGoroutine" :=(by simpa using h1);simp[invoke,callFunc,hfn,h3,h4]
 . cases hf
def b9D{B:Nat}(W0:M3 B)(gp:PV)(G1:Gh)(h1:l5)(w1:World)(l:Nat)(hm1:W0.m≤w1.heap.size)(hl:l<w1.heap.size)(st:Loop):M3 B:=
 ⟨w1.heap.size,fun _ G' h' w'=>Ext G1 h1 w1 G' h' w'∧W0.psi gp G' h' w'∧w'.heap[l]?=some (.loop st)∧KD w1 w'∧w1.heap.size≤w'.heap.size,fun h=>h.2.2.2.2,
  fun h x b=>⟨h.1.trans x,W0.step h.2.1 x b,b.same _ _ h.2.2.1 rfl,h.2.2.2.1.trans (KD.bl b),S7 h.2.2.2.2 b.size⟩,
  fun r h s=>⟨h.1.trans (r.cells (by rw[s.size];exact m0 _) s.cells).2,W0.shut r h.2.1 (s.mono hm1),(s.low _ hl).trans h.2.2.1,
   fun k hk=>(s.low k (a2A.1 hk).1).trans (h.2.2.2.1 k hk),by rw[s.size];exact h.2.2.2.2⟩⟩
def a3I{B:Nat}(W0:M3 B)(gp:PV)(G:Gh)(h:l5)(W1:World)(l:Nat)(rec:LoopState→Option Code→Loop):Option O6→Gh→l5→World→Prop:=fun p G' h' w'=>
 Ext G h W1 G' h' w'∧W0.psi gp G' h' w'∧w'.heap[l]?=some (.loop (rec (stc p).1 (stc p).2))∧KD W1 w'
theorem c1E(hm:P.follows .mixedOrders=true)(hn:vs.Nodup){ps:Array Tmp}{a b:Code}{k k1 k2:Nat}{x y:C6}(ha:E4 P vs N k a=some (H7 x,k1))(hb:E4 P vs N k1 b=some (H7 y,k2))(hra:Y4 a=true)(hrb:Y4 b=true)(hps:ps.all (Nat.blt · N)=true)
 {W0:M3 B} {vars:List PV} {act:Act} (i3:act.tmps.size=N) {W1:World} {l:Nat} (hl:W0.m≤l) {fn:FuncId} {dfs:Nat} {rec:LoopState→Option Code→Loop} (hrec:rec=fun st pe=>{state:=st,pending:=pe,fn,tmps:=act.tmps,params:=ps,assign:=a,body:=b,defers:=dfs}) (hv:V9 G h W1 vs vars act)
 {args:List PV} {h1:l5} {k0:Option O6→l5→Prop} (hlen:args.length=(ps.toList.map fun t=>vs.idxOf? t).length) (hxa:G5 (fns P) x (a9w fun vs2 h2=>G5 (fns P) y (fun e _ h3=>k0 (a8B e) h3) vs2 h2) (a5U vars (ps.toList.map fun t=>vs.idxOf? t) args) h1)
 {G1:Gh} {w1:World} {va:Array Value} (r1:p7 B Z0 G1 h1 w1) (hψ:a3I W0 (V7 vs vars) G h W1 l rec none G1 h1 w1) (hva:I6 (j8 G1 h1 w1 D) va args) (n:Nat):YieldAt (fz none) n P l va w1 (ItR B Z0 (a3I W0 (V7 vs vars) G h W1 l rec) k0 G1 h1 w1):=by
 obtain⟨p1,p2,p3,p4⟩:=hψ;have hlen':args.length=ps.toList.length:=by simpa using hlen
 have hy:=run_yield (P:=P) (args:=va) p3 (by rw[hrec];have:=hva.1;simp[stc];simp at hlen';omega);rw[hrec]at hy;simp only[stc]at hy;refine⟨fn,_,a,b,hy,roundIn_of_wpIn (F:=fz none) trivial ?_⟩;show a.wpIn (fz (some l)) n P _ _ w1;have hpsN:∀t∈ps.toList,t<N:=fun t ht=>by have:=Array.all_eq_true'.1 hps t (by simpa using ht);simpa[a1I]using this
 have v0:V9 G1 h1 w1 vs vars {tmps:=act.tmps,defers:=[]}:=fun k s hk=>by obtain⟨v,q1,q2⟩:=hv k s hk;exact⟨v,q1,q2.ext p1⟩
 obtain⟨v1,v2⟩:=b7z hn ps.toList va.toList args vars {tmps:=act.tmps,defers:=[]} hlen' (by simpa using hva.1) (fun i c hc=>by obtain⟨u,q1,q2⟩:=hva.2 i c hc;exact⟨u,by simpa using q1,q2⟩) (fun t ht=>by have:=hpsN t ht;rw[←i3]at this;exact this) v0
 have hfold:((ps.zip va).foldl (fun tmps x=>match x with|(t,a)=>tmps.setIfInBounds t a) act.tmps)=(ps.toList.zip va.toList).foldl (fun t x=>t.setIfInBounds x.1 x.2) act.tmps:=by rw[←Array.foldl_toList,Array.toList_zip]
 rw[hfold];have hlw:l<w1.heap.size:=(a2A.1 p3).1;have hm1:W0.m≤w1.heap.size:=i9;have hput:∀{w1:World} {r:Loop} (o:Loop),w1.heap[l]?=some (.loop r)→X0 W0.m w1 (w1.putObj l (.loop o)):=fun o h=>X0.put h rfl hl;refine b2d (W0:=b9D W0 (V7 vs vars) G1 h1 w1 l hm1 hlw (rec .ready none)) (FN:=fns P) (ρ:=some l) hm hn rfl rfl a6f a hra k k1 x ha _ _ _ _ _ _ hxa ⟨G1,r1,v1,by rw[v2];exact i3,a0k.nil,Ext.refl,p2,p3,KD.refl _,m0 _⟩ ?_;intro e vars1 h2 a2 w2 hi2 he;cases e with
 |exit id=>exact he.elim
 |ret=>exact he.elim
 |normal=>
  obtain⟨G2,s1,s2,s3,s4,t1,t2,t3,t4,t5⟩:=hi2;refine⟨_,run_beginRound t3 (by rw[hrec]),?_⟩;show b.wpIn (fz (some l)) n P _ a2 _;obtain⟨w2',hw2'⟩:∃w2',w2.putObj l (.loop {rec .ready none with state:=.busy})=w2':=⟨_,rfl⟩
  have hs:X0 W0.m w2 w2':=by grind
  have hkd:KD w2 w2':=by rw[←hw2'];exact KD.put t3
  obtain⟨c1,cx⟩:=s1.cells (w':=w2') (by rw[hs.size];exact m0 _) hs.cells;rw[hw2'];refine b2d (W0:=b9D W0 (V7 vs vars) G1 h1 w1 l hm1 hlw {rec .ready none with state:=.busy}) (FN:=fns P) (ρ:=some l) hm hn rfl rfl a6f b hrb k1 k2 y hb _ _ _ _ _ _ he ⟨G2,c1,fun k s hk=>by obtain⟨v,q1,q2⟩:=s2 k s hk;exact⟨v,q1,q2.ext cx⟩,s3,s4.kd hkd,t1.trans cx,W0.shut s1 t2 hs,by rw[←hw2'];exact World.putObj_heap_same (a2A.1 t3).1,t4.trans hkd,by rw[hs.size];exact t5⟩ ?_
  intro e vars2 h3 a3 w3 hi3 he3;obtain⟨G3,u1,u2,u3,u4,e1,e2,e3,e4,e5⟩:=hi3;have fin:∀p,k0 p h3→∃v w',(Instr.endRound l (stc p).2).run P w3=.ok v w'∧ItR B Z0 (a3I W0 (V7 vs vars) G h W1 l rec) k0 G1 h1 w1 (.returned v) w':=fun p hk=>by
   obtain⟨f1,f2,f3⟩:=c0B p;have hr:=run_endRound (P:=P) (stc p).2 e3;obtain⟨w4,hw4⟩:∃w4,w3.putObj l (.loop (rec (stc p).1 (stc p).2))=w4:=⟨_,rfl⟩
   have hs4:X0 W0.m w3 w4:=(by grind);have hkd4:KD w3 w4:=(by rw[←hw4];exact KD.put e3);obtain⟨d1,dx⟩:=u1.cells (w':=w4) (by rw[hs4.size];exact m0 _) hs4.cells;refine⟨_,w4,by rw[hr,←hw4,f2,hrec],p,h3,G3,by rw[f1],hk,d1,e1.trans dx,?_,by rw[hs4.size];exact e5,fun m ds hd=>hd.kd (e4.trans hkd4)⟩;exact⟨p1.trans (e1.trans dx),W0.shut u1 e2 hs4,by rw[←hw4];exact World.putObj_heap_same (a2A.1 e3).1,p4.trans (e4.trans hkd4)⟩
  cases e with
  |normal=>exact fin none he3
  |ret=>exact fin (some .ret) he3
  |exit id=>exact fin (some (.exit id)) he3
theorem b7X(hm:P.follows .mixedOrders=true)(hn:vs.Nodup){g:Operand}{ps:Array Tmp}{a b:Code}{k k1 k2:Nat}{x y:C6}{gd:s8}(ha:E4 P vs N k a=some (H7 x,k1))(hb:E4 P vs N k1 b=some (H7 y,k2))(hg:a0h vs [] 0 g=some gd)(hra:Y4 a=true)(hrb:Y4 b=true)(hps:ps.all (Nat.blt · N)=true)
 {W0:M3 B} {nn:Nat} {Q':I9} {Q:Exit→Act→World→Prop} {vars:List PV} {act:Act} (hx:G5 (fns P) (.rfor gd (ps.toList.map fun t=>vs.idxOf? t) x y) Q' vars h) (hi:M9 B Z0 W0 vs N vars h act w) (hq:b0M B Z0 W0 vs N Q' Q):(Code.rangeFunc g ps a b).wpIn (fz none) nn P Q act w:=by
 obtain⟨G,i1,i2,i3,i4,i5⟩:=hi;simp only[G5]at hx;obtain⟨f,cap,hv,hcal,hone,hit⟩:=(show IT P _ _ _ _ from hx)
 have hgv:=b0l hg i2;rw[hv]at hgv;unfold D at hgv;unfold j8 at hgv;obtain⟨vf,vc,hgv,hf0,hc0⟩:=hgv;have hvf:vf= #[]:=b1N (by simpa using hf0.1);subst hvf;refine wpIn_rangeFunc fun fn hfn=>?_;obtain⟨rec,hrec⟩:∃rec:LoopState→Option Code→Loop,rec=fun st pe=>{state:=st,pending:=pe,fn,tmps:=act.tmps,params:=ps,assign:=a,body:=b,defers:=w.heap.size}:=⟨_,rfl⟩
 obtain⟨W1,hW1⟩:∃W1,(w.alloc (.deferred (some []))).alloc (.loop (rec .ready none))=W1:=⟨_,rfl⟩
 have hL1:W1.heap[w.heap.size+1]?=some (.loop (rec .ready none)):=by rw[←hW1];have:=World.alloc_heap_new (w.alloc (.deferred (some []))) (.loop (rec .ready none));rwa[World.size_alloc]at this
 have hK1:W1.heap[w.heap.size]?=some (.deferred (some [])):=by rw[←hW1];exact(Below.heap_alloc _ _ _ k7).trans (World.alloc_heap_new w _)
 have hsz1:W1.heap.size=w.heap.size+2:=by rw[←hW1];simp
 have hbl1:Bl B w W1:=by rw[←hW1];exact((Bl.refl B w).alloc i1.base _).alloc (by have:=i1.base;simp;omega) _
 have hcell1:∀b,V6 w b→W1.heap[b]?=w.heap[b]?:=fun b hb=>by rw[←hW1];exact(Below.heap_alloc _ _ _ (by have:=hb.lt;simp;omega)).trans (Below.heap_alloc _ _ _ hb.lt)
 obtain⟨j1,jx⟩:=i1.cells (w':=W1) hbl1.size hcell1;have j5:=W0.step i5 jx hbl1;have hmw:=W0.ms i5;obtain⟨l,hl⟩:∃l,w.heap.size+1=l:=⟨_,rfl⟩
 rw[hl]at hL1;have hstep:∀{p:Option O6} {G2:Gh} {h2:l5} {w2:World} {G':Gh} {h':l5} {w':World},a3I W0 (V7 vs vars) G h W1 l rec p G2 h2 w2→Ext G2 h2 w2 G' h' w'→Bl B w2 w'→a3I W0 (V7 vs vars) G h W1 l rec p G' h' w':=by intro p G2 h2 w2 G' h' w' hp hx hb';exact⟨hp.1.trans hx,W0.step hp.2.1 hx hb',hb'.same _ _ hp.2.2.1 rfl,hp.2.2.2.trans (KD.bl hb')⟩
 have hshut:∀{Z1:Nat→Prop} {p:Option O6} {G2:Gh} {h2:l5} {w1 w2:World},p7 B Z1 G2 h2 w1→a3I W0 (V7 vs vars) G h W1 l rec p G2 h2 w1→X0 W1.heap.size w1 w2→a3I W0 (V7 vs vars) G h W1 l rec p G2 h2 w2:=by intro Z1 p G2 h2 w1 w2 hr hp hs;exact⟨hp.1.trans (hr.cells (by rw[hs.size];exact m0 _) hs.cells).2,W0.shut hr hp.2.1 (hs.mono i9),(hs.low _ i9).trans hp.2.2.1,fun k hk=>(hs.low k (a2A.1 hk).1).trans (hp.2.2.2 k hk)⟩
 have hΨ0:a3I W0 (V7 vs vars) G h W1 l rec none G h W1:=⟨Ext.refl,j5,hL1,KD.refl _⟩
 have hv1:V9 G h W1 vs vars act:=fun k s hk=>by obtain⟨v,q1,q2⟩:=i2 k s hk;exact⟨v,q1,q2.ext jx⟩
 have hvc:I6 (j8 G h W1 D) vc cap:=(a6T hc0 hone).mono fun _ _ q=>q.ext jx;have hY:∀{args:List PV} {h1:l5} {k0:Option O6→l5→Prop},(args.length=(ps.toList.map fun t=>vs.idxOf? t).length∧G5 (fns P) x (a9w fun vs2 h2=>G5 (fns P) y (fun e _ h3=>k0 (a8B e) h3) vs2 h2) (a5U vars (ps.toList.map fun t=>vs.idxOf? t) args) h1)→
  ∀{G1:Gh} {w1:World} {va:Array Value},p7 B Z0 G1 h1 w1→a3I W0 (V7 vs vars) G h W1 l rec none G1 h1 w1→I6 (j8 G1 h1 w1 D) va args→∀n,YieldAt (fz none) n P l va w1 (ItR B Z0 (a3I W0 (V7 vs vars) G h W1 l rec) k0 G1 h1 w1):=by
  intro args h1 k0 hy G1 w1 va r1 hψ hva n;exact c1E hm hn ha hb hra hrb hps i3 i9 hrec hv1 hy.1 hy.2 r1 hψ hva n
 have hcalls:=hit B Z0 G W1 vc l (a3I W0 (V7 vs vars) G h W1 l rec) j1 hvc hstep hshut hY hΨ0;refine⟨l,[{target:=.collected w.heap.size,args:= #[]}],W1,{target:=.fn (.func f) vc,args:= #[.func (.yield l) #[] #[]]},W1,f,#[.func (.yield l) #[] #[]]++vc,W1,?_,?_,fun _ _=>trivial,?_,fun e=>(by cases e),?_⟩
 . rw[←hW1,hrec,←hl];exact run_enterLoop_outer _ _ _ _ _
 . simp only[resolve,hgv];simp[go_sem]
 . exact c5p hcal
 refine a4i.2 (Calls.mono hcalls ?_);rintro e w' ⟨u,p,h',G',rfl,hK,r1,x1,p1,p2,p3,p4⟩;have hend:=run_endLoop (P:=P) p3 (by rw[hrec];exact(c0B p).2.2);obtain⟨w4,hw4⟩:∃w4,w'.putObj l (.loop {rec (stc p).1 (stc p).2 with state:=.exhausted})=w4:=⟨_,rfl⟩
 have hs4:X0 W0.m w' w4:=by rw[←hw4];exact X0.put p3 rfl i9
 have hkd4:KD w' w4:=by rw[←hw4];exact KD.put p3
 obtain⟨d1,dx⟩:=r1.cells (w':=w4) (by rw[hs4.size];exact m0 _) hs4.cells;have hi':M9 B Z0 W0 vs N vars h' {act with defers:=[{target:=.collected w.heap.size,args:= #[]}]++act.defers} w4:=by
  refine⟨G',d1,fun k s hk=>?_,i3,?_,W0.shut r1 p2 hs4⟩
  . obtain⟨v,q1,q2⟩:=i2 k s hk;exact⟨v,q1,((q2.ext jx).ext p1).ext dx⟩
  . obtain⟨Ds,m1,m2,m3⟩:=i4;refine⟨w.heap.size::Ds,a4H.2 ⟨fun hm=>?_,m1⟩,by simp[m2],fun D' hD'=>?_⟩
    . grind
    . rcases Z5.1 hD' with rfl|hD'
      . exact⟨hmw,hkd4 _ (p4 _ hK1)⟩
      . exact⟨(m3 D' hD').1,hkd4 _ (p4 _ (KD.bl hbl1 _ (m3 D' hD').2))⟩
 refine⟨_,w4,by rw[hend,hw4],?_⟩;rw[hrec];rcases p with _|e
 . exact hq .normal _ _ _ _ hi' hK
 . cases e with
   |normal=>exact wpIn_skip (hq .normal _ _ _ _ hi' hK)
   |ret=>exact wpIn_ret (hq .ret _ _ _ _ hi' hK)
   |exit id=>exact wpIn_exit (hq (.exit id) _ _ _ _ hi' hK)
theorem b9c:∀{c:Code} {k k':Nat} {x:C6},E4 P vs N k c=some (x,k')→H7 x=x:=by
 intro c
 induction c with
 |region id ops d=>
  intro k k' x hc;simp only[E4]at hc;split at hc
  . cases hc;rfl
  . cases hc
 |seq a b iha ihb=>
  intro k k' x hc;simp only[E4]at hc;split at hc
  . rename_i h1;split at hc
    . rename_i h2;cases hc;simp only[H7,iha h1,ihb h2]
    . cases hc
  . cases hc
 |cond cd a b iha ihb=>
  intro k k' x hc;simp only[E4]at hc;split at hc
  . rename_i h1;split at hc
    . rename_i h2;split at hc
      . cases hc;simp only[H7,iha h1,ihb h2]
      . cases hc
    . cases hc
  . cases hc
 |block id b ih=>
  intro k k' x hc;simp only[E4]at hc;split at hc
  . rename_i h1;cases hc;simp only[H7,ih h1]
  . cases hc
 |loop b ih=>
  intro k k' x hc;simp only[E4]at hc;split at hc
  . rename_i h1;cases hc;simp only[H7,ih h1]
  . cases hc
 |scope b ih=>intro k k' x hc;exact ih (show E4 P vs N k b=_ from hc)
 |rangeFunc g ps a b iha ihb=>
  intro k k' x hc;simp only[E4]at hc;split at hc
  . rename_i h1;split at hc
    . rename_i h2;split at hc
      . split at hc
        . cases hc;simp only[H7,iha h1,ihb h2]
        . cases hc
      . cases hc
    . cases hc
  . cases hc
 |skip=>intro k k' x hc;simp only[E4,p9,s6]at hc;obtain⟨rfl,_⟩:=hc;rfl
 |label=>intro k k' x hc;simp only[E4,p9,s6]at hc;obtain⟨rfl,_⟩:=hc;rfl
 |exit=>intro k k' x hc;simp only[E4,p9,s6]at hc;obtain⟨rfl,_⟩:=hc;rfl
 |ret=>intro k k' x hc;simp only[E4,p9,s6]at hc;obtain⟨rfl,_⟩:=hc;rfl
 |_=>intro k k' x hc;simp only[E4]at hc;cases hc
theorem c5C{W0:M3 B}{nn:Nat}(hm:P.follows .mixedOrders=true)(hn:vs.Nodup):∀(c:Code) (k k':Nat) (x:C6),E4 P vs N k c=some (x,k')→∀(Q':I9) (Q:Exit→Act→World→Prop) (vars:List PV) (h:l5) (a:Act) (w:World),
 G5 (fns P) x Q' vars h→M9 B Z0 W0 vs N vars h a w→b0M B Z0 W0 vs N Q' Q→c.wpIn (fz none) nn P Q a w:=by
 intro c
 induction c with
 |skip=>
  intro k k' x hc Q' Q vars h a w hx hi hq;simp only[E4,p9,s6]at hc;obtain⟨rfl,rfl⟩:=hc;exact wpIn_skip (hq .normal _ _ _ _ hi hx)
 |label l=>
  intro k k' x hc Q' Q vars h a w hx hi hq;simp only[E4,p9,s6]at hc;obtain⟨rfl,rfl⟩:=hc;exact wpIn_label (hq .normal _ _ _ _ hi hx)
 |exit id=>
  intro k k' x hc Q' Q vars h a w hx hi hq;simp only[E4,p9,s6]at hc;obtain⟨rfl,rfl⟩:=hc;exact wpIn_exit (hq (.exit id) _ _ _ _ hi hx)
 |ret=>
  intro k k' x hc Q' Q vars h a w hx hi hq;simp only[E4,p9,s6]at hc;obtain⟨rfl,rfl⟩:=hc;exact wpIn_ret (hq .ret _ _ _ _ hi hx)
 |region id ops d=>
  intro k k' x hc Q' Q vars h a w hx hi hq;simp only[E4]at hc;split at hc
  . rename_i xs k1 hc0;cases hc;obtain⟨hsi,hx⟩:=hx;rw[show ops=ops.toList.toArray by simp];cases d with
    |false=>exact b3M rfl rfl a6f hn hc0 hsi hx (fun st a w hi hq'=>hq .normal _ _ _ _ hi hq') hi
    |true=>exact b2f hm rfl rfl a6f hn hc0 hsi hx (fun st a w hi hq'=>hq .normal _ _ _ _ hi hq') hi
  . cases hc
 |seq c1 c2 ih1 ih2=>
  intro k k' x hc Q' Q vars h a w hx hi hq;simp only[E4]at hc;split at hc
  . rename_i x1 k1 h1;split at hc
    . rename_i x2 k2 h2;cases hc;refine wpIn_seq (ih1 _ _ _ h1 _ _ _ _ _ _ hx hi fun e vars h a w hi he=>?_);cases e with
      |normal=>exact ih2 _ _ _ h2 _ _ _ _ _ _ he hi hq
      |exit id=>exact hq (.exit id) _ _ _ _ hi he
      |ret=>exact hq .ret _ _ _ _ hi he
    . cases hc
  . cases hc
 |cond cd c1 c2 ih1 ih2=>
  intro k k' x hc Q' Q vars h a w hx hi hq;simp only[E4]at hc;split at hc
  . rename_i x1 k1 h1;split at hc
    . rename_i x2 k2 h2;split at hc
      . rename_i dd hdd;cases hc;obtain⟨G,i1,i2,i3⟩:=id hi;have hr:=b0l hdd i2;simp only[G5]at hx;split at hx
        . rename_i he;rw[he]at hr;exact wpIn_cond_true (a1c hr) (ih1 _ _ _ h1 _ _ _ _ _ _ hx hi hq)
        . rename_i he;rw[he]at hr;exact wpIn_cond_false (a1c hr) (ih2 _ _ _ h2 _ _ _ _ _ _ hx hi hq)
        . exact hx.elim
      . cases hc
    . cases hc
  . cases hc
 |block id c ih=>
  intro k k' x hc Q' Q vars h a w hx hi hq;simp only[E4]at hc;split at hc
  . rename_i x1 k1 h1;cases hc;refine wpIn_block (ih _ _ _ h1 _ _ _ _ _ _ hx hi fun e vars h a w hi he=>?_);cases e with
    |normal=>exact hq .normal _ _ _ _ hi he
    |exit i=>
     simp only[xin]at he;show Exit.inBlock id Q (.exit i) a w;simp only[Exit.inBlock];split at he
     . rename_i e;rw[if_pos e];exact hq .normal _ _ _ _ hi he
     . rename_i e;rw[if_neg e];exact hq (.exit i) _ _ _ _ hi he
    |ret=>exact hq .ret _ _ _ _ hi he
  . cases hc
 |loop c ih=>
  intro k k' x hc Q' Q vars h a w hx hi hq;simp only[E4]at hc;split at hc
  . rename_i x1 k1 h1;cases hc;obtain⟨n,hx⟩:=hx;refine wpIn_loop_rounds n ?_
    induction n generalizing vars h a w with
    |zero=>exact hx.elim
    |succ n ihn=>
     refine ih _ _ _ h1 _ _ _ _ _ _ hx hi fun e vars h a w hi he=>?_;cases e with
     |normal=>exact ihn _ _ _ _ hi he
     |exit id=>exact hq (.exit id) _ _ _ _ hi he
     |ret=>exact hq .ret _ _ _ _ hi he
  . cases hc
 |scope c ih=>
  intro k k' x hc Q' Q vars h a w hx hi hq;simp only[E4]at hc;refine b3S (ih _ _ _ hc _ _ _ _ _ _ hx hi fun e vars h a w hi he=>?_);cases e with
  |normal=>exact hq .normal _ _ _ _ hi he
  |exit id=>exact hq (.exit id) _ _ _ _ hi he
  |ret=>exact hq .ret _ _ _ _ hi he
 |rangeFunc g ps a b iha ihb=>
  intro k k' x hc Q' Q vars h act w hx hi hq;simp only[E4]at hc;split at hc
  . rename_i x1 k1 h1;split at hc
    . rename_i x2 k2 h2;split at hc
      . rename_i gd hgd;split at hc
        . rename_i hcond;cases hc;simp only[E6]at hcond;exact b7X hm hn (by rw[b9c h1];exact h1) (by rw[b9c h2];exact h2) hgd hcond.1.1 hcond.1.2 hcond.2 hx hi hq
        . cases hc
      . cases hc
    . cases hc
  . cases hc
 |_=>
  intro k k' x hc;simp only[E4]at hc;cases hc
end
theorem a8A{x:PV}(h:∀cs,x≠ .agg cs):l6 x=[x]:=by cases x<;>first|rfl|exact absurd rfl (h _)
theorem c3m{x:PV}(h:∀cs,x≠ .tup cs):a0m x=[x]:=by cases x<;>first|rfl|exact absurd rfl (h _)
theorem a8T(lk:D6)(c:PV):(∀cs,rvC lk c≠ .agg cs)∧∀cs,rvC lk c≠ .tup cs:=by
 cases c<;>simp only[rvC]<;>(try (refine⟨fun cs e=>?_,fun cs e=>?_⟩<;>cases e;done))
 . grind
 . grind
theorem a9g(lk:D6)(c:PV):(∃cs,c=.agg cs)∨((∀cs,c≠ .agg cs)∧rvE lk c=rvC lk c):=by
 cases c
 case agg cs=>exact .inl ⟨cs,rfl⟩
 all_goals exact .inr (And.intro (fun cs e=>absurd e k7) rfl)
theorem b9k(lk:D6)(q:PV):B5 (rvV lk q)=(B5 q).map (rvC lk):=by
 have h1:∀c,l6 (rvE lk c)=(l6 c).map (rvC lk):=fun c=>by
  rcases a9g lk c with⟨cs,rfl⟩|⟨h,e⟩
  . rfl
  . rw[e,a8A (a8T lk c).1,a8A h];rfl
 have h2:∀c,a0m (rvE lk c)=[rvE lk c]:=fun c=>by
  rcases a9g lk c with⟨cs,rfl⟩|⟨h,e⟩
  . rfl
  . rw[e,c3m (a8T lk c).2]
 unfold B5;cases q<;>simp only[rvV]
 case tup vs=>simp only[a0m,List.flatMap_map,List.map_flatMap,h1]
 all_goals
  rw[h2];simp only[a0m,a2C,a9A,a0E,h1]
section
variable{P:Program}{B:Nat}{Z0:Nat→Prop}{G G':Gh}{h h':l5}{w w':World}
def Z9(cells:List PV)(lk:D6)(p:Nat):Option Nat:=match cells[p]? with
 |some (.own k g gl s o l)=>(match rvC lk (.own k g gl s o l)with
  | .uslc _=>some k
  |_=>none)
 |_=>none
def Gh.out(G:Gh)(J:Nat→Option Nat):Gh:=
 {β:=fun key=>match J key.1 with|some k=>G.β (k,key.2)|none=>0
  R:=fun key=>match J key.1 with|some k=>G.R (k,key.2)|none=>False
  γ:=fun key=>match J key.1 with|some k=>G.γ (k,key.2)|none=>0
  σ:=fun key=>match J key.1 with|some k=>G.σ (k,key.2)|none=>0
  Z:=G.Z}
theorem b7y{lk:D6}{c:PV}{es:List PV}(h:rvC lk c=.uslc es):∃k g s ver e0 l,c=.own k g e0.length s 0 l∧l≤e0.length∧es=e0.take l∧lk k=(g,.arr s ver false e0)∧e0.all D4=true:=by
 cases c<;>simp only[rvC]at h<;>(try (cases h;done))
 case mapv k g=>
  split at h
  . split at h<;>cases h
  . cases h
 case own k g gl s o l=>
  split at h
  . rename_i g' s' ver fr es' hlk;split at h
    . rename_i hc;obtain⟨rfl,rfl,rfl,rfl,h6,h7⟩:=hc;split at h
      . grind
      . grind
    . cases h
  . cases h
theorem c0F:∀{cells:List PV},(cells.filterMap fun c=>match c with| .own k _ _ _ _ _=>some k|_=>none).Nodup→∀{i j k g gl s o l g' gl' s' o' l':Nat},cells[i]?=some (.own k g gl s o l)→cells[j]?=some (.own k g' gl' s' o' l')→i=j
 | [],_,i,j,_,_,_,_,_,_,_,_,_,_,_,hi,_=>by simp at hi
 |c::cells,hn,i,j,k,g,gl,s,o,l,g',gl',s',o',l',hi,hj=>by
  have hin:∀{m g gl s o l:Nat},cells[m]?=some (.own k g gl s o l)→k∈cells.filterMap fun c=>match c with| .own k _ _ _ _ _=>some k|_=>none:=fun hm=>a9B.2 ⟨_,C8 hm,rfl⟩
  have tail:(cells.filterMap fun c=>match c with| .own k _ _ _ _ _=>some k|_=>none).Nodup:=by grind
  cases i with
  |zero=>
   cases j with
   |zero=>rfl
   |succ j=>
    exfalso;simp at hi;subst hi;simp only[List.filterMap_cons]at hn;exact(a4H.1 hn).1 (hin (by simpa using hj))
  |succ i=>
   cases j with
   |zero=>
    exfalso;simp at hj;subst hj;simp only[List.filterMap_cons]at hn;exact(a4H.1 hn).1 (hin (by simpa using hi))
   |succ j=>
    have:=c0F tail (show cells[i]?=some _ by simpa using hi) (show cells[j]?=some _ by simpa using hj);omega
theorem b4C{szs:List Nat}:∀{cells:List PV} {q:Nat},a3J szs q cells=true→∀{i k g gl s o l:Nat},cells[i]?=some (.own k g gl s o l)→szs.getD (q+i) 0=s
 | [],_,_,i,_,_,_,_,_,_,hi=>by simp at hi
 |c::cells,q,h,i,k,g,gl,s,o,l,hi=>by
  have tail:a3J szs (q+1) cells=true:=by cases c<;>simp only[a3J,E6]at h<;>first|exact h|exact h.2
  cases i with
  |zero=>
   simp at hi;subst hi;simp only[a3J,E6,beq_iff_eq]at h;exact h.1
  |succ i=>
   have:=b4C tail (i:=i) (by simpa using hi);rw[←this,show q+(i+1)=q+1+i by omega]
theorem c7v(hr:p7 B Z0 G h w){q:PV}{szs:List Nat}(hn:a3j (a8a q)=true)(hsz:a3J szs 0 (B5 q)=true):
 p7 B Z0 (G.out (Z9 (B5 q) (l8 h []))) (a0v szs (rvV (l8 h []) q)) w∧
 ∀{n:Nat} {u:Value} {p:Nat} {c:PV},(B5 q)[p]?=some c→j8 G h w n u c→j8 (G.out (Z9 (B5 q) (l8 h []))) (a0v szs (rvV (l8 h []) q)) w n u (M5 (a1b szs p) (fun _=>1) (rvC (l8 h []) c)):=by
 have hnd:=a5y hn;have hJ:∀{p k},Z9 (B5 q) (l8 h []) p=some k→∃g s ver es l,(B5 q)[p]?=some (.own k g es.length s 0 l)∧l≤es.length∧rvC (l8 h []) (.own k g es.length s 0 l)=.uslc (es.take l)∧h[k]?=some (g,.arr s ver false es)∧es.all D4=true:=fun{p k} hj=>by
  unfold Z9 at hj;split at hj
  . rename_i k' g gl s o l hc;split at hj
    . rename_i es he;cases hj;obtain⟨k2,g2,s2,ver,e0,l0,h1,h4,h5,h2,h3⟩:=b7y he;cases h1;exact⟨_,_,ver,e0,l,hc,h4,by rw[he,h5],T9 h2 k7,h3⟩
    . cases hj
  . cases hj
 have hJ':∀{p es},(B5 (rvV (l8 h []) q))[p]?=some (.uslc es)→∃k,Z9 (B5 q) (l8 h []) p=some k:=fun{p es} hp=>by rw[b9k,H5]at hp;obtain⟨c,hc,he⟩:=C5.1 hp;obtain⟨k,g,s,ver,e0,l0,rfl,_⟩:=b7y he;refine⟨k,?_⟩;unfold Z9;rw[hc];simp only;rw[he]
 have hres:∀{p k},Z9 (B5 q) (l8 h []) p=some k→∀{es g gl s l},(B5 q)[p]?=some (.own k g gl s 0 l)→rvC (l8 h []) (.own k g gl s 0 l)=.uslc es→(a0v szs (rvV (l8 h []) q))[p]?=some (1,.arr s 0 false es):=fun{p k} hj {es g gl s l} hc he=>by have:=a7X (szs:=szs) (r:=rvV (l8 h []) q) (p:=p) (es:=es) (by rw[b9k,H5,hc];simp[he]);rw[this];have:=b4C hsz hc;rw[U3]at this;rw[this]
 have hnew:∀{p k y},Z9 (B5 q) (l8 h []) p=some k→(G.out (Z9 (B5 q) (l8 h []))).β (p,y)=G.β (k,y)∧((G.out (Z9 (B5 q) (l8 h []))).R (p,y)↔G.R (k,y))∧(G.out (Z9 (B5 q) (l8 h []))).γ (p,y)=G.γ (k,y)∧(G.out (Z9 (B5 q) (l8 h []))).σ (p,y)=G.σ (k,y):=fun{p k y} hj=>by refine⟨?_,?_,?_,?_⟩<;>simp only[Gh.out,hj]
 have hRJ:∀{p y},(G.out (Z9 (B5 q) (l8 h []))).R (p,y)→∃k,Z9 (B5 q) (l8 h []) p=some k:=fun{p y} hR=>by
  cases hj:Z9 (B5 q) (l8 h []) p with
  |some k=>exact⟨k,rfl⟩
  |none=>simp only[Gh.out,hj]at hR
 have hob:∀{p g o},(a0v szs (rvV (l8 h []) q))[p]?=some (g,o)→o=.dead∨∃k g0 s ver es l,Z9 (B5 q) (l8 h []) p=some k∧h[k]?=some (g0,.arr s ver false es)∧es.all D4=true∧g=1∧o=.arr s 0 false (es.take l):=fun{p g o} ho=>by
  rcases b5j ho with rfl|⟨es,h1,rfl,h2⟩
  . exact .inl rfl
  . grind
 refine⟨⟨hr.base,hr.zo,hr.zb,?_,?_,?_,?_,?_⟩,?_⟩
 . rintro⟨p,y⟩ hR;obtain⟨k,hk⟩:=hRJ hR;obtain⟨a1,a2,_⟩:=hnew (y:=y) hk;rw[a1];exact hr.lv _ (a2.1 hR)
 . rintro p g o ho hlv y hR;obtain⟨k,hk⟩:=hRJ hR;obtain⟨a1,a2,_⟩:=hnew (y:=y) hk;obtain⟨g0,s,ver,es',l0,q1,_,q2,q3,q4⟩:=hJ hk;rw[a1];exact hr.nz k _ _ q3 rfl y (a2.1 hR)
 . intro p g o ho hfo y hR;rcases hob ho with rfl|⟨_,_,_,_,_,_,_,_,_,_,rfl⟩<;>cases hfo
 . rintro⟨p1,y1⟩ ⟨p2,y2⟩ h1 h2 he;obtain⟨k1,hk1⟩:=hRJ h1;obtain⟨k2,hk2⟩:=hRJ h2;obtain⟨a1,a2,_⟩:=hnew (y:=y1) hk1;obtain⟨b1,b2,_⟩:=hnew (y:=y2) hk2;have:=hr.inj _ _ (a2.1 h1) (b2.1 h2) i9;simp only[s6]at this;obtain⟨rfl,rfl⟩:=this;obtain⟨g0,s,ver,es',l0,q1,_⟩:=hJ hk1;obtain⟨g0',s',ver',es'',l0',r1,_⟩:=hJ hk2;rw[c0F hnd q1 r1]
 . rintro p g o ho;rcases hob ho with rfl|⟨k,g0,s,ver,es,l0,hk,hh,hnr,rfl,rfl⟩
   . trivial
   . have ho':=hr.ob k _ _ hh;unfold E5 at ho'⊢;obtain⟨a1,a2,a3,a4⟩:=hnew (y:=none) hk;rw[show(G.out (Z9 (B5 q) (l8 h []))).β (root p)=G.β (root k)from a1,show(G.out (Z9 (B5 q) (l8 h []))).γ (root p)=G.γ (root k)from a3];obtain⟨o1,o2,o3,o4,o5⟩:=ho';refine⟨o1,S7 (by grind) o2,o3,fun hR=>?_,fun hR=>by rw[o5 fun y=>hR (a2.2 y)];exact List.take_nil⟩;obtain⟨us,T,o6,o7,o8⟩:=o4 (a2.1 hR);refine⟨us,T,o6,o7,fun i e he=>?_⟩;have he:es[i]?=some e:=(by grind);obtain⟨o9,o10⟩:=o8 i e he;refine⟨o9,fun j c hc=>?_⟩;obtain⟨u,o11,o12⟩:=o10 j c hc;refine⟨u,o11,?_⟩;have hnr':(A6 c||I5 c)=true:=A8.1 (show(l6 e).all (fun c=>A6 c||I5 c)=true from A8.1 hnr e (C8 he)) c (C8 hc);cases c
     case uslc ns=>
      unfold F9 N7 at o12⊢;obtain⟨b1,b2,b3,b4⟩:=hnew (y:=some (i,j)) hk;rw[b1,b2,b3,b4];exact o12
     case nils=>
      unfold F9 at o12⊢;obtain rfl:=Z7 o12.2;exact⟨rfl,a4W⟩
     all_goals
      unfold F9 at o12⊢;exact⟨o12.1,a1y o12.1 (a4D (G:=G) (h:=h) (by simpa[I5]using hnr') o12.2)⟩
 . intro n u p c hp hc;have hundef:∀{x},x=PV.uu→j8 (G.out (Z9 (B5 q) (l8 h []))) (a0v szs (rvV (l8 h []) q)) w n u x:=fun e=>(by rw[e];exact L3);cases c<;>simp only[rvC]<;>(try exact hundef rfl)
   case bool=>simp only[M5];obtain rfl:=a1c hc;exact a1l
   case int=>simp only[M5];obtain rfl:=V0 hc;exact a0z
   case str=>simp only[M5];obtain rfl:=a2q hc;exact a4J
   case nils=>simp only[M5];obtain rfl:=Z7 hc;exact a4W
   case ne=>
    have hc':=j8.cell (m:=D) (by refine⟨?_,?_,?_⟩<;>intros<;>simp) hc;unfold D at hc';unfold j8 at hc';obtain⟨b,o,rfl⟩:=hc';simp only[M5];exact a1d (PR.U2.2 ⟨some ⟨b,o,none⟩,0,0,rfl,m0 _,C9 _,fun _=>rfl,fun i e he=>by simp at he⟩)
   case lit=>simp only[M5];cases n<;>(unfold j8 at hc⊢;exact hc)
   case slc es=>simp only[M5];exact a1d (a2M (G:=G) (h:=h) hc)
   case J9 ks vs=>simp only[M5];exact a7y (a9l (G:=G) (h:=h) hc)
   case fptr cs=>simp only[M5];exact a4P (a9t (G:=G) (h:=h) hc)
   case mapv k g=>
    split
    . rename_i g' ks vs hlk;split
      . rename_i hcond;obtain⟨rfl,hpm⟩:=hcond;simp only[M5];have hc':=j8.cell (m:=D) (by refine⟨?_,?_,?_⟩<;>intros<;>simp) hc;exact a7y (b7W (G:=G) hr (T9 hlk k7) hpm hc')
      . exact hundef rfl
    . exact hundef rfl
   case own k g gl s o l=>
    split
    . rename_i g' s' ver fr es hlk;split
      . rename_i hcond;obtain⟨rfl,rfl,rfl,rfl,hle,hnr⟩:=hcond;have fin:∀es2,es2=es.take l→rvC (l8 h []) (.own k g' es.length s' 0 l)=.uslc es2→fr=false→j8 (G.out (Z9 (B5 q) (l8 h []))) (a0v szs (rvV (l8 h []) q)) w n u (M5 (a1b szs p) (fun _=>1) (.uslc es2)):=fun es2 he2 hrv hfr=>by
         subst hfr;have hel:es2.length=l:=(by rw[he2,a1G];omega);have hj:Z9 (B5 q) (l8 h []) p=some k:=by unfold Z9;rw[hp];simp only;rw[hrv]
         have hh:=T9 hlk k7;have hq:=hres hj hp hrv;simp only[M5];rw[show(a1b szs p).1=p from rfl,show(a1b szs p).2=s' from by have:=b4C hsz hp;rw[U3]at this;exact this]
         have hc':=j8.cell (m:=D) (by refine⟨?_,?_,?_⟩<;>intros<;>simp) hc;refine j8.cell (n:=D) (by refine⟨?_,?_,?_⟩<;>intros<;>simp) ?_;unfold D at hc'⊢;unfold j8 at hc'⊢;obtain⟨a,c,q0,q1,q2,q3,gn,ob,q4,q5,q6⟩:=hc';refine⟨a,c,by rw[hel];exact q0,by rw[hel];exact q1,q2,q3,_,_,hq,m0 _,fun _ sz vr fr es' e9=>?_⟩;cases e9;refine⟨m0 _,fun _=>?_⟩;rw[hh]at q4;cases q4;obtain⟨_,q7⟩:=q6 rfl _ _ _ _ rfl;obtain⟨q8,q9,q10⟩:=q7 rfl;obtain⟨a1,a2,a3,a4⟩:=hnew (y:=none) hj;rw[show(G.out (Z9 (B5 q) (l8 h []))).β (root p)=G.β (root k)from a1,show(G.out (Z9 (B5 q) (l8 h []))).γ (root p)=G.γ (root k)from a3];refine⟨i9,fun hR=>?_,fun hR=>q10 fun y=>hR (a2.2 y)⟩;obtain⟨f,f1,f2,f3,f4⟩:=q9 (a2.1 hR);exact⟨f,f1,f2,i9,f4⟩
        split
        . rename_i hl;subst hl;split
          . rename_i hfr;subst hfr;simp only[M5];have hh:=T9 hlk k7;have hc':=j8.cell (m:=D) (by refine⟨?_,?_,?_⟩<;>intros<;>simp) hc;exact a1d (a2M (G:=G) (h:=h) (b2E hr hh hnr hc'))
          . rename_i hfr;obtain rfl:fr=false:=(by simpa using hfr);exact fin es J7.symm (by simp only[rvC,hlk];simp[hnr]) rfl
        . rename_i hl;split
          . exact hundef rfl
          . rename_i hfr;obtain rfl:fr=false:=(by simpa using hfr);exact fin _ rfl (by simp only[rvC,hlk];simp[hnr,hl,hle]) rfl
      . exact hundef rfl
    . exact hundef rfl
end
section
variable{n:Nat}{vs:List Nat}{lk:D6}{v:Value}{p r:PV}{vars l:List PV}{a:Act}{fn:Func}{rs:List (Nat×Option (Bool×Nat))}
theorem c0A(kz:Nat×Nat)(gen:Nat→Nat)(c:PV):(∀cs,M5 kz gen c≠ .agg cs)∧(∀cs,M5 kz gen c≠ .tup cs)∧∀f a b,M5 kz gen c≠ .fn f a b:=by cases c<;>simp[M5]
theorem c8O{ks:Nat→Nat×Nat}{gen:Nat→Nat}{q:Nat}{c:PV}(h:∀cs,c≠ .agg cs):a2c ks gen q c=M5 (ks q) gen c:=by cases c<;>first|rfl|exact absurd rfl (h _)
section
variable{P:Program}{B:Nat}{Z0:Nat→Prop}{G G':Gh}{h h':l5}{w w':World}
theorem b7j{ks:Nat→Nat×Nat}{gen:Nat→Nat}{cells:List PV}(hc:∀{n:Nat} {u:Value} {p:Nat} {c:PV},cells[p]?=some c→j8 G h w n u c→j8 G' h' w n u (M5 (ks p) gen (rvC lk c))){q:Nat}{c:PV}
 (hq:∀(i:Nat) x,(l6 c)[i]?=some x→cells[q+i]?=some x) (hv:j8 G h w n v c) (m:Nat):j8 G' h' w (m+1) v (a2c ks gen q (rvE lk c)):=by
 rcases a9g lk c with⟨cs,rfl⟩|⟨hn,e⟩
 . simp only[rvE,a2c];cases n with
   |zero=>unfold j8 at hv;exact hv.elim
   |succ n=>
    unfold j8 at hv⊢;obtain⟨vs,rfl,h1,h2⟩:=hv;refine⟨vs,rfl,by rw[b1Y];simpa using h1,fun i x hi=>?_⟩;rw[b1h,H5]at hi;obtain⟨c1,hc1,rfl⟩:=C5.1 hi;obtain⟨c0,hc0,rfl⟩:=C5.1 hc1;obtain⟨u,h3,h4⟩:=h2 i c0 hc0;exact⟨u,h3,(hc (hq i c0 hc0) h4).cell (c0A _ _ _)⟩
 . rw[e,c8O (a8T lk c).1];exact(hc (hq 0 c (by rw[a8A hn];rfl)) hv).cell (c0A _ _ _)
theorem b3I{lk:D6}{ks:Nat→Nat×Nat}{gen:Nat→Nat}{cells:List PV}(hc:∀{n:Nat} {u:Value} {p:Nat} {c:PV},cells[p]?=some c→j8 G h w n u c→j8 G' h' w n u (M5 (ks p) gen (rvC lk c))){n:Nat}(m:Nat):∀{vs:List PV} {q:Nat} {U:Nat→Option Value},
 (∀(i:Nat) x,(vs.flatMap l6)[i]?=some x→cells[q+i]?=some x)→(∀(i:Nat) p,vs[i]?=some p→∃u,U i=some u∧j8 G h w n u p)→∀(i:Nat) p,(a1z ks gen q (vs.map (rvE lk)))[i]?=some p→∃u,U i=some u∧j8 G' h' w (m+1) u p
 | [],q,U,_,_,i,p,hp=>by simp[a1z]at hp
 |c::vs,q,U,hq,hU,i,p,hp=>by
  simp only[a0s,a1z]at hp;cases i with
  |zero=>
   simp at hp;subst hp;obtain⟨u,h1,h2⟩:=hU 0 c rfl;refine⟨u,h1,b7j hc (fun i x hx=>hq i x ?_) h2 m⟩;rw[a2C,a0R (B4.1 hx).1];exact hx
  |succ i=>
   have hlen:(l6 (rvE lk c)).length=(l6 c).length:=by
    rcases a9g lk c with⟨cs,rfl⟩|⟨hn,e⟩
    . simp[rvE,l6]
    . rw[e,a8A (a8T lk c).1,a8A hn];rfl
   rw[hlen]at hp;refine b3I hc m (vs:=vs) (q:=q+(l6 c).length) (U:=fun i=>U (i+1)) (fun i x hx=>?_) (fun i p hp=>hU (i+1) p (by simpa using hp)) i p (by simpa using hp);rw[Nat.add_assoc];refine hq _ x ?_;rw[a2C,a3X i9,Nat.add_sub_cancel_left];exact hx
theorem b9g{α:Type}{F:α→Sem Value}:∀(l:List α) (us:Nat→Value),(∀i a,l[i]?=some a→(F a).run P w=.ok (us i) w)→(l.mapM F).run P w=.ok ((List.range l.length).map us) w
 | [],us,_=>by simp
 |x::l,us,h=>by rw[List.mapM_cons,N8,h 0 x rfl];simp only[Result.andThen];rw[N8,b9g l (fun i=>us (i+1)) fun i a ha=>h (i+1) a (by simpa using ha)];simp only[Result.andThen,a1E,Z3];congr 1;rw[List.range_succ_eq_map];simp[Function.comp_def]
theorem c1L{α β:Type}{f:α→Option β}{l:List α}{m:List β}(h:M8 f l=some m):l.length=m.length∧∀(i:Nat) a,l[i]?=some a→∃b,m[i]?=some b∧f a=some b:=by obtain⟨h1,h2⟩:=a5r h;exact⟨h1,h2⟩
theorem b6G{lk:D6}{vars:List PV}:∀{rs:List (Nat×Option (Bool×Nat))} {l:List PV},a2I lk vars rs=some l→rs.length=l.length∧∀(i:Nat) r,rs[i]?=some r→∃v,l[i]?=some v∧a7R lk vars r=some v
 | [],l,h=>by simp only[a2I,p9]at h;subst h;exact⟨rfl,fun i r hr=>by simp at hr⟩
 |r::rs,l,h=>by
  simp only[a2I]at h;split at h
  . rename_i v vs h1 h2;cases h;obtain⟨h3,h4⟩:=b6G h2;refine⟨by simp[h3],fun i x hx=>?_⟩;cases i with
    |zero=>simp at hx;subst hx;exact⟨v,rfl,h1⟩
    |succ i=>exact h4 i x (by simpa using hx)
  . cases h
theorem b8M{agg:Bool}{sz:Nat}(hv:j8 G h w D v p)(hk:a0j lk agg sz p=some r):∃a,v=.pointer (some a):=by
 cases p<;>(try (simp[a0j]at hk;done))<;>(unfold D at hv;unfold j8 at hv)
 case ptr=>obtain⟨b,rfl,_⟩:=hv;exact⟨_,rfl⟩
 case eptr=>obtain⟨b,f,rfl,_⟩:=hv;exact⟨_,rfl⟩
 case nptr=>obtain⟨b,f,rfl,_⟩:=hv;exact⟨_,rfl⟩
 case fptr=>obtain⟨b,f,rfl,_⟩:=PR.a3a.1 hv;exact⟨_,rfl⟩
theorem c2i(hv:j8 G h w D v p)(hk:a5R lk n p=some r):∃a,v=.pointer (some a):=by
 cases p<;>simp only[a5R]at hk<;>(try exact b8M hv hk)
 case eptr=>unfold D at hv;unfold j8 at hv;obtain⟨b,f,rfl,_⟩:=hv;exact⟨_,rfl⟩
def a8D(tmps:Array Value):ResultVar→Sem Value
 | .tmp t=>pure (tmps.getD t undef)
 | .cell a t=>do loadVar t (←asAddr (tmps.getD a undef))
theorem c9l(fn:Func)(tmps:Array Value):results fn tmps=(do
 let vs ←fn.results.mapM (a8D tmps)
 pure (if h:vs.size=1 then vs[0]else .tuple vs)):=by
 unfold results;congr 2
def a8I(P:Program)(vs:List Nat):ResultVar→Option (Nat×Option (Bool×Nat)):=fun r=>match r with
 | .tmp t=>(vs.idxOf? t).map fun v=>(v,none)
 | .cell a t=>match vs.idxOf? a,a1s P t,H8 P t with
  |some v,some g,some s=>some (v,some (g,s))
  |_,_,_=>none
theorem c7s(hr:p7 B Z0 G h w)(hv:V9 G h w vs vars a)(hc:M8 (a8I P vs) fn.results.toList=some rs)(hl:a2I (l8 h []) vars rs=some l):
 ∃us:Array Value,(fn.results.mapM (a8D a.tmps)).run P w=.ok us w∧us.size=l.length∧∀(i:Nat) p,l[i]?=some p→∃u,us[i]?=some u∧j8 G h w D u p:=by
 obtain⟨c1,c2⟩:=c1L hc;obtain⟨l1,l2⟩:=b6G hl;have hall:∀i,∃u,∀(hi:i<fn.results.size),(a8D a.tmps fn.results[i]).run P w=.ok u w∧∃p,l[i]?=some p∧j8 G h w D u p:=fun i=>by
  by_cases hi:i<fn.results.size
  . obtain⟨r,h1,h2⟩:=c2 i fn.results[i] (by simp[hi]);obtain⟨p,h3,h4⟩:=l2 i r h1;have slot:∀{t k},vs.idxOf? t=some k→j8 G h w D (a.tmps.getD t undef) (vars.getD k .uu):=fun{t k} hk=>by
     obtain⟨v,q1,q2⟩:=hv k t (a0H hk);rw[a3Y,q1];exact q2
    cases hx:fn.results[i]with
    |tmp t=>
     rw[hx]at h2;simp only[a8I]at h2;obtain⟨k,hk,rfl⟩:=C5.1 h2;simp only[a7R,p9]at h4;exact⟨a.tmps.getD t undef,fun _=>⟨by rw[hx];rfl,p,h3,h4▸slot hk⟩⟩
    |cell ad t=>
     rw[hx]at h2;simp only[a8I]at h2;split at h2
     . rename_i k g s hk hg hs;cases h2;simp only[a7R]at h4;have hsl:=slot hk;obtain⟨u,q1,q2⟩:∃u,(Instr.loadAt t (a.tmps.getD ad undef)).run P w=.ok u w∧j8 G h w D u p:=by
        cases g with
        |true=>exact b6s (P:=P) hr hg hs hsl (by simpa using h4)
        |false=>exact a8V (P:=P) hr hg hs hsl (by simpa using h4)
       obtain⟨ad',he⟩:∃ad',a.tmps.getD ad undef=.pointer (some ad'):=by
        cases g with
        |true=>exact c2i hsl (by simpa using h4)
        |false=>exact b8M (agg:=false) hsl (by simpa using h4)
       refine⟨u,fun _=>⟨?_,p,h3,q2⟩⟩;rw[he]at q1;rw[hx];simp only[a8D,he];exact q1
     . cases h2
  . exact⟨undef,fun h=>absurd h hi⟩
 refine⟨((List.range fn.results.size).map fun i=>(hall i).choose).toArray,?_,?_,fun i p hp=>?_⟩
 . have:=b9g (P:=P) (w:=w) (F:=a8D a.tmps) fn.results.toList (fun i=>(hall i).choose) fun i r hi=>by
    obtain⟨h1,h2⟩:=B4.1 hi;have:=((hall i).choose_spec (by simpa using h1)).1;rw[show fn.results[i]'(by simpa using h1)=r by simpa using h2]at this;exact this
   rw[Array.mapM_eq_mapM_toList,map_eq_pure_bind,N8,this];simp
 . simp;rw[←l1,←c1];simp
 . have hi:i<fn.results.size:=by
    have:=(B4.1 hp).1;rw[←l1,←c1]at this;simpa using this
   obtain⟨_,p',q1,q2⟩:=(hall i).choose_spec hi;rw[hp]at q1;cases q1;exact⟨_,by simp[hi],q2⟩
theorem a8K{F:Fence}{n m:Nat}{fn:Func}{tmps:Array Value}{R:Ending→World→Prop}:∀(Ds:List Nat) (w:World),Ds.Nodup→(∀D∈Ds,m≤D∧w.heap[D]?=some (.deferred (some [])))→(∀w',X0 m w w'→LeavesIn F n P fn tmps R [] .returning w')→
 LeavesInM F n P fn tmps R (Ds.map fun D=>{target:=.collected D,args:= #[]}) .returning w
 | [],w,_,_,h=>h w (X0.refl _ _)
 |D::Ds,w,hn,hD,h=>by obtain⟨h1,h2⟩:=a4H.1 hn;obtain⟨h3,h4⟩:=hD D k7;refine⟨k7,.inl ⟨D,_,rfl,run_takeDeferred h4,?_⟩⟩;have hs:X0 m w (w.putObj D (.deferred none)):=X0.put h4 rfl h3;refine a8K Ds _ h2 (fun D' hD'=>⟨(hD D' (by simp[hD'])).1,?_⟩) fun w' hw'=>h w' (hs.trans hw');rw[b4E fun e=>h1 (by rw[←e];exact hD')];exact(hD D' (by simp[hD'])).2
theorem a9Y(hr:p7 B Z0 G h w)(hv:V9 G h w vs vars a)(hres:M8 (a8I P vs) fn.results.toList=some rs)(hl:a2I (l8 h []) vars rs=some l):
 ∃u,(results fn a.tmps).run P w=.ok u w∧j8 G h w (D+1) u (a0e l)∧((∀p,l=[p]→j8 G h w D u p)∧(l.length≠1→∃us:Array Value,u=.tuple us∧us.size=l.length∧∀(i:Nat) p,l[i]?=some p→∃u,us[i]?=some u∧j8 G h w D u p)):=by
 obtain⟨us,r1,r2,r3⟩:=c7s (P:=P) (fn:=fn) hr hv hres hl;refine⟨if h:us.size=1 then us[0]else .tuple us,by rw[c9l,N8,r1];rfl,?_⟩;by_cases h1:us.size=1
 . rw[dif_pos h1];obtain⟨p,rfl⟩:∃p,l=[p]:=a9C.1 i9;obtain⟨u,q1,q2⟩:=r3 0 p rfl;rw[Array.getElem?_eq_getElem i9]at q1;cases q1;exact⟨q2.up,fun p' e=>by cases e;exact q2,fun hne=>absurd rfl hne⟩
 . rw[dif_neg h1];have e1:a0e l=.tup l:=by
    match l,r2 with
    | [],_=>rfl
    | [p],r2=>exact absurd r2 h1
    |_::_::_,_=>rfl
   refine⟨?_,fun p e=>by subst e;exact absurd r2 h1,fun _=>⟨us,rfl,r2,r3⟩⟩;rw[e1];unfold j8;exact⟨us,rfl,r2,r3⟩
theorem c1a{N:Nat}{szs:List Nat}{Z:Nat→Prop}(hres:M8 (a8I P vs) fn.results.toList=some rs)(hi:M9 w.heap.size Z (M3.plain w) vs N vars h a w')
 (he2:a2I (l8 h []) vars rs=some l) (he3:a3j (a8a (a0e l))=true) (he4:a3J szs 0 ((a0m (a0e l)).flatMap l6)=true):
 LeavesInM (fz none) n P fn a.tmps (fun e w'=>∃v G,e=.returned v∧Bl w.heap.size w w'∧p7 w.heap.size Z G (a0v szs (rvV (l8 h []) (a0e l))) w'∧j8 G (a0v szs (rvV (l8 h []) (a0e l))) w' D v (X2 (a1b szs) (fun _=>1) (rvV (l8 h []) (a0e l)))) a.defers .returning w':=by
 obtain⟨G,i1,i2,i3,⟨Ds,d1,d2,d3⟩,i5⟩:=hi;rw[d2];refine a8K (m:=w.heap.size) Ds w' d1 d3 fun w'' hs=>?_;obtain⟨j1,jx⟩:=i1.cells (w':=w'') (by rw[hs.size];exact m0 _) hs.cells;have j2:V9 G h w'' vs vars a:=fun k s hk=>by obtain⟨v,h1,h2⟩:=i2 k s hk;exact⟨v,h1,h2.ext jx⟩
 have j5:=(M3.plain w).shut i1 i5 hs;obtain⟨u,q0,_,q1,q2⟩:=a9Y (P:=P) (fn:=fn) j1 j2 hres he2;obtain⟨o1,o2⟩:=c7v j1 (q:=a0e l) (szs:=szs) he3 he4;refine⟨u,q0,_,_,rfl,j5,o1,?_⟩;by_cases h1:l.length=1
 . obtain⟨p,rfl⟩:∃p,l=[p]:=a9C.1 h1;have q2:=q1 p rfl;simp only[a0e]at o2⊢;by_cases ht:∃vs,p=.tup vs
   . obtain⟨vs,rfl⟩:=ht;obtain⟨ws,hw,hs,hws⟩:=a8n q2;rw[hw];simp only[rvV,X2];unfold D;unfold j8;refine⟨ws,rfl,by rw[b1G];simpa using hs,b3I (cells:=B5 (.tup vs)) o2 4 (q:=0) (U:=fun i=>ws[i]?) (fun i x hx=>by rw[U3];exact hx) hws⟩
   . have e1:rvV (l8 h []) p=rvE (l8 h []) p:=by
      cases p<;>first|rfl|exact absurd ⟨_,rfl⟩ ht
     have e2:B5 p=l6 p:=by cases p<;>first|(exact absurd ⟨_,rfl⟩ ht)|simp[B5,a0m]
     have e3:X2 (a1b szs) (fun _=>1) (rvE (l8 h []) p)=a2c (a1b szs) (fun _=>1) 0 (rvE (l8 h []) p):=by
      rcases a9g (l8 h []) p with⟨cs,rfl⟩|⟨hn,e⟩
      . rfl
      . rw[e];have:=(a8T (l8 h []) p).2;cases hz:rvC (l8 h []) p<;>first|rfl|exact absurd hz (this _)
     rw[e1]at o2⊢;rw[e3];exact b7j (cells:=B5 p) (q:=0) o2 (fun i x hx=>by rw[U3,e2];exact hx) q2 5
 . obtain⟨us,hu,r2,r3⟩:=q2 h1;have e1:a0e l=.tup l:=by
    match l,h1 with
    | [],_=>rfl
    | [p],h1=>exact absurd rfl h1
    |_::_::_,_=>rfl
   rw[e1]at o2⊢;rw[hu];simp only[rvV,X2]at o2⊢;unfold D;unfold j8;refine⟨us,rfl,by rw[b1G];simpa using r2,b3I (cells:=B5 (.tup l)) o2 4 (q:=0) (U:=fun i=>us[i]?) (fun i x hx=>by rw[U3];exact hx) r3⟩
theorem c4R{N:Nat}(hall:vs.all (Nat.blt · N)=true){Z:Nat→Prop}(hz:∀b,Z b→V6 w b){vargs:Array Value}{args:List PV}(hargs:I6 (j8 (G0 Z) [] w D) vargs args)(hlen:args.length≤N):
 M9 w.heap.size Z (M3.plain w) vs N (vs.map fun s=>args.getD s .uu) (List.replicate n (0,.dead)) {tmps:=vargs++Array.replicate (N-vargs.size) undef,defers:=[]} w:=by
 obtain⟨hsz,hargs⟩:=hargs;have hext:Ext (G0 Z) [] w (G0 Z) (List.replicate n (0,Ob.dead)) w:=⟨fun _ x=>x,fun _ _=>rfl,fun k gn ob e=>by simp at e⟩
 have hdead:∀{i g:Nat} {o:Ob},(List.replicate n (0,Ob.dead))[i]?=some (g,o)→o=.dead:=fun ho=>by have:=b4F (C8 ho);cases this;rfl
 have hr0:p7 w.heap.size Z (G0 Z) (List.replicate n (0,Ob.dead)) w:=
  ⟨m0 _,fun b hb=>.inl hb,hz,fun _ hR=>hR.elim,fun _ _ _ _ _ _ hR=>hR.elim,fun _ _ _ _ _ _ hR=>hR.elim,fun _ _ hR=>hR.elim,fun i g o ho=>by rw[hdead ho];trivial⟩
 refine⟨G0 Z,hr0,fun i s hs=>?_,I3,a0k.nil,Bl.refl _ _⟩;have hsN:s<N:=by simpa[a1I]using A8.1 hall s (C8 hs)
 rw[u9,H5,hs];simp only[a2U,a4I];by_cases hsa:s<args.length
 . obtain⟨u,h1,h2⟩:=hargs s _ (l9 hsa);refine⟨u,?_,?_⟩
   . rw[a2S i9];exact h1
   . rw[u9,l9 hsa];exact h2.ext hext
 . refine⟨undef,?_,?_⟩
   . rw[a5f i9,a7L,if_pos i9]
   . rw[u9,a0f i9];exact L3
def M3.inner(B:Nat)(G0:Gh)(h0:l5)(w0:World)(hB:B≤w0.heap.size):M3 B:=
 ⟨w0.heap.size,fun _ G h w=>Ext G0 h0 w0 G h w∧Bl B w0 w,fun h=>h.2.size,fun p x b=>⟨p.1.trans x,p.2.trans b⟩,fun r p s=>⟨p.1.trans (r.cells (by rw[s.size];exact m0 _) s.cells).2,p.2.shut hB s⟩⟩
def a3d:PV→Bool
 | .agg cs=>cs.all one
 |c=>one c
theorem b8J{m:Nat}{u:Value}(hf:a3d p=true)(hv:j8 G h w n u p):j8 G h w (m+2) u p:=by
 cases p
 case agg cs=>
  cases n with
  |zero=>unfold j8 at hv;exact hv.elim
  |succ n=>
   unfold j8 at hv⊢;obtain⟨vs,h1,h2⟩:=hv;exact⟨vs,h1,a6T h2 hf (Nat.succ_pos _)⟩
 all_goals exact one_cell hf hv (Nat.succ_pos _)
def b3g(rs:List (Nat×Option (Bool×Nat)))(r:PV)(h0:l5)(ws:List (Nat×Row)):I9:=fun e vs h=>
 (match e with| .exit _=>False|_=>True)∧∃l,a2I (l8 h []) vs rs=some l∧(l.length==1||l.all a3d)=true∧a0e l=r∧h=m6 h0 ws
theorem c8y(hm:P.follows .mixedOrders=true){f:FuncId}{off:Nat}{X:A0}(hc:S0 P f off=some X){first args cap:List PV}{h0:l5}{ws:List (Nat×Row)}(hlen:(first++args++cap).length≤X.ntmps)(ho:(first.all one&&cap.all one)=true)
 (hx:G5 (fns P) X.body (b3g X.results r h0 ws) (X.vars.map fun s=>(first++args++cap).getD s .uu) h0):FI P (.fn (.func f) first cap) args h0 r ws:=by
 unfold S0 at hc;dsimp only at hc;split at hc
 . cases hc
 . rename_i fn hfn;split at hc
   . cases hc
   . rename_i c hbody;split at hc
     . rename_i x k rs hcode hres;split at hc
       . rename_i hcond;obtain⟨hnm,hnd,hall,hpar⟩:=hcond;cases hc;refine⟨f,first,cap,rfl,by unfold a1P;rw[hfn];simpa[hbody]using hnm,ho,fun B Z0 G0 w vf va vc hr hf ha hcp=>?_⟩;refine(a4i (ρ:=none) (n:=0)).1 (callsIn_of_wp_marks hfn hbody trivial ?_);have hall':I6 (j8 G0 h0 w D) (vf++va++vc) (first++args++cap):=by
          refine⟨by simp[hf.1,ha.1,hcp.1],fun i p hp=>?_⟩;by_cases h1:i<first.length
          . rw[a3u,a0R h1]at hp;obtain⟨u,q1,q2⟩:=hf.2 i p hp;have:=(a2A.1 q1).1;exact⟨u,by rw[a6A,a2S this];exact q1,q2⟩
          . rw[a3u,a3X i9]at hp;by_cases h2:i-first.length<args.length
            . rw[a0R h2]at hp;obtain⟨u,q1,q2⟩:=ha.2 _ p hp;have:=(a2A.1 q1).1;refine⟨u,?_,q2⟩;rw[a6A,a5f (by rw[hf.1];omega),hf.1,a2S this];exact q1
            . rw[a3X i9]at hp;obtain⟨u,q1,q2⟩:=hcp.2 _ p hp;refine⟨u,?_,q2⟩;rw[a6A,a5f (by rw[hf.1];omega),hf.1,a5f (by rw[ha.1];omega),ha.1];exact q1
         obtain⟨hsz,hargs⟩:=hall';have hi:M9 B Z0 (M3.inner B G0 h0 w hr.base) (varsOf fn c) fn.ntmps ((varsOf fn c).map fun s=>(first++args++cap).getD s .uu) h0 {tmps:=(vf++va++vc)++Array.replicate (fn.ntmps-(vf++va++vc).size) undef,defers:=[]} w:=by
          have hlen':(first++args++cap).length≤fn.ntmps:=hlen;refine⟨G0,hr,fun i s hs=>?_,by rw[a6z,Array.size_replicate];omega,a0k.nil,Ext.refl,Bl.refl _ _⟩;have hsN:s<fn.ntmps:=(by simpa[a1I]using A8.1 hall s (C8 hs));rw[u9,H5,hs];simp only[a2U,a4I];by_cases hsa:s<(first++args++cap).length
          . obtain⟨u,h1,h2⟩:=hargs s _ (l9 hsa);refine⟨u,?_,?_⟩
            . rw[a2S i9];exact h1
            . rw[u9,l9 hsa];exact h2
          . refine⟨undef,?_,?_⟩
            . rw[a5f i9,a7L,if_pos i9]
            . rw[u9,a0f i9];exact L3
         refine c5C hm (a5y hnd) c off k x hcode _ _ _ _ _ _ hx hi fun e vars h a w' hi' he=>?_;obtain⟨he1,l,he2,he3,rfl,rfl⟩:=he;have key:LeavesInM (fz none) 0 P fn a.tmps (fun e w'=>∃u G',e=.returned u∧p7 B Z0 G' (m6 h0 ws) w'∧Ext G0 h0 w G' (m6 h0 ws) w'∧j8 G' (m6 h0 ws) w' D u (a0e l)∧Bl B w w') a.defers .returning w':=by
          obtain⟨G,i1,i2,i3,⟨Ds,d1,d2,d3⟩,i5⟩:=hi';rw[d2];refine a8K (m:=w.heap.size) Ds w' d1 d3 fun w'' hs=>?_;obtain⟨j1,jx⟩:=i1.cells (w':=w'') (by rw[hs.size];exact m0 _) hs.cells;have j2:V9 G (m6 h0 ws) w'' (varsOf fn c) vars a:=fun k s hk=>by obtain⟨v,h1,h2⟩:=i2 k s hk;exact⟨v,h1,h2.ext jx⟩
          obtain⟨j5,j6⟩:=(M3.inner B G0 h0 w hr.base).shut i1 i5 hs;obtain⟨u,q0,_,q1,q2⟩:=a9Y (P:=P) (fn:=fn) j1 j2 hres he2;refine⟨u,q0,u,G,rfl,j1,j5,?_,j6⟩;by_cases h1:l.length=1
          . obtain⟨p,rfl⟩:∃p,l=[p]:=a9C.1 h1;exact q1 p rfl
          . obtain⟨us,hu,r2,r3⟩:=q2 h1;have e1:a0e l=.tup l:=by
             match l,h1 with
             | [],_=>rfl
             | [p],h1=>exact absurd rfl h1
             |_::_::_,_=>rfl
            rw[e1,hu];unfold D;unfold j8;refine⟨us,rfl,r2,fun i p hp=>?_⟩;obtain⟨u,g1,g2⟩:=r3 i p hp;have hfl:l.all a3d=true:=(by simpa[h1]using he3);exact⟨u,g1,b8J (A8.1 hfl p (C8 hp)) g2⟩
         cases e with
         |normal=>exact key
         |ret=>exact key
         |exit id=>exact he1.elim
       . cases hc
     . cases hc
end
end
section
variable{ks:List Nat}{c0:Nat}{ob:Ob}
theorem b3x{f:Nat→Row}:∀{n p i:Nat},(a5S f n p)[i]?=if i<n then some (f (p+i))else none
 |0,p,i=>by simp[a5S]
 |n+1,p,0=>by simp[a5S]
 |n+1,p,i+1=>by
  simp only[a5S,List.getElem?_cons_succ,b3x]
  grind
theorem b5R{live ks:List Nat}{c0:Nat}{h:l5}:∀{vs:List PV} {i k:Nat},(sVs live ks c0 h i vs).getD k .uu=.uu∨(sVs live ks c0 h i vs).getD k .uu=a8v ks c0 h (vs.getD k .uu)
 | [],i,k=>.inl (by simp[sVs])
 |v::vs,i,0=>by
  simp only[sVs,List.getD_cons_zero]
  grind
 |v::vs,i,k+1=>by simp only[sVs,List.getD_cons_succ];exact b5R
def sJ(ks:List Nat)(c0 p:Nat):Option Nat:=if p<c0 then none else ks[p-c0]?
section
variable{P:Program}{B:Nat}{Z0:Nat→Prop}{G G':Gh}{h h':l5}{w w':World}
theorem b2v{sz ver:Nat}{fr:Bool}{es:List PV}(he:a0n ks c0 h ob=.arr sz ver fr es):∃ver0,ob=.arr sz ver0 fr es∧es.all D4=true∧ver=0:=by
 cases ob with
 |dead=>cases he
 |var cs=>simp only[a0n]at he;split at he<;>cases he
 |mp f u v=>simp only[a0n]at he;split at he<;>cases he
 |arr s v f e=>
  simp only[a0n]at he;split at he
  . grind
  . cases he
theorem b6t{cs:List PV}(he:a0n ks c0 h ob=.var cs):∃cs0,ob=.var cs0∧cs=cs0.map (ren ks c0 h)∧cs.all one=true:=by
 cases ob with
 |dead=>cases he
 |arr s v f e=>simp only[a0n]at he;split at he<;>cases he
 |mp f u v=>simp only[a0n]at he;split at he<;>cases he
 |var c=>
  simp only[a0n]at he;split at he
  . grind
  . cases he
theorem b5m{fr:Bool}{us cs:List PV}(he:a0n ks c0 h ob=.mp fr us cs):ob=.mp fr us cs∧cs.all mvS=true:=by
 cases ob with
 |dead=>cases he
 |var cs=>simp only[a0n]at he;split at he<;>cases he
 |arr s v f e=>simp only[a0n]at he;split at he<;>cases he
 |mp f u v=>
  simp only[a0n]at he;split at he
  . rename_i hn;cases he;exact⟨rfl,hn⟩
  . cases he
theorem c5Q{u:Value}{c:PV}(hnu:∀ns,c≠ .uslc ns)(hc:mvS c=true)(hv:j8 G h w D u c)(hZ:G'.Z=G.Z):j8 G' h' w D u c:=by
 by_cases hn:c=.nils
 . subst hn;obtain rfl:=Z7 hv;exact a4W
 by_cases hp:A6 c=true
 . have h1:=a4D hp hv;rw[←hZ]at h1;exact a1y (a3U hp) h1
 . have hf:fn0 c=true:=by
    cases c<;>simp[mvS,I5,hp]at hc hn hnu⊢ <;>assumption
   unfold fn0 at hf;split at hf
   . obtain⟨vs,us,rfl,h1,h2⟩:=a8C hv;unfold D;unfold j8;exact⟨vs,us,rfl,⟨h1.1,fun i c hc=>by simp at hc⟩,⟨h2.1,fun i c hc=>by simp at hc⟩⟩
   . cases hf
theorem b6B(hr:p7 B Z0 G h w)(hok:sOk ks c0 h=true):
 (∀{n:Nat} {u:Value} {c:PV},j8 G h w n u c→j8 (G.out (sJ ks c0)) (a3N ks c0 h) w n u (ren ks c0 h c))∧p7 B Z0 (G.out (sJ ks c0)) (a3N ks c0 h) w:=by
 unfold sOk at hok;simp only[E6,Nat.ble_eq]at hok;obtain⟨hnd,hlen⟩:=hok;have hnd:=a5y hnd;have hJ:∀{p k},sJ ks c0 p=some k→c0≤p∧ks[p-c0]?=some k:=fun{p k} hj=>by
  unfold sJ at hj;split at hj
  . cases hj
  . exact⟨i9,hj⟩
 have hJ':∀{i k},ks[i]?=some k→sJ ks c0 (c0+i)=some k:=fun{i k} hi=>by unfold sJ;rw[if_neg i9,show c0+i-c0=i by omega];exact hi
 have hrow:∀{p k},sJ ks c0 p=some k→(a3N ks c0 h)[p]?=some (1,a0n ks c0 h (h.getD k (0,.dead)).2):=fun{p k} hj=>by obtain⟨h1,h2⟩:=hJ hj;have:=(B4.1 h2).1;unfold a3N;rw[b3x,if_pos i9,U3];unfold b1C;rw[if_neg i9,h2]
 have hrow':∀{p r},(a3N ks c0 h)[p]?=some r→r.2=.dead∨∃k ob g0,sJ ks c0 p=some k∧h[k]?=some (g0,ob)∧r=(1,a0n ks c0 h ob):=fun{p r} hp=>by
  unfold a3N at hp;rw[b3x]at hp;split at hp
  . cases hp;rw[U3];unfold b1C;split
    . exact .inl rfl
    . rename_i hpc;cases hk:ks[p-c0]? with
      |none=>exact .inl rfl
      |some k=>
       cases hh:h[k]? with
       |none=>left;simp[u9,hh,a0n]
       |some r0=>
        obtain⟨g0,ob⟩:=r0;refine .inr ⟨k,ob,g0,?_,hh,by simp[u9,hh]⟩;unfold sJ;rw[if_neg hpc];exact hk
  . cases hp
 have hnew:∀{p k y},sJ ks c0 p=some k→(G.out (sJ ks c0)).β (p,y)=G.β (k,y)∧((G.out (sJ ks c0)).R (p,y)↔G.R (k,y))∧(G.out (sJ ks c0)).γ (p,y)=G.γ (k,y)∧(G.out (sJ ks c0)).σ (p,y)=G.σ (k,y):=fun{p k y} hj=>by refine⟨?_,?_,?_,?_⟩<;>simp only[Gh.out,hj]
 have hRJ:∀{p y},(G.out (sJ ks c0)).R (p,y)→∃k,sJ ks c0 p=some k:=fun{p y} hR=>by
  cases hj:sJ ks c0 p with
  |some k=>exact⟨k,rfl⟩
  |none=>simp only[Gh.out,hj]at hR
 have hval:∀{n:Nat} {u:Value} {c:PV},j8 G h w n u c→j8 (G.out (sJ ks c0)) (a3N ks c0 h) w n u (ren ks c0 h c):=by
  intro n u c hc;cases c<;>simp only[ren]<;>(try exact L3)
  case bool=>obtain rfl:=a1c hc;exact a1l
  case int=>obtain rfl:=V0 hc;exact a0z
  case str=>obtain rfl:=a2q hc;exact a4J
  case nils=>obtain rfl:=Z7 hc;exact a4W
  case lit=>cases n<;>(unfold j8 at hc⊢;exact hc)
  case slc es=>exact a1d (a2M (G:=G) (h:=h) hc)
  case J9 us cs=>exact a7y (a9l (G:=G) (h:=h) hc)
  case fptr cs=>exact a4P (a9t (G:=G) (h:=h) hc)
  case mapv k g=>
   cases hi:ks.idxOf? k with
   |none=>exact L3
   |some i=>
    have hj:=hJ' (a0H hi);have hc':=j8.cell (m:=D) (by grind) hc;refine j8.cell (n:=D) (by grind) ?_;unfold D at hc'⊢;unfold j8 at hc'⊢;obtain⟨b,q0,gn,ob,q4,q5,q6⟩:=hc';have hgd:h.getD k (0,.dead)=(gn,ob):=(by grind);refine⟨b,q0,_,_,hrow hj,?_,fun e fr us cs he=>?_⟩
    . split<;>omega
    . have hg:gn=g:=by
       rw[hgd]at e;by_cases hg:gn=g
       . exact hg
       . simp[hg]at e
      rw[hgd]at he;obtain⟨h1,_⟩:=b5m he;obtain⟨a1,_⟩:=hnew (y:=none) hj;rw[show(G.out (sJ ks c0)).β (root (c0+i))=G.β (root k)from a1];exact q6 hg _ _ _ h1
  case own k g gl s o l=>
   cases hi:ks.idxOf? k with
   |none=>exact L3
   |some i=>
    have hj:=hJ' (a0H hi);have hc':=j8.cell (m:=D) (by grind) hc;refine j8.cell (n:=D) (by grind) ?_;unfold D at hc'⊢;unfold j8 at hc'⊢;obtain⟨a,c,q0,q1,q2,q3,gn,ob,q4,q5,q6⟩:=hc';have hgd:h.getD k (0,.dead)=(gn,ob):=(by grind);refine⟨a,c,q0,q1,q2,q3,_,_,hrow hj,?_,fun e sz ver fr es he=>?_⟩
    . split<;>omega
    . have hg:gn=g:=by
       rw[hgd]at e;by_cases hg:gn=g
       . exact hg
       . simp[hg]at e
      rw[hgd]at he;obtain⟨ver0,h1,_,_⟩:=b2v he;obtain⟨q7,q8⟩:=q6 hg _ _ _ _ h1;refine⟨q7,fun e2=>?_⟩;obtain⟨q9,q10,q11⟩:=q8 e2;obtain⟨a1,a2,a3,a4⟩:=hnew (y:=none) hj;rw[show(G.out (sJ ks c0)).β (root (c0+i))=G.β (root k)from a1,show(G.out (sJ ks c0)).γ (root (c0+i))=G.γ (root k)from a3];exact⟨q9,fun hR=>q10 (a2.1 hR),fun hR=>q11 fun y=>hR (a2.2 y)⟩
  case eptr k g gl s i0 j0=>
   cases hi:ks.idxOf? k with
   |none=>exact L3
   |some i=>
    have hj:=hJ' (a0H hi);have hc':=j8.cell (m:=D) (by grind) hc;refine j8.cell (n:=D) (by grind) ?_;unfold D at hc'⊢;unfold j8 at hc'⊢;obtain⟨b,f,q0,gn,ob,q4,q5,q6⟩:=hc';have hgd:h.getD k (0,.dead)=(gn,ob):=(by grind);refine⟨b,f,q0,_,_,hrow hj,?_,fun e sz ver fr es he=>?_⟩
    . split<;>omega
    . have hg:gn=g:=by
       rw[hgd]at e;by_cases hg:gn=g
       . exact hg
       . simp[hg]at e
      rw[hgd]at he;obtain⟨ver0,h1,_,_⟩:=b2v he;obtain⟨q7,q8⟩:=q6 hg _ _ _ _ h1;refine⟨q7,fun e2=>?_⟩;obtain⟨q9,q10,q11⟩:=q8 e2;obtain⟨a1,a2,a3,a4⟩:=hnew (y:=none) hj;rw[show(G.out (sJ ks c0)).β (root (c0+i))=G.β (root k)from a1];exact⟨q9,q10,q11⟩
  case ptr k g o=>
   cases hi:ks.idxOf? k with
   |none=>exact L3
   |some i=>
    have hj:=hJ' (a0H hi);have hc':=j8.cell (m:=D) (by grind) hc;refine j8.cell (n:=D) (by grind) ?_;unfold D at hc'⊢;unfold j8 at hc'⊢;obtain⟨b,q0,gn,ob,q4,q5,q6⟩:=hc';have hgd:h.getD k (0,.dead)=(gn,ob):=(by grind);refine⟨b,q0,_,_,hrow hj,?_,fun e cs he=>?_⟩
    . split<;>omega
    . have hg:gn=g:=by
       rw[hgd]at e;by_cases hg:gn=g
       . exact hg
       . simp[hg]at e
      rw[hgd]at he;obtain⟨cs0,h1,_,_⟩:=b6t he;obtain⟨a1,_⟩:=hnew (y:=none) hj;rw[show(G.out (sJ ks c0)).β (root (c0+i))=G.β (root k)from a1];exact q6 hg _ h1
 refine⟨hval,hr.base,hr.zo,hr.zb,?_,?_,?_,?_,?_⟩
 . rintro⟨p,y⟩ hR;obtain⟨k,hk⟩:=hRJ hR;obtain⟨a1,a2,_⟩:=hnew (y:=y) hk;rw[a1];exact hr.lv _ (a2.1 hR)
 . rintro p g o ho hlv y hR;obtain⟨k,hk⟩:=hRJ hR;obtain⟨a1,a2,_⟩:=hnew (y:=y) hk;rw[a1];rcases hrow' ho with h1|⟨k',ob,g0,h1,h2,h3⟩
   . simp only at h1;subst h1;cases hlv
   . rw[hk]at h1;cases h1;cases h3;refine hr.nz k g0 ob h2 ?_ y (a2.1 hR);cases ob with
     |dead=>cases hlv
     |var cs=>rfl
     |arr s v f e=>simp only[a0n]at hlv;split at hlv<;>first|exact hlv|cases hlv
     |mp f u v=>simp only[a0n]at hlv;split at hlv<;>first|exact hlv|cases hlv
 . intro p g o ho hfo y hR;obtain⟨k,hk⟩:=hRJ hR;obtain⟨a1,a2,_⟩:=hnew (y:=y) hk;rw[a1];rcases hrow' ho with h1|⟨k',ob,g0,h1,h2,h3⟩
   . simp only at h1;subst h1;cases hfo
   . rw[hk]at h1;cases h1;cases h3;refine hr.fz k g0 ob h2 ?_ y (a2.1 hR);cases ob with
     |dead=>cases hfo
     |var cs=>simp only[a0n]at hfo;split at hfo<;>cases hfo
     |arr s v f e=>simp only[a0n]at hfo;split at hfo<;>first|exact hfo|cases hfo
     |mp f u v=>simp only[a0n]at hfo;split at hfo<;>first|exact hfo|cases hfo
 . rintro⟨p1,y1⟩ ⟨p2,y2⟩ h1 h2 he;obtain⟨k1,hk1⟩:=hRJ h1;obtain⟨k2,hk2⟩:=hRJ h2;obtain⟨a1,a2,_⟩:=hnew (y:=y1) hk1;obtain⟨b1,b2,_⟩:=hnew (y:=y2) hk2;have:=hr.inj _ _ (a2.1 h1) (b2.1 h2) (by rw[←a1,←b1];exact he);simp only[s6]at this;obtain⟨rfl,rfl⟩:=this;obtain⟨c1,c2⟩:=hJ hk1;obtain⟨d1,d2⟩:=hJ hk2;have:=b2Y hnd c2 d2;rw[show p1=p2 by omega]
 . rintro p g o ho;rcases hrow' ho with h1|⟨k,ob,g0,hk,h2,h3⟩
   . simp only at h1;subst h1;trivial
   . simp only[s6]at h3;obtain⟨rfl,rfl⟩:=h3;have hob:=hr.ob k _ _ h2;obtain⟨a1,a2,a3,a4⟩:=hnew (y:=none) hk;cases hro:a0n ks c0 h ob with
     |dead=>trivial
     |mp fr us cs=>
      obtain⟨rfl,hms⟩:=b5m hro;unfold E5 at hob⊢;rw[show(G.out (sJ ks c0)).β (root p)=G.β (root k)from a1];obtain⟨o1,o2,es,cq,o3,o4,o5⟩:=hob;refine⟨a2.2 o1,o2,es,cq,o3,o4,fun i c hc=>?_⟩;obtain⟨e,e1,e2⟩:=o5 i c hc;refine⟨e,e1,?_⟩;by_cases hu:∃ns,c=.uslc ns
      . obtain⟨ns,rfl⟩:=hu;unfold a0b N7 at e2⊢;obtain⟨b1,b2,b3,b4⟩:=hnew (y:=some (i,0)) hk;rw[b1,b2,b3,b4];exact e2
      . have hnu:∀ns,c≠ .uslc ns:=fun ns e=>hu ⟨ns,e⟩;have hcm:=A8.1 hms c (C8 hc);exact(a4M hnu).2 (c5Q hnu hcm ((a4M hnu).1 e2) rfl)
     |var cs=>
      obtain⟨cs0,rfl,rfl,hone⟩:=b6t hro;unfold E5 at hob⊢;obtain⟨o1,us,T,o2,o3,o4⟩:=hob;refine⟨a2.2 o1,us,T,by rw[show(G.out (sJ ks c0)).β (root p)=G.β (root k)from a1];exact o2,by simpa using o3,fun i c hc=>?_⟩;rw[H5]at hc;obtain⟨c1,hc1,rfl⟩:=C5.1 hc;obtain⟨u,o5,o6⟩:=o4 i c1 hc1;exact⟨u,o5,A8.1 hone _ (E9.2 ⟨c1,C8 hc1,rfl⟩),hval o6.2⟩
     |arr sz ver fr es=>
      obtain⟨ver0,rfl,hnr,rfl⟩:=b2v hro;unfold E5 at hob⊢;rw[show(G.out (sJ ks c0)).β (root p)=G.β (root k)from a1,show(G.out (sJ ks c0)).γ (root p)=G.γ (root k)from a3];obtain⟨o1,o2,o3,o4,o5⟩:=hob;refine⟨o1,o2,o3,fun hR=>?_,fun hR=>o5 fun y=>hR (a2.2 y)⟩;obtain⟨us,T,o6,o7,o8⟩:=o4 (a2.1 hR);refine⟨us,T,o6,o7,fun i e he=>?_⟩;obtain⟨o9,o10⟩:=o8 i e he;refine⟨o9,fun j c hc=>?_⟩;obtain⟨u,o11,o12⟩:=o10 j c hc;refine⟨u,o11,?_⟩;have hnr':(A6 c||I5 c)=true:=A8.1 (show(l6 e).all (fun c=>A6 c||I5 c)=true from A8.1 hnr e (C8 he)) c (C8 hc);cases c
      case uslc ns=>
       unfold F9 N7 at o12⊢;obtain⟨b1,b2,b3,b4⟩:=hnew (y:=some (i,j)) hk;rw[b1,b2,b3,b4];exact o12
      case nils=>
       unfold F9 at o12⊢;obtain rfl:=Z7 o12.2;exact⟨rfl,a4W⟩
      all_goals
       unfold F9 at o12⊢;exact⟨o12.1,a1y o12.1 (a4D (G:=G) (h:=h) (by simpa[I5]using hnr') o12.2)⟩
theorem c5f(hr:p7 B Z0 G h w)(hok:sOk ks c0 h=true){u:Value}{c:PV}(hv:j8 G h w D u c):j8 (G.out (sJ ks c0)) (a3N ks c0 h) w D u (a8v ks c0 h c):=by
 obtain⟨hc,_⟩:=b6B hr hok;by_cases ha:∃cs,c=.agg cs
 . obtain⟨cs,rfl⟩:=ha;obtain⟨vs,rfl,h1,h2⟩:=a4K hv;refine a6l ⟨by simpa using h1,fun i x hx=>?_⟩
   grind
 . have:a8v ks c0 h c=ren ks c0 h c:=by
    cases c<;>first|rfl|exact absurd ⟨_,rfl⟩ ha
   rw[this];exact hc hv
theorem c7L{W0:M3 B}{vs:List Nat}{N:Nat}{vars:List PV}{a:Act}(hfree:∀{g:PV} {G:Gh} {h:l5} {g':PV} {G':Gh} {h':l5} {w:World},W0.psi g G h w→W0.psi g' G' h' w)(hi:M9 B Z0 W0 vs N vars h a w){live:List Nat}(hok:sOk ks c0 h=true):M9 B Z0 W0 vs N (sVs live ks c0 h 0 vars) (a3N ks c0 h) a w:=by
 obtain⟨G,i1,i2,i3,i4,i5⟩:=hi;refine⟨_,(b6B i1 hok).2,fun k s hs=>?_,i3,i4,hfree i5⟩;obtain⟨v,h1,h2⟩:=i2 k s hs;refine⟨v,h1,?_⟩;rcases b5R (live:=live) (ks:=ks) (c0:=c0) (h:=h) (vs:=vars) (i:=0) (k:=k)with e|e
 . rw[e];exact L3
 . rw[e];exact c5f i1 hok h2
end
section
variable{P:Program}{B:Nat}{Z0:Nat→Prop}{W0:M3 B}{vs:List Nat}{N:Nat}{vars:List PV}{h:l5}{a:Act}{w:World}
theorem b4R{nn:Nat}(hm:P.follows .mixedOrders=true)(hgf:∀{g g':PV} {G:Gh} {h:l5} {w:World},W0.psi g G h w→W0.psi g' G h w)(hn:vs.Nodup):∀(c:Code) (k k':Nat) (x:C6),(a1W x=true∨∀{g:PV} {G:Gh} {h:l5} {g':PV} {G':Gh} {h':l5} {w:World},W0.psi g G h w→W0.psi g' G' h' w)→E4 P vs N k c=some (strip x,k')→∀(Q':I9) (Q:Exit→Act→World→Prop) (vars:List PV) (h:l5) (a:Act) (w:World),
 G5 (fns P) x Q' vars h→M9 B Z0 W0 vs N vars h a w→b0M B Z0 W0 vs N Q' Q→c.wpIn (fz none) nn P Q a w:=by
 intro c
 induction c with
 |skip=>
  intro k k' x hns hc Q' Q vars h a w hx hi hq;have hp:=a3R hgf hx hi;clear hx hi;obtain⟨x,vars,h,hnf,hnm,⟨hst,hns'⟩,hx,hi⟩:=hp;rw[←hst]at hc;rw[←hns']at hns;clear hns';simp only[E4,p9,s6]at hc;obtain⟨hc,rfl⟩:=hc;obtain rfl:=b9B hnf hnm hc.symm;exact wpIn_skip (hq .normal _ _ _ _ hi hx)
 |label l=>
  intro k k' x hns hc Q' Q vars h a w hx hi hq;have hp:=a3R hgf hx hi;clear hx hi;obtain⟨x,vars,h,hnf,hnm,⟨hst,hns'⟩,hx,hi⟩:=hp;rw[←hst]at hc;rw[←hns']at hns;clear hns';simp only[E4,p9,s6]at hc;obtain⟨hc,rfl⟩:=hc;obtain rfl:=b9B hnf hnm hc.symm;exact wpIn_label (hq .normal _ _ _ _ hi hx)
 |exit id=>
  intro k k' x hns hc Q' Q vars h a w hx hi hq;have hp:=a3R hgf hx hi;clear hx hi;obtain⟨x,vars,h,hnf,hnm,⟨hst,hns'⟩,hx,hi⟩:=hp;rw[←hst]at hc;rw[←hns']at hns;clear hns';simp only[E4,p9,s6]at hc;obtain⟨hc,rfl⟩:=hc;obtain rfl:=c8G hnf hnm hc.symm;exact wpIn_exit (hq (.exit id) _ _ _ _ hi hx)
 |ret=>
  intro k k' x hns hc Q' Q vars h a w hx hi hq;have hp:=a3R hgf hx hi;clear hx hi;obtain⟨x,vars,h,hnf,hnm,⟨hst,hns'⟩,hx,hi⟩:=hp;rw[←hst]at hc;rw[←hns']at hns;clear hns';simp only[E4,p9,s6]at hc;obtain⟨hc,rfl⟩:=hc;obtain rfl:=c3T hnf hnm hc.symm;exact wpIn_ret (hq .ret _ _ _ _ hi hx)
 |region id ops d=>
  intro k k' x hns hc Q' Q vars h a w hx hi hq;have hp:=a3R hgf hx hi;clear hx hi;obtain⟨x,vars,h,hnf,hnm,⟨hst,hns'⟩,hx,hi⟩:=hp;rw[←hst]at hc;rw[←hns']at hns;clear hns';simp only[E4]at hc;split at hc
  . rename_i xs k1 hc0;simp only[p9,s6]at hc;obtain⟨hc,rfl⟩:=hc;obtain rfl:=c5X hnf hnm hc.symm;obtain⟨hsi,hx⟩:=hx;rw[show ops=ops.toList.toArray by simp];cases d with
    |false=>exact b3M rfl rfl a6f hn hc0 hsi hx (fun st a w hi hq'=>hq .normal _ _ _ _ hi hq') hi
    |true=>exact b2f hm rfl rfl a6f hn hc0 hsi hx (fun st a w hi hq'=>hq .normal _ _ _ _ hi hq') hi
  . cases hc
 |seq c1 c2 ih1 ih2=>
  intro k k' x hns hc Q' Q vars h a w hx hi hq;have hp:=a3R hgf hx hi;clear hx hi;obtain⟨x,vars,h,hnf,hnm,⟨hst,hns'⟩,hx,hi⟩:=hp;rw[←hst]at hc;rw[←hns']at hns;clear hns';simp only[E4]at hc;split at hc
  . rename_i x1 k1 h1;split at hc
    . rename_i x2 k2 h2;simp only[p9,s6]at hc;obtain⟨hc,rfl⟩:=hc;obtain⟨x1,x2,rfl,rfl,rfl⟩:=c2H hnf hnm hc.symm;simp only[a1W,E6]at hns;refine wpIn_seq (ih1 _ _ _ (hns.imp (·.1) fun h=>h) h1 _ _ _ _ _ _ hx hi fun e vars h a w hi he=>?_);cases e with
      |normal=>exact ih2 _ _ _ (hns.imp (·.2) fun h=>h) h2 _ _ _ _ _ _ he hi hq
      |exit id=>exact hq (.exit id) _ _ _ _ hi he
      |ret=>exact hq .ret _ _ _ _ hi he
    . cases hc
  . cases hc
 |cond cd c1 c2 ih1 ih2=>
  intro k k' x hns hc Q' Q vars h a w hx hi hq;have hp:=a3R hgf hx hi;clear hx hi;obtain⟨x,vars,h,hnf,hnm,⟨hst,hns'⟩,hx,hi⟩:=hp;rw[←hst]at hc;rw[←hns']at hns;clear hns';simp only[E4]at hc;split at hc
  . rename_i x1 k1 h1;split at hc
    . rename_i x2 k2 h2;split at hc
      . rename_i dd hdd;simp only[p9,s6]at hc;obtain⟨hc,rfl⟩:=hc;obtain⟨x1,x2,rfl,rfl,rfl⟩:=c8Z hnf hnm hc.symm;simp only[a1W,E6]at hns;obtain⟨G,i1,i2,i3⟩:=id hi;have hr:=b0l hdd i2;simp only[G5]at hx;split at hx
        . rename_i he;rw[he]at hr;exact wpIn_cond_true (a1c hr) (ih1 _ _ _ (hns.imp (·.1) fun h=>h) h1 _ _ _ _ _ _ hx hi hq)
        . rename_i he;rw[he]at hr;exact wpIn_cond_false (a1c hr) (ih2 _ _ _ (hns.imp (·.2) fun h=>h) h2 _ _ _ _ _ _ hx hi hq)
        . exact hx.elim
      . cases hc
    . cases hc
  . cases hc
 |block id c ih=>
  intro k k' x hns hc Q' Q vars h a w hx hi hq;have hp:=a3R hgf hx hi;clear hx hi;obtain⟨x,vars,h,hnf,hnm,⟨hst,hns'⟩,hx,hi⟩:=hp;rw[←hst]at hc;rw[←hns']at hns;clear hns';simp only[E4]at hc;split at hc
  . rename_i x1 k1 h1;simp only[p9,s6]at hc;obtain⟨hc,rfl⟩:=hc;obtain⟨x1,rfl,rfl⟩:=c4F hnf hnm hc.symm;refine wpIn_block (ih _ _ x1 (show a1W x1=true∨_ from hns) h1 _ _ _ _ _ _ hx hi fun e vars h a w hi he=>?_);cases e with
    |normal=>exact hq .normal _ _ _ _ hi he
    |exit i=>
     simp only[xin]at he;show Exit.inBlock id Q (.exit i) a w;simp only[Exit.inBlock];split at he
     . rename_i e;rw[if_pos e];exact hq .normal _ _ _ _ hi he
     . rename_i e;rw[if_neg e];exact hq (.exit i) _ _ _ _ hi he
    |ret=>exact hq .ret _ _ _ _ hi he
  . cases hc
 |loop c ih=>
  intro k k' x hns hc Q' Q vars h a w hx hi hq;have hp:=a3R hgf hx hi;clear hx hi;obtain⟨x,vars,h,hnf,hnm,⟨hst,hns'⟩,hx,hi⟩:=hp;rw[←hst]at hc;rw[←hns']at hns;clear hns';simp only[E4]at hc;split at hc
  . rename_i x1 k1 h1;simp only[p9,s6]at hc;obtain⟨hc,rfl⟩:=hc;rcases c6u hnf hnm hc.symm with⟨x1,rfl,rfl⟩|⟨lv,c0,x1,rfl,rfl⟩
    . obtain⟨n,hx⟩:=hx;refine wpIn_loop_rounds n ?_
      induction n generalizing vars h a w with
      |zero=>exact hx.elim
      |succ n ihn=>
       refine ih _ _ x1 (show a1W x1=true∨_ from hns) h1 _ _ _ _ _ _ hx hi fun e vars h a w hi he=>?_;cases e with
       |normal=>exact ihn _ _ _ _ hi he
       |exit id=>exact hq (.exit id) _ _ _ _ hi he
       |ret=>exact hq .ret _ _ _ _ hi he
    . obtain⟨n,hx⟩:=hx;refine wpIn_loop_rounds n ?_
      induction n generalizing vars h a w with
      |zero=>exact hx.elim
      |succ n ihn=>
       obtain⟨hok,hx⟩:=hx;have hfree:∀{g:PV} {G:Gh} {h:l5} {g':PV} {G':Gh} {h':l5} {w:World},W0.psi g G h w→W0.psi g' G' h' w:=by
        rcases hns with h1|h1
        . simp[a1W]at h1
        . exact h1
       refine ih _ _ _ (.inr hfree) h1 _ _ _ _ _ _ hx (c7L hfree hi hok) fun e vars h a w hi he=>?_;cases e with
       |normal=>exact ihn _ _ _ _ hi he
       |exit id=>exact hq (.exit id) _ _ _ _ hi he
       |ret=>exact hq .ret _ _ _ _ hi he
  . cases hc
 |scope c ih=>
  intro k k' x hns hc Q' Q vars h a w hx hi hq;have hp:=a3R hgf hx hi;clear hx hi;obtain⟨x,vars,h,hnf,hnm,⟨hst,hns'⟩,hx,hi⟩:=hp;rw[←hst]at hc;rw[←hns']at hns;clear hns';simp only[E4]at hc;refine b3S (ih _ _ _ hns hc _ _ _ _ _ _ hx hi fun e vars h a w hi he=>?_);cases e with
  |normal=>exact hq .normal _ _ _ _ hi he
  |exit id=>exact hq (.exit id) _ _ _ _ hi he
  |ret=>exact hq .ret _ _ _ _ hi he
 |rangeFunc g ps a b iha ihb=>
  intro k k' x hns hc Q' Q vars h act w hx hi hq;have hp:=a3R hgf hx hi;clear hx hi;obtain⟨x,vars,h,hnf,hnm,⟨hst,hns'⟩,hx,hi⟩:=hp;rw[←hst]at hc;rw[←hns']at hns;clear hns';simp only[E4]at hc;split at hc
  . rename_i x1 k1 h1;split at hc
    . rename_i x2 k2 h2;split at hc
      . rename_i gd hgd;split at hc
        . rename_i hcond;simp only[p9,s6]at hc;obtain⟨hc,rfl⟩:=hc;obtain⟨x1,x2,rfl,rfl,rfl⟩:=c5D hnf hnm hc.symm;simp only[E6]at hcond;exact b7X hm hn h1 h2 hgd hcond.1.1 hcond.1.2 hcond.2 hx hi hq
        . cases hc
      . cases hc
    . cases hc
  . cases hc
 |_=>
  intro k k' x hns hc;simp only[E4]at hc;cases hc
theorem b6x(hm:P.follows .mixedOrders=true){f:FuncId}{X:A0}{s0:Nat}(hc:a7h P f=some {X with sites:=s0,body:=strip X.body}){n:Nat}{szs:List Nat}{args:List PV}{r:PV}(hlen:args.length≤X.ntmps)
 (hx:G5 (fns P) X.body (b7n X.results szs r) (X.vars.map fun s=>args.getD s .uu) (List.replicate n (0,.dead))):Fn P f szs args r:=by
 unfold a7h at hc;dsimp only at hc;split at hc
 . cases hc
 . rename_i fn hfn;split at hc
   . cases hc
   . rename_i c hbody;split at hc
     . rename_i x k rs hcode hres;split at hc
       . rename_i hcond;obtain⟨hnm,hnd,hall,hpar⟩:=hcond;obtain⟨nt,vs0,si0,re0,bo0⟩:=X;simp only[p9,A0.mk.injEq]at hc;obtain⟨rfl,rfl,rfl,rfl,hb0⟩:=hc;rw[hb0]at hcode;refine⟨by unfold a1P;rw[hfn];simpa[hbody]using hnm,fun w Z vargs hz hargs=>?_⟩;refine(a4i (ρ:=none) (n:=0)).1 (callsIn_of_wp_marks hfn hbody trivial ?_);refine b4R hm (fun h=>h) (a5y hnd) c 0 k bo0 (.inr fun h=>h) hcode _ _ _ _ _ _ hx (c4R hall hz hargs hlen) fun e vars h a w' hi' he=>?_;obtain⟨he1,l,he2,he3,he4,rfl⟩:=he;cases e with
         |normal=>exact c1a hres hi' he2 he3 he4
         |ret=>exact c1a hres hi' he2 he3 he4
         |exit id=>exact he1.elim
       . cases hc
     . cases hc
theorem c0r(hm:P.follows .mixedOrders=true){f:FuncId}{off s0:Nat}{X:A0}(hc:S0 P f off=some {X with sites:=s0,body:=strip X.body})(hns:a1W X.body=true){first args cap:List PV}{r:PV}{h0:l5}{ws:List (Nat×Row)}(hlen:(first++args++cap).length≤X.ntmps)(ho:(first.all one&&cap.all one)=true)
 (hx:G5 (fns P) X.body (b3g X.results r h0 ws) (X.vars.map fun s=>(first++args++cap).getD s .uu) h0):FI P (.fn (.func f) first cap) args h0 r ws:=by
 unfold S0 at hc;dsimp only at hc;split at hc
 . cases hc
 . rename_i fn hfn;split at hc
   . cases hc
   . rename_i c hbody;split at hc
     . rename_i x k rs hcode hres;split at hc
       . rename_i hcond;obtain⟨hnm,hnd,hall,hpar⟩:=hcond;obtain⟨nt,vs0,si0,re0,bo0⟩:=X;simp only[p9,A0.mk.injEq]at hc;obtain⟨rfl,rfl,rfl,rfl,hb0⟩:=hc;rw[hb0]at hcode;refine⟨f,first,cap,rfl,by unfold a1P;rw[hfn];simpa[hbody]using hnm,ho,fun B Z0 G0 w vf va vc hr hf ha hcp=>?_⟩;refine(a4i (ρ:=none) (n:=0)).1 (callsIn_of_wp_marks hfn hbody trivial ?_);have hall':I6 (j8 G0 h0 w D) (vf++va++vc) (first++args++cap):=by
          refine⟨by simp[hf.1,ha.1,hcp.1],fun i p hp=>?_⟩;by_cases h1:i<first.length
          . rw[a3u,a0R h1]at hp;obtain⟨u,q1,q2⟩:=hf.2 i p hp;have:=(a2A.1 q1).1;exact⟨u,by rw[a6A,a2S this];exact q1,q2⟩
          . rw[a3u,a3X i9]at hp;by_cases h2:i-first.length<args.length
            . rw[a0R h2]at hp;obtain⟨u,q1,q2⟩:=ha.2 _ p hp;have:=(a2A.1 q1).1;refine⟨u,?_,q2⟩;rw[a6A,a5f (by rw[hf.1];omega),hf.1,a2S this];exact q1
            . rw[a3X i9]at hp;obtain⟨u,q1,q2⟩:=hcp.2 _ p hp;refine⟨u,?_,q2⟩;rw[a6A,a5f (by rw[hf.1];omega),hf.1,a5f (by rw[ha.1];omega),ha.1];exact q1
         obtain⟨hsz,hargs⟩:=hall';have hi:M9 B Z0 (M3.inner B G0 h0 w hr.base) (varsOf fn c) fn.ntmps ((varsOf fn c).map fun s=>(first++args++cap).getD s .uu) h0 {tmps:=(vf++va++vc)++Array.replicate (fn.ntmps-(vf++va++vc).size) undef,defers:=[]} w:=by
          have hlen':(first++args++cap).length≤fn.ntmps:=hlen;refine⟨G0,hr,fun i s hs=>?_,by rw[a6z,Array.size_replicate];omega,a0k.nil,Ext.refl,Bl.refl _ _⟩;have hsN:s<fn.ntmps:=(by simpa[a1I]using A8.1 hall s (C8 hs));rw[u9,H5,hs];simp only[a2U,a4I];by_cases hsa:s<(first++args++cap).length
          . grind
          . refine⟨undef,?_,?_⟩
            . grind
            . rw[u9,a0f i9];exact L3
         refine b4R hm (fun h=>h) (a5y hnd) c off k bo0 (.inl hns) hcode _ _ _ _ _ _ hx hi fun e vars h a w' hi' he=>?_;obtain⟨he1,l,he2,he3,rfl,rfl⟩:=he;have key:LeavesInM (fz none) 0 P fn a.tmps (fun e w'=>∃u G',e=.returned u∧p7 B Z0 G' (m6 h0 ws) w'∧Ext G0 h0 w G' (m6 h0 ws) w'∧j8 G' (m6 h0 ws) w' D u (a0e l)∧Bl B w w') a.defers .returning w':=by
          obtain⟨G,i1,i2,i3,⟨Ds,d1,d2,d3⟩,i5⟩:=hi';rw[d2];refine a8K (m:=w.heap.size) Ds w' d1 d3 fun w'' hs=>?_;obtain⟨j1,jx⟩:=i1.cells (w':=w'') (by rw[hs.size];exact m0 _) hs.cells;have j2:V9 G (m6 h0 ws) w'' (varsOf fn c) vars a:=fun k s hk=>by obtain⟨v,h1,h2⟩:=i2 k s hk;exact⟨v,h1,h2.ext jx⟩
          obtain⟨j5,j6⟩:=(M3.inner B G0 h0 w hr.base).shut i1 i5 hs;obtain⟨u,q0,_,q1,q2⟩:=a9Y (P:=P) (fn:=fn) j1 j2 hres he2;refine⟨u,q0,u,G,rfl,j1,j5,?_,j6⟩;by_cases h1:l.length=1
          . obtain⟨p,rfl⟩:∃p,l=[p]:=a9C.1 h1;exact q1 p rfl
          . obtain⟨us,hu,r2,r3⟩:=q2 h1;have e1:a0e l=.tup l:=by
             match l,h1 with
             | [],_=>rfl
             | [p],h1=>exact absurd rfl h1
             |_::_::_,_=>rfl
            rw[e1,hu];unfold D;unfold j8;refine⟨us,rfl,r2,fun i p hp=>?_⟩;obtain⟨u,g1,g2⟩:=r3 i p hp;have hfl:l.all a3d=true:=(by grind);exact⟨u,g1,b8J (A8.1 hfl p (C8 hp)) g2⟩
         cases e with
         |normal=>exact key
         |ret=>exact key
         |exit id=>exact he1.elim
       . cases hc
     . cases hc
end
end
structure Callee where
 fn:FuncId→List Nat→List PV→Option PV
 fi:PV→List PV→l5→Option (PV×List (Nat×Row))
section
variable{FN:N2}
theorem a6u{Q Q':B0→Prop}(hq:∀st,Q st→Q' st):∀{xs:List k8} {st:B0},F8 FN xs st Q→F8 FN xs st Q'
 | [],st,h=>hq _ h
 |x::xs,st,h=>by
  cases hg:gdO st.loc st.vars x.guard with
  |none=>simp only[F8,hg]at h
  |some c=>
   cases c with
   |false=>simp only[F8,hg]at h⊢;exact a6u hq h
   |true=>
    cases hx:x.op
    case call f args ks al=>
     simp only[F8,hg,hx]at h⊢;obtain⟨r,h0,h1,h2,h3⟩:=h;exact⟨r,h0,h1,h2,a6u hq h3⟩
    case callv f args=>
     simp only[F8,hg,hx]at h⊢;obtain⟨r,ws,h1,h2⟩:=h;exact⟨r,ws,h1,a6u hq h2⟩
    case cally f args=>
     simp only[F8,hg,hx]at h⊢;exact FN.my (fun _ _ _ h1=>⟨h1.1,a6u hq h1.2⟩) h
    all_goals
     simp only[F8,hg,hx]at h⊢;split at h
     . exact a6u hq h
     . exact h.elim
theorem b2C{K K':List PV→l5→Prop}{Q Q':I9}(hk:∀vs h,K vs h→K' vs h)(hq:∀e vs h,Q e vs h→Q' e vs h):∀e vs h,a2m K Q e vs h→a2m K' Q' e vs h:=by
 intro e vs h hh;cases e with
 |normal=>exact hk _ _ hh
 |exit id=>exact hq _ _ _ hh
 |ret=>exact hq _ _ _ hh
theorem b2r{body:I9→List PV→l5→Prop}(hb:∀{Q Q':I9},(∀e vs h,Q e vs h→Q' e vs h)→∀{vs h},body Q vs h→body Q' vs h){Q Q':I9}(hq:∀e vs h,Q e vs h→Q' e vs h):∀{n:Nat} {vs:List PV} {h:l5},a3B body Q n vs h→a3B body Q' n vs h
 |0,_,_,hh=>hh
 |n+1,vs,h,hh=>hb (b2C (fun _ _=>b2r hb hq) hq) hh
theorem a5w:∀{c:C6} {Q Q':I9},(∀e vs h,Q e vs h→Q' e vs h)→∀{vs:List PV} {h:l5},G5 FN c Q vs h→G5 FN c Q' vs h:=by
 intro c
 induction c with
 |skip=>intro Q Q' hq vs h hh;exact hq _ _ _ hh
 |reg xs=>intro Q Q' hq vs h hh;exact⟨hh.1,a6u (fun st=>hq _ _ _) hh.2⟩
 |seq a b iha ihb=>intro Q Q' hq vs h hh;exact iha (b2C (fun _ _=>ihb hq) hq) hh
 |cond c a b iha ihb=>
  intro Q Q' hq vs h hh;simp only[G5]at hh⊢;split at hh
  . exact iha hq hh
  . exact ihb hq hh
  . exact hh.elim
 |block id b ih=>
  intro Q Q' hq vs h hh;refine ih (fun e vs h he=>?_) hh;cases e with
  |normal=>exact hq _ _ _ he
  |ret=>exact hq _ _ _ he
  |exit i=>
   simp only[xin]at he⊢;split at he
   . grind
   . grind
 |loop b ih=>
  intro Q Q' hq vs h hh;obtain⟨n,hh⟩:=hh;exact⟨n,b2r (body:=G5 FN b) (fun hq _ _ hb=>ih hq hb) hq hh⟩
 |loopS lv c0 b ih=>
  intro Q Q' hq vs h hh;obtain⟨n,hh⟩:=hh;exact⟨n,b2r (body:=fun Q vs h=>settled lv c0 vs h (G5 FN b Q)) (fun hq _ _ hb=>⟨hb.1,ih hq hb.2⟩) hq hh⟩
 |G6 l b ih=>intro Q Q' hq vs h hh;exact ih hq hh
 |G4 v c k sz b ih=>intro Q Q' hq vs h hh;exact ih hq hh
 |rfor g ps a b iha ihb=>intro Q Q' hq vs h hh;exact FN.mi (fun _ _ h1=>hq _ _ _ h1) hh
 |exit id=>intro Q Q' hq vs h hh;exact hq _ _ _ hh
 |ret=>intro Q Q' hq vs h hh;exact hq _ _ _ hh
theorem c3P{σ:Type}(I:σ→List PV→l5→Prop)(μ:σ→Nat){lv:List Nat}{c0:Nat}{b:C6}{Q:I9}{vs:List PV}{h:l5}(s:σ)(hstart:settled lv c0 vs h (I s))
 (hround:∀s vs h,I s vs h→G5 FN b (a2m (fun vs h=>settled lv c0 vs h fun vs h=>∃s',I s' vs h∧μ s'<μ s) Q) vs h):G5 FN (.loopS lv c0 b) Q vs h:=by
 have key:∀n s vs h,μ s<n→settled lv c0 vs h (I s)→a3B (fun Q vs h=>settled lv c0 vs h (G5 FN b Q)) Q n vs h:=by
  intro n
  induction n with
  |zero=>intro s vs h hn;omega
  |succ n ih=>
   intro s vs h hn hs;refine⟨hs.1,a5w (b2C (fun vs h hh=>?_) fun _ _ _=>id) (hround s _ _ hs.2)⟩;obtain⟨h1,s',h2,h3⟩:=hh;exact ih s' vs h i9 ⟨h1,h2⟩
 exact⟨μ s+1,key _ s vs h i9 hstart⟩
end
section
variable{args:List PV}{r f:PV}{ws:List (Nat×Row)}
theorem b9s:∃f:N2→List k8→B0→(B0→Prop)→Prop,f=F8:=⟨_,rfl⟩
noncomputable def Xr:=Classical.choose b9s
theorem a6t:Xr=F8:=Classical.choose_spec b9s
theorem b8g:∃f:N2→C6→I9→List PV→l5→Prop,f=G5:=⟨_,rfl⟩
noncomputable def Xw:=Classical.choose b8g
theorem a0L:Xw=G5:=Classical.choose_spec b8g
theorem c9t{a b:Int}:(a==b)=decide (a=b):=by grind
theorem c6b{a b:Int}:(a !=b)=!decide (a=b):=by grind
theorem c8J{a b:Nat}:((a:Int)=(b:Int))=(a=b):=by grind
def KN(Q:I9)(st:B0):Prop:=Q .normal st.vars st.heap
def Xo(FN:N2)(o:Option Eff)(var:Option Nat)(xs:List k8)(st:B0)(Q:B0→Prop):Prop:=match o with
 |some (p,ws)=>Xr FN xs ⟨st.loc++[p],K6 st.vars var p,m6 st.heap ws⟩ Q
 |none=>False
def Xc(FN:N2)(f:FuncId)(szs:List Nat)(args:List PV)(own:Bool)(ks:List (Nat×Nat))(hide:List Nat)(var:Option Nat)(xs:List k8)(st:B0)(Q:B0→Prop):Prop:=
 ∃r,FN.fn f szs args r∧a4g st.heap.length ks own r=true∧
  Xr FN xs ⟨st.loc++[X2 (N6 ks) (Y1 (l8 st.heap hide)) r],K6 st.vars var (X2 (N6 ks) (Y1 (l8 st.heap hide)) r),m6 st.heap (J4 (N6 ks) (Y1 (l8 st.heap hide)) 0 (B5 r))⟩ Q
def Xv(FN:N2)(f:PV)(args:List PV)(var:Option Nat)(xs:List k8)(st:B0)(Q:B0→Prop):Prop:=
 ∃r ws,FN.fi f args st.heap r ws∧Xr FN xs ⟨st.loc++[r],K6 st.vars var r,m6 st.heap ws⟩ Q
def Xvh(FN:N2)(hide:List Nat)(f:PV)(args:List PV)(var:Option Nat)(xs:List k8)(st:B0)(Q:B0→Prop):Prop:=
 ∃r ws,((∀h',agr hide st.heap h'→FN.fi f args h' r ws)∧a2v hide (y9 st.loc st.vars) ws=true)∧Xr FN xs ⟨st.loc++[r],K6 st.vars var r,m6 st.heap ws⟩ Q
def Xy(FN:N2)(f:PV)(args:List PV)(var:Option Nat)(xs:List k8)(st:B0)(Q:B0→Prop):Prop:=
 FN.fy f args st.vars st.heap fun r vs h=>h.length=st.heap.length∧Xr FN xs ⟨st.loc++[r],K6 vs var r,h⟩ Q
def a5E(FN:N2)(ps:List (Option Nat))(a b:C6)(vs:List PV):YT:=fun args h1 k=>args.length=ps.length∧Xw FN a (a9w fun vs2 h2=>Xw FN b (fun e _ h3=>k (a8B e) h3) vs2 h2) (a5U vs ps args) h1
def Xi(FN:N2)(v:PV)(ps:List (Option Nat))(a b:C6)(Q:I9)(vs:List PV)(h:l5):Prop:=
 FN.it v (a5E FN ps a b vs) h fun p h'=>Q (unp p) vs h'
def Xe(FN:N2)(op:N5)(var:Option Nat)(hide:List Nat)(xs:List k8)(st:B0)(Q:B0→Prop):Prop:=match op with
 | .call f args ks al=>(al=true→args.all (fun a=>a3f (y9 st.loc st.vars a))=true)∧Xc FN f (ks.map (·.2)) (args.map fun a=>fzV (l8 st.heap hide) (y9 st.loc st.vars a)) ((args.map (y9 st.loc st.vars)).any (a2g (l8 st.heap hide))) ks hide var xs st Q
 | .callv f args=>(match hide with
  | []=>Xv FN (y9 st.loc st.vars f) (args.map (y9 st.loc st.vars)) var xs st Q
  |k::l=>Xvh FN (k::l) (y9 st.loc st.vars f) (args.map (y9 st.loc st.vars)) var xs st Q)
 | .cally f args=>Xy FN (y9 st.loc st.vars f) (args.map (y9 st.loc st.vars)) var xs st Q
 |op=>Xo FN (s9 (y9 st.loc st.vars) (l8 st.heap hide) op) var xs st Q
def Xg(FN:N2)(g:Option Bool)(op:N5)(var:Option Nat)(hide:List Nat)(xs:List k8)(st:B0)(Q:B0→Prop):Prop:=match g with
 |none=>False
 |some false=>Xr FN xs ⟨st.loc++[.tup []],K6 st.vars var (.tup []),st.heap⟩ Q
 |some true=>Xe FN op var hide xs st Q
section
variable{FN:N2}{Q:I9}{vs:List PV}{h:l5}
theorem c4O{l:List PV}:Xr FN [] ⟨l,vs,h⟩ (KN Q)=Q .normal vs h:=by rw[a6t];rfl
theorem c2N{op:N5}{var:Option Nat}{g:Option (s8×Bool)}{hide:List Nat}{xs:List k8}{l:List PV}{K:B0→Prop}:Xr FN (⟨op,var,g,hide⟩::xs) ⟨l,vs,h⟩ K=Xg FN (gdO l vs g) op var hide xs ⟨l,vs,h⟩ K:=by
 rw[a6t];unfold Xg;cases hg:gdO l vs g with
 |none=>simp[F8,hg]
 |some b=>
  cases b with
  |false=>rw[a6t];simp[F8,hg]
  |true=>
   unfold Xe;cases op
   case callv f args=>cases hide<;>simp only[F8,hg,fiH,Xv,Xvh,a6t]
   case call f args ks al=>
    simp only[F8,hg,Xc,a6t];exact propext ⟨fun⟨r,h0,h1⟩=>⟨h0,r,h1⟩,fun⟨h0,r,h1⟩=>⟨r,h0,h1⟩⟩
   all_goals (simp only[F8,hg,Xo,Xy,a6t]<;>first|rfl|skip)
section
variable{var:Option Nat}{xs:List k8}{K:B0→Prop}{hide:List Nat}{l:List PV}{op:N5}{st:B0}{k:Nat}
theorem g_f:Xg FN (some false) op var hide xs ⟨l,vs,h⟩ K=Xr FN xs ⟨l++[.tup []],K6 vs var (.tup []),h⟩ K:=rfl
theorem g_t:Xg FN (some true) op var hide xs st K=Xe FN op var hide xs st K:=rfl
theorem e_mv{x}:Xe FN (.mv x) var hide xs ⟨l,vs,h⟩ K=Xo FN (s9 (y9 l vs) (l8 h hide) (.mv x)) var xs ⟨l,vs,h⟩ K:=rfl
theorem c9G{c}{a}{b}:Xe FN (.pick c a b) var hide xs ⟨l,vs,h⟩ K=Xo FN (s9 (y9 l vs) (l8 h hide) (.pick c a b)) var xs ⟨l,vs,h⟩ K:=rfl
theorem c4p{k}{zs}:Xe FN (.alloc k zs) var hide xs ⟨l,vs,h⟩ K=Xo FN (s9 (y9 l vs) (l8 h hide) (.alloc k zs)) var xs ⟨l,vs,h⟩ K:=rfl
theorem c9r{k}{x}:Xe FN (.box k x) var hide xs ⟨l,vs,h⟩ K=Xo FN (s9 (y9 l vs) (l8 h hide) (.box k x)) var xs ⟨l,vs,h⟩ K:=rfl
theorem c9H{zs}{parts}:Xe FN (.build zs parts) var hide xs ⟨l,vs,h⟩ K=Xo FN (s9 (y9 l vs) (l8 h hide) (.build zs parts)) var xs ⟨l,vs,h⟩ K:=rfl
theorem c3M{k}{sz}{zs}{parts}:Xe FN (.mkarr k sz zs parts) var hide xs ⟨l,vs,h⟩ K=Xo FN (s9 (y9 l vs) (l8 h hide) (.mkarr k sz zs parts)) var xs ⟨l,vs,h⟩ K:=rfl
theorem c2q{sz}{zs}{parts}:Xe FN (.lit sz zs parts) var hide xs ⟨l,vs,h⟩ K=Xo FN (s9 (y9 l vs) (l8 h hide) (.lit sz zs parts)) var xs ⟨l,vs,h⟩ K:=rfl
theorem c6j{agg}{sz}{a}:Xe FN (.load agg sz a) var hide xs ⟨l,vs,h⟩ K=Xo FN (s9 (y9 l vs) (l8 h hide) (.load agg sz a)) var xs ⟨l,vs,h⟩ K:=rfl
theorem c9A{agg}{sz}{a}:Xe FN (.loadV agg sz a) var hide xs ⟨l,vs,h⟩ K=Xo FN (s9 (y9 l vs) (l8 h hide) (.loadV agg sz a)) var xs ⟨l,vs,h⟩ K:=rfl
theorem c6e{sz}{a}{v}:Xe FN (.store sz a v) var hide xs ⟨l,vs,h⟩ K=Xo FN (s9 (y9 l vs) (l8 h hide) (.store sz a v)) var xs ⟨l,vs,h⟩ K:=rfl
theorem c5z{x}:Xe FN (.nilchk x) var hide xs ⟨l,vs,h⟩ K=Xo FN (s9 (y9 l vs) (l8 h hide) (.nilchk x)) var xs ⟨l,vs,h⟩ K:=rfl
theorem c9m{op}{bt}{x}{y}:Xe FN (.bin op bt x y) var hide xs ⟨l,vs,h⟩ K=Xo FN (s9 (y9 l vs) (l8 h hide) (.bin op bt x y)) var xs ⟨l,vs,h⟩ K:=rfl
theorem e_un{op}{x}:Xe FN (.un op x) var hide xs ⟨l,vs,h⟩ K=Xo FN (s9 (y9 l vs) (l8 h hide) (.un op x)) var xs ⟨l,vs,h⟩ K:=rfl
theorem c5I{k}{x}:Xe FN (.conv k x) var hide xs ⟨l,vs,h⟩ K=Xo FN (s9 (y9 l vs) (l8 h hide) (.conv k x)) var xs ⟨l,vs,h⟩ K:=rfl
theorem c6C{x}:Xe FN (.convStr x) var hide xs ⟨l,vs,h⟩ K=Xo FN (s9 (y9 l vs) (l8 h hide) (.convStr x)) var xs ⟨l,vs,h⟩ K:=rfl
theorem c7y{k}{sz}{bytes}{z}{len}{cap}:Xe FN (.makeSlice k sz bytes z len cap) var hide xs ⟨l,vs,h⟩ K=Xo FN (s9 (y9 l vs) (l8 h hide) (.makeSlice k sz bytes z len cap)) var xs ⟨l,vs,h⟩ K:=rfl
theorem c1n{st}{sz}{x}{lo}{hi}{mx}:Xe FN (.slice st sz x lo hi mx) var hide xs ⟨l,vs,h⟩ K=Xo FN (s9 (y9 l vs) (l8 h hide) (.slice st sz x lo hi mx)) var xs ⟨l,vs,h⟩ K:=rfl
theorem c1V{off}{x}:Xe FN (.fieldAddr off x) var hide xs ⟨l,vs,h⟩ K=Xo FN (s9 (y9 l vs) (l8 h hide) (.fieldAddr off x)) var xs ⟨l,vs,h⟩ K:=rfl
theorem c9i{agg}{off}{sz}{x}:Xe FN (.field agg off sz x) var hide xs ⟨l,vs,h⟩ K=Xo FN (s9 (y9 l vs) (l8 h hide) (.field agg off sz x)) var xs ⟨l,vs,h⟩ K:=rfl
theorem c1y{sz}{x}{i}:Xe FN (.indexAddr sz x i) var hide xs ⟨l,vs,h⟩ K=Xo FN (s9 (y9 l vs) (l8 h hide) (.indexAddr sz x i)) var xs ⟨l,vs,h⟩ K:=rfl
theorem c1C{n}{sz}{x}{i}:Xe FN (.indexAddrA n sz x i) var hide xs ⟨l,vs,h⟩ K=Xo FN (s9 (y9 l vs) (l8 h hide) (.indexAddrA n sz x i)) var xs ⟨l,vs,h⟩ K:=rfl
theorem c4c{x}{i}:Xe FN (.indexS x i) var hide xs ⟨l,vs,h⟩ K=Xo FN (s9 (y9 l vs) (l8 h hide) (.indexS x i)) var xs ⟨l,vs,h⟩ K:=rfl
theorem c4Q{x}{i}:Xe FN (.extract x i) var hide xs ⟨l,vs,h⟩ K=Xo FN (s9 (y9 l vs) (l8 h hide) (.extract x i)) var xs ⟨l,vs,h⟩ K:=rfl
theorem c4u{f}{args}:Xe FN (.cally f args) var hide xs ⟨l,vs,h⟩ K=Xy FN (y9 l vs f) (args.map (y9 l vs)) var xs ⟨l,vs,h⟩ K:=rfl
theorem c6m{f}{args}:Xe FN (.callv f args) var [] xs ⟨l,vs,h⟩ K=Xv FN (y9 l vs f) (args.map (y9 l vs)) var xs ⟨l,vs,h⟩ K:=rfl
theorem c1x{f}{args}:Xe FN (.callv f args) var (k::hide) xs ⟨l,vs,h⟩ K=Xvh FN (k::hide) (y9 l vs f) (args.map (y9 l vs)) var xs ⟨l,vs,h⟩ K:=rfl
end
theorem c5s{hide:List Nat}{var:Option Nat}{xs:List k8}{l:List PV}{K:B0→Prop}(hf:∀h',agr hide h h'→FN.fi f args h' r ws)
 (hk:a2v hide (y9 l vs) ws=true∧Xr FN xs ⟨l++[r],K6 vs var r,m6 h ws⟩ K):Xvh FN hide f args var xs ⟨l,vs,h⟩ K:=⟨r,ws,⟨hf,hk.1⟩,hk.2⟩
section
variable{var:Option Nat}{hide:List Nat}{xs:List k8}{l:List PV}{K:B0→Prop}
theorem c6o{st}{x}:Xe FN (.len st x) var hide xs ⟨l,vs,h⟩ K=Xo FN (s9 (y9 l vs) (l8 h hide) (.len st x)) var xs ⟨l,vs,h⟩ K:=rfl
theorem c6y{mx}{ys}:Xe FN (.minmax mx ys) var hide xs ⟨l,vs,h⟩ K=Xo FN (s9 (y9 l vs) (l8 h hide) (.minmax mx ys)) var xs ⟨l,vs,h⟩ K:=rfl
theorem c1N{k}{sz}{bytes}{mode}{s}{x}:Xe FN (.append k sz bytes mode s x) var hide xs ⟨l,vs,h⟩ K=Xo FN (s9 (y9 l vs) (l8 h hide) (.append k sz bytes mode s x)) var xs ⟨l,vs,h⟩ K:=rfl
theorem c7T{f}{first}{captured}:Xe FN (.mkfn f first captured) var hide xs ⟨l,vs,h⟩ K=Xo FN (s9 (y9 l vs) (l8 h hide) (.mkfn f first captured)) var xs ⟨l,vs,h⟩ K:=rfl
theorem c1A{k}{zs}:Xe FN (.allocA k zs) var hide xs ⟨l,vs,h⟩ K=Xo FN (s9 (y9 l vs) (l8 h hide) (.allocA k zs)) var xs ⟨l,vs,h⟩ K:=rfl
theorem c8T{k}{x}:Xe FN (.boxA k x) var hide xs ⟨l,vs,h⟩ K=Xo FN (s9 (y9 l vs) (l8 h hide) (.boxA k x)) var xs ⟨l,vs,h⟩ K:=rfl
theorem c7Z{n}{a}:Xe FN (.loadA n a) var hide xs ⟨l,vs,h⟩ K=Xo FN (s9 (y9 l vs) (l8 h hide) (.loadA n a)) var xs ⟨l,vs,h⟩ K:=rfl
theorem c9b{n}{a}{v}:Xe FN (.storeA n a v) var hide xs ⟨l,vs,h⟩ K=Xo FN (s9 (y9 l vs) (l8 h hide) (.storeA n a v)) var xs ⟨l,vs,h⟩ K:=rfl
theorem c1X{neg}{ts}{x}{y}:Xe FN (.eqS neg ts x y) var hide xs ⟨l,vs,h⟩ K=Xo FN (s9 (y9 l vs) (l8 h hide) (.eqS neg ts x y)) var xs ⟨l,vs,h⟩ K:=rfl
theorem c7I{neg}{x}{y}:Xe FN (.eqNil neg x y) var hide xs ⟨l,vs,h⟩ K=Xo FN (s9 (y9 l vs) (l8 h hide) (.eqNil neg x y)) var xs ⟨l,vs,h⟩ K:=rfl
theorem c8d{k}{r}:Xe FN (.makeMap k r) var hide xs ⟨l,vs,h⟩ K=Xo FN (s9 (y9 l vs) (l8 h hide) (.makeMap k r)) var xs ⟨l,vs,h⟩ K:=rfl
theorem c9F{kt}{m}{x}{v}:Xe FN (.mapUpd kt m x v) var hide xs ⟨l,vs,h⟩ K=Xo FN (s9 (y9 l vs) (l8 h hide) (.mapUpd kt m x v)) var xs ⟨l,vs,h⟩ K:=rfl
theorem c6X{kt}{ok}{z}{m}{x}:Xe FN (.lookup kt ok z m x) var hide xs ⟨l,vs,h⟩ K=Xo FN (s9 (y9 l vs) (l8 h hide) (.lookup kt ok z m x)) var xs ⟨l,vs,h⟩ K:=rfl
theorem c8Q{k}{kt}{sz}{z}{m}{x}:Xe FN (.lookupT k kt sz z m x) var hide xs ⟨l,vs,h⟩ K=Xo FN (s9 (y9 l vs) (l8 h hide) (.lookupT k kt sz z m x)) var xs ⟨l,vs,h⟩ K:=rfl
theorem a9X{sz}{a}{v}{av}:Xe FN (.storeN sz a v av) var hide xs ⟨l,vs,h⟩ K=Xo FN (s9 (y9 l vs) (l8 h hide) (.storeN sz a v av)) var xs ⟨l,vs,h⟩ K:=rfl
theorem c7d{n}{sz}{x}{lo}{hi}:Xe FN (.sliceV n sz x lo hi) var hide xs ⟨l,vs,h⟩ K=Xo FN (s9 (y9 l vs) (l8 h hide) (.sliceV n sz x lo hi)) var xs ⟨l,vs,h⟩ K:=rfl
theorem c4T{neg}{x}{y}:Xe FN (.eqPtr neg x y) var hide xs ⟨l,vs,h⟩ K=Xo FN (s9 (y9 l vs) (l8 h hide) (.eqPtr neg x y)) var xs ⟨l,vs,h⟩ K:=rfl
theorem c5W{m}:Xe FN (.clearM m) var hide xs ⟨l,vs,h⟩ K=Xo FN (s9 (y9 l vs) (l8 h hide) (.clearM m)) var xs ⟨l,vs,h⟩ K:=rfl
theorem c9z{z}{x}:Xe FN (.clearS z x) var hide xs ⟨l,vs,h⟩ K=Xo FN (s9 (y9 l vs) (l8 h hide) (.clearS z x)) var xs ⟨l,vs,h⟩ K:=rfl
end
theorem c4h{f:FuncId}{args:List s8}{ks:List (Nat×Nat)}{al:Bool}{var:Option Nat}{hide:List Nat}{xs:List k8}{l:List PV}{K:B0→Prop}:Xe FN (.call f args ks al) var hide xs ⟨l,vs,h⟩ K=
 ((al=true→args.all (fun a=>a3f (y9 l vs a))=true)∧Xc FN f (ks.map (·.2)) (args.map fun a=>fzV (l8 h hide) (y9 l vs a)) ((args.map (y9 l vs)).any (a2g (l8 h hide))) ks hide var xs ⟨l,vs,h⟩ K):=rfl
theorem c8Y{p:PV}{var:Option Nat}{xs:List k8}{l:List PV}{K:B0→Prop}:Xo FN (some (p,ws)) var xs ⟨l,vs,h⟩ K=Xr FN xs ⟨l++[p],K6 vs var p,m6 h ws⟩ K:=rfl
theorem a2O{var:Option Nat}{xs:List k8}{l:List PV}{K:B0→Prop}(hf:FN.fi f args h r ws)
 (hk:Xr FN xs ⟨l++[r],K6 vs var r,m6 h ws⟩ K):Xv FN f args var xs ⟨l,vs,h⟩ K:=⟨r,ws,hf,hk⟩
theorem l7{f:FuncId}{szs:List Nat}{own:Bool}{ks:List (Nat×Nat)}{hide:List Nat}{var:Option Nat}{xs:List k8}{l:List PV}{K:B0→Prop}(hf:FN.fn f szs args r)
 (hk:a4g h.length ks own r=true∧Xr FN xs ⟨l++[X2 (N6 ks) (Y1 (l8 h hide)) r],K6 vs var (X2 (N6 ks) (Y1 (l8 h hide)) r),m6 h (J4 (N6 ks) (Y1 (l8 h hide)) 0 (B5 r))⟩ K):
 Xc FN f szs args own ks hide var xs ⟨l,vs,h⟩ K:=⟨r,hf,hk⟩
theorem c4d:Xw FN .skip Q vs h=Q .normal vs h:=by rw[a0L];rfl
theorem c5K{xs:List k8}:Xw FN (.reg xs) Q vs h=(a2a h.length xs=true∧Xr FN xs ⟨[],vs,h⟩ (KN Q)):=by rw[a0L,a6t];rfl
theorem c0H{a b:C6}:Xw FN (.seq a b) Q vs h=Xw FN a (a2m (Xw FN b Q) Q) vs h:=by rw[a0L];rfl
theorem b8K{c:s8}{a b:C6}(hc:y9 [] vs c=.bool true):Xw FN (.cond c a b) Q vs h=Xw FN a Q vs h:=by rw[a0L];simp only[G5,hc]
theorem b7x{c:s8}{a b:C6}(hc:y9 [] vs c=.bool false):Xw FN (.cond c a b) Q vs h=Xw FN b Q vs h:=by rw[a0L];simp only[G5,hc]
theorem c2Q{c:s8}{a b:C6}{t:Bool}(hc:y9 [] vs c=.bool t)(h1:t=true→Xw FN a Q vs h)(h2:t=false→Xw FN b Q vs h):Xw FN (.cond c a b) Q vs h:=by
 cases t
 . rw[b7x hc];exact h2 rfl
 . rw[b8K hc];exact h1 rfl
section
variable{id v k sz i:Nat}{b a:C6}{K:List PV→l5→Prop}{l:List (Nat×Bool)}{g:s8}{ps:List (Option Nat)}{c:Option Nat}
theorem c9d:Xw FN (.block id b) Q vs h=Xw FN b (xin id Q) vs h:=by rw[a0L];rfl
theorem c3l:Xw FN (.G6 l b) Q vs h=Xw FN b Q vs (a5u l h):=by rw[a0L];rfl
theorem c2G:Xw FN (.rfor g ps a b) Q vs h=Xi FN (y9 [] vs g) ps a b Q vs h:=by unfold Xi a5E;rw[a0L];rfl
theorem c3j:a9w K .normal vs h=K vs h:=rfl
theorem c7n:Xw FN (.G4 v c k sz b) Q vs h=Xw FN b Q (a3g v c k sz vs h).1 (a3g v c k sz vs h).2:=by rw[a0L];rfl
theorem c7C:Xw FN (.exit id) Q vs h=Q (.exit id) vs h:=by rw[a0L];rfl
theorem c4W:Xw FN .ret Q vs h=Q .ret vs h:=by rw[a0L];rfl
theorem c6E:a2m K Q .normal vs h=K vs h:=rfl
theorem c3I:a2m K Q (.exit id) vs h=Q (.exit id) vs h:=rfl
theorem c8s:a2m K Q .ret vs h=Q .ret vs h:=rfl
theorem c5M:xin id Q .normal vs h=Q .normal vs h:=rfl
theorem c8P:xin id Q (.exit i) vs h=if i=id then Q .normal vs h else Q (.exit i) vs h:=rfl
theorem c9u:xin id Q .ret vs h=Q .ret vs h:=rfl
end
theorem I2{σ:Type}(I:σ→List PV→l5→Prop)(μ:σ→Nat){lv:List Nat}{c0:Nat}{b:C6}(s:σ)(hstart:settled lv c0 vs h (I s))
 (hround:∀s vs h,I s vs h→∀Q':I9,(∀s' vs h,μ s'<μ s→settled lv c0 vs h (I s')→Q' .normal vs h)→(∀id vs h,Q (.exit id) vs h→Q' (.exit id) vs h)→(∀vs h,Q .ret vs h→Q' .ret vs h)→Xw FN b Q' vs h):Xw FN (.loopS lv c0 b) Q vs h:=by
 rw[a0L]at hround⊢;refine c3P I μ s hstart fun s vs h hI=>hround s vs h hI _ (fun s' vs h h1 h2=>⟨h2.1,s',h2.2,h1⟩) (fun _ _ _=>id) fun _ _=>id
theorem b8T{c:C6}{Q Q':I9}(hq:∀e vs h,Q e vs h→Q' e vs h)(hh:Xw FN c Q vs h):Xw FN c Q' vs h:=by rw[a0L]at hh⊢;exact a5w hq hh
end
section
variable{P:Program}
theorem c1q{vs:List PV}{h:l5}{var:Option Nat}{xs:List k8}{l:List PV}{K:B0→Prop}(hf:FI P f args h r ws)
 (hk:Xr (fns P) xs ⟨l++[r],K6 vs var r,m6 h ws⟩ K):Xy (fns P) f args var xs ⟨l,vs,h⟩ K:=⟨r,ws,hf,a6m _ _,hk⟩
def fin(rs:List (Nat×Option (Bool×Nat)))(szs:List Nat)(r:PV)(vs:List PV)(h:l5):Prop:=
 ∃l,a2I (l8 h []) vs rs=some l∧a3j (a8a (a0e l))=true∧a3J szs 0 ((a0m (a0e l)).flatMap l6)=true∧rvV (l8 h []) (a0e l)=r
theorem c1F(hm:P.follows .mixedOrders=true){f:FuncId}{X:A0}{s0:Nat}(hc:a7h P f=some {X with sites:=s0,body:=strip X.body})(n:Nat){szs:List Nat}(hlen:args.length≤X.ntmps)
 (h:∀Q:I9,(∀vs h,fin X.results szs r vs h→Q .ret vs h)→(∀vs h,fin X.results szs r vs h→Q .normal vs h)→Xw (fns P) X.body Q (X.vars.map fun s=>args.getD s .uu) (List.replicate n (0,.dead))):Fn P f szs args r:=
 b6x hm hc (n:=n) hlen (by rw[←a0L];exact h _ (fun _ _ h=>⟨trivial,h⟩) fun _ _ h=>⟨trivial,h⟩)
end
end
section
variable{P:Program}
theorem a6S:∀{xs:List k8} {st:B0} {Q:B0→Prop},F8 (fns P) xs st Q→∃st',F8 (fns P) xs st (· =st')∧Q st'
 | [],st,Q,h=>⟨st,rfl,h⟩
 |x::xs,st,Q,h=>by
  cases hg:gdO st.loc st.vars x.guard with
  |none=>simp only[F8,hg]at h
  |some c=>
   cases c with
   |false=>simp only[F8,hg]at h⊢;exact a6S h
   |true=>
    cases hx:x.op
    case call f args ks al=>
     simp only[F8,hg,hx]at h⊢;obtain⟨r,h0,h1,h2,h3⟩:=h;obtain⟨st',h4,h5⟩:=a6S h3;exact⟨st',⟨r,h0,h1,h2,h4⟩,h5⟩
    case callv f args=>
     simp only[F8,hg,hx]at h⊢;obtain⟨r,ws,h1,h3⟩:=h;obtain⟨st',h4,h5⟩:=a6S h3;exact⟨st',⟨r,ws,h1,h4⟩,h5⟩
    case cally f args=>
     simp only[F8,hg,hx]at h⊢;obtain⟨r,ws,h1,h2,h3⟩:=h;obtain⟨st',h4,h5⟩:=a6S h3;exact⟨st',⟨r,ws,h1,h2,h4⟩,h5⟩
    all_goals
     simp only[F8,hg,hx]at h⊢;split at h
     . exact a6S h
     . exact h.elim
abbrev At(e:O6)(vs:List PV)(h:l5):I9:=fun e' vs' h'=>e'=e∧vs'=vs∧h'=h
theorem b2F{body:I9→List PV→l5→Prop}(hm:∀{Q Q':I9},(∀e vs h,Q e vs h→Q' e vs h)→∀{vs h},body Q vs h→body Q' vs h)(hb:∀{Q:I9} {vs h},body Q vs h→∃e vs' h',body (At e vs' h') vs h∧Q e vs' h'):∀{n:Nat} {Q:I9} {vs:List PV} {h:l5},a3B body Q n vs h→∃e vs' h',a3B body (At e vs' h') n vs h∧Q e vs' h'
 |0,_,_,_,hh=>hh.elim
 |n+1,Q,vs,h,hh=>by
  obtain⟨e,vs',h',h1,h2⟩:=hb (show body (a2m (a3B body Q n) Q) vs h from hh);cases e with
  |normal=>
   obtain⟨e2,vs2,hp2,h3,h4⟩:=b2F hm hb (show a3B body Q n vs' h' from h2);refine⟨e2,vs2,hp2,hm (fun e v p hx=>?_) h1,h4⟩;obtain⟨rfl,rfl,rfl⟩:=hx;exact h3
  |exit id=>exact⟨.exit id,vs',h',hm (fun e v p hx=>by obtain⟨rfl,rfl,rfl⟩:=hx;exact⟨rfl,rfl,rfl⟩) h1,h2⟩
  |ret=>exact⟨.ret,vs',h',hm (fun e v p hx=>by obtain⟨rfl,rfl,rfl⟩:=hx;exact⟨rfl,rfl,rfl⟩) h1,h2⟩
def noX:C6→Bool
 | .seq a b| .cond _ a b=>noX a&&noX b
 | .block _ b| .loop b| .loopS _ _ b| .G6 _ b| .G4 _ _ _ _ b=>noX b
 | .rfor .. =>false
 |_=>true
theorem b6b:∀{c:C6},noX c=true→∀{Q:I9} {vs:List PV} {h:l5},G5 (fns P) c Q vs h→∃e vs' h',G5 (fns P) c (At e vs' h') vs h∧Q e vs' h':=by
 intro c
 induction c with
 |skip=>intro hnx Q vs h hh;exact⟨.normal,vs,h,⟨rfl,rfl,rfl⟩,hh⟩
 |reg xs=>
  intro hnx Q vs h hh;obtain⟨st',h1,h2⟩:=a6S hh.2;exact⟨.normal,st'.vars,st'.heap,⟨hh.1,a6u (fun st e=>by subst e;exact⟨rfl,rfl,rfl⟩) h1⟩,h2⟩
 |seq a b iha ihb=>
  intro hnx Q vs h hh;simp only[noX,E6]at hnx;obtain⟨e,vs',h',h1,h2⟩:=iha hnx.1 (show G5 (fns P) a (a2m (G5 (fns P) b Q) Q) vs h from hh);have up:∀e2 v2 p2,a2m (G5 (fns P) b (At e2 v2 p2)) (At e2 v2 p2) e vs' h'→G5 (fns P) (.seq a b) (At e2 v2 p2) vs h:=fun e2 v2 p2 hq=>
   show G5 (fns P) a (a2m (G5 (fns P) b (At e2 v2 p2)) (At e2 v2 p2)) vs h from a5w (fun e v p hx=>by obtain⟨rfl,rfl,rfl⟩:=hx;exact hq) h1
  cases e with
  |normal=>
   obtain⟨e2,vs2,hp2,h3,h4⟩:=ihb hnx.2 (show G5 (fns P) b Q vs' h' from h2);exact⟨e2,vs2,hp2,up _ _ _ h3,h4⟩
  |exit id=>exact⟨.exit id,vs',h',up _ _ _ ⟨rfl,rfl,rfl⟩,h2⟩
  |ret=>exact⟨.ret,vs',h',up _ _ _ ⟨rfl,rfl,rfl⟩,h2⟩
 |cond c a b iha ihb=>
  intro hnx Q vs h hh;simp only[noX,E6]at hnx;simp only[G5]at hh⊢;split at hh
  . exact iha hnx.1 hh
  . exact ihb hnx.2 hh
  . exact hh.elim
 |block id b ih=>
  intro hnx Q vs h hh;obtain⟨e,vs',h',h1,h2⟩:=ih hnx (show G5 (fns P) b (xin id Q) vs h from hh);have up:∀e2 v2 p2,xin id (At e2 v2 p2) e vs' h'→G5 (fns P) (.block id b) (At e2 v2 p2) vs h:=fun e2 v2 p2 hq=>
   show G5 (fns P) b (xin id (At e2 v2 p2)) vs h from a5w (fun e v p hx=>by obtain⟨rfl,rfl,rfl⟩:=hx;exact hq) h1
  cases e with
  |normal=>exact⟨.normal,vs',h',up _ _ _ ⟨rfl,rfl,rfl⟩,h2⟩
  |ret=>exact⟨.ret,vs',h',up _ _ _ ⟨rfl,rfl,rfl⟩,h2⟩
  |exit i=>
   simp only[xin]at h2;split at h2
   . rename_i e;exact⟨.normal,vs',h',up _ _ _ (by simp only[xin];rw[if_pos e];exact⟨rfl,rfl,rfl⟩),h2⟩
   . rename_i e;exact⟨.exit i,vs',h',up _ _ _ (by simp only[xin];rw[if_neg e];exact⟨rfl,rfl,rfl⟩),h2⟩
 |loop b ih=>
  intro hnx Q vs h hh;obtain⟨n,hh⟩:=hh;obtain⟨e,vs',h',h1,h2⟩:=b2F (body:=G5 (fns P) b) (fun hq _ _ hb=>a5w hq hb) (fun hb=>ih hnx hb) hh;exact⟨e,vs',h',⟨n,h1⟩,h2⟩
 |loopS lv c0 b ih=>
  intro hnx Q vs h hh;obtain⟨n,hh⟩:=hh;obtain⟨e,vs',h',h1,h2⟩:=b2F (body:=fun Q vs h=>settled lv c0 vs h (G5 (fns P) b Q)) (fun hq _ _ hb=>⟨hb.1,a5w hq hb.2⟩) (fun hb=>by obtain⟨e,vs',h',h1,h2⟩:=ih hnx hb.2;exact⟨e,vs',h',⟨hb.1,h1⟩,h2⟩) hh
  exact⟨e,vs',h',⟨n,h1⟩,h2⟩
 |G6 l b ih=>
  intro hnx Q vs h hh;exact ih hnx (show G5 (fns P) b Q vs (a5u l h)from hh)
 |G4 v c k sz b ih=>
  intro hnx Q vs h hh;exact ih hnx (show G5 (fns P) b Q (a3g v c k sz vs h).1 (a3g v c k sz vs h).2 from hh)
 |rfor=>intro hnx;simp[noX]at hnx
 |exit id=>intro hnx Q vs h hh;exact⟨.exit id,vs,h,⟨rfl,rfl,rfl⟩,hh⟩
 |ret=>intro hnx Q vs h hh;exact⟨.ret,vs,h,⟨rfl,rfl,rfl⟩,hh⟩
end
theorem a2x{P:Program}{φ:PV→Prop}(hm:P.follows .mixedOrders=true){f:FuncId}{X:A0}{s0:Nat}(hc:a7h P f=some {X with sites:=s0,body:=strip X.body})(n:Nat){szs:List Nat}{args:List PV}(hlen:args.length≤X.ntmps)
 (hnx:noX X.body=true) (h:∀Q:I9,(∀r vs h,φ r→fin X.results szs r vs h→Q .ret vs h)→(∀r vs h,φ r→fin X.results szs r vs h→Q .normal vs h)→Xw (fns P) X.body Q (X.vars.map fun s=>args.getD s .uu) (List.replicate n (0,.dead))):∃r,φ r∧Fn P f szs args r:=by
 have hh:=h (fun e vs h=>∃r,φ r∧b7n X.results szs r e vs h) (fun r vs h h1 h2=>⟨r,h1,trivial,h2⟩) (fun r vs h h1 h2=>⟨r,h1,trivial,h2⟩);rw[a0L]at hh;obtain⟨e,vs',h',h1,r,h2,h3⟩:=b6b hnx hh;exact⟨r,h2,b6x hm hc (n:=n) hlen (a5w (fun e v p hx=>by obtain⟨rfl,rfl,rfl⟩:=hx;exact h3) h1)⟩
theorem E3{FN:N2}{Q:I9}{vs:List PV}{h:l5}{σ:Type}(I:σ→List PV→l5→Prop)(μ:σ→Nat){b:C6}(s:σ)(hstart:I s vs h)
 (hround:∀s vs h,I s vs h→∀Q':I9,(∀s' vs h,μ s'<μ s→I s' vs h→Q' .normal vs h)→(∀id vs h,Q (.exit id) vs h→Q' (.exit id) vs h)→(∀vs h,Q .ret vs h→Q' .ret vs h)→Xw FN b Q' vs h):Xw FN (.loop b) Q vs h:=by
 rw[a0L]at hround⊢;have key:∀n s vs h,μ s<n→I s vs h→a3B (G5 FN b) Q n vs h:=by
  intro n
  induction n with
  |zero=>intro s vs h hn;omega
  |succ n ih=>
   intro s vs h hn hs;exact hround s vs h hs _ (fun s' vs h h1 h2=>ih s' vs h i9 h2) (fun _ _ _=>id) fun _ _=>id
 exact⟨μ s+1,key _ s vs h i9 hstart⟩
def P6(rs:List (Nat×Option (Bool×Nat)))(r:PV)(h0:l5)(ws:List (Nat×Row))(vs:List PV)(h:l5):Prop:=
 ∃l,a2I (l8 h []) vs rs=some l∧(l.length==1||l.all a3d)=true∧a0e l=r∧h=m6 h0 ws
theorem c4I{P:Program}(hm:P.follows .mixedOrders=true){f:FuncId}{off:Nat}{X:A0}(hc:S0 P f off=some X){first args cap:List PV}{h0:l5}{r:PV}{ws:List (Nat×Row)}(hlen:(first++args++cap).length≤X.ntmps)(ho:(first.all one&&cap.all one)=true)
 (h:∀Q:I9,(∀vs h,P6 X.results r h0 ws vs h→Q .ret vs h)→(∀vs h,P6 X.results r h0 ws vs h→Q .normal vs h)→Xw (fns P) X.body Q (X.vars.map fun s=>(first++args++cap).getD s .uu) h0):FI P (.fn (.func f) first cap) args h0 r ws:=
 c8y hm hc hlen ho (by rw[←a0L];exact h _ (fun _ _ h=>⟨trivial,h⟩) fun _ _ h=>⟨trivial,h⟩)
theorem a3k{P:Program}(hm:P.follows .mixedOrders=true){f:FuncId}{off s0:Nat}{X:A0}(hc:S0 P f off=some {X with sites:=s0,body:=strip X.body})(hns:a1W X.body=true){first args cap:List PV}{h0:l5}{r:PV}{ws:List (Nat×Row)}(hlen:(first++args++cap).length≤X.ntmps)(ho:(first.all one&&cap.all one)=true)
 (h:∀Q:I9,(∀vs h,P6 X.results r h0 ws vs h→Q .ret vs h)→(∀vs h,P6 X.results r h0 ws vs h→Q .normal vs h)→Xw (fns P) X.body Q (X.vars.map fun s=>(first++args++cap).getD s .uu) h0):FI P (.fn (.func f) first cap) args h0 r ws:=
 c0r hm hc hns hlen ho (by rw[←a0L];exact h _ (fun _ _ h=>⟨trivial,h⟩) fun _ _ h=>⟨trivial,h⟩)
def gOf:Option O6→PV
 |none=>.uu
 |some .ret=>.int .i64 0
 |some (.exit id)=>.int .i64 ((id:Int)+1)
 |some .normal=>.int .i64 (-1)
theorem b5v{p q:Option O6}(h:gOf p=gOf q):p=q:=by
 rcases p with _|p
 . rcases q with _|q
   . rfl
   . cases q<;>cases h
 . rcases q with _|q
   . cases p<;>cases h
   . cases p<;>cases q<;>simp only[gOf,PV.int.injEq,true_and]at h<;>first|rfl|omega|skip
     grind
def a7P(Y:YT):Prop:=∀(args:List PV) (h:l5) (k k':Option O6→l5→Prop),(∀p h,k p h→k' p h)→Y args h k→Y args h k'
def fnY(P:Program)(l n:Nat)(Y:YT)(hm:a7P Y):N2:=
 ⟨Fn P,FI P,fun v args vars h K=>fyI P v args vars h K∨(v=.fn (.yield l) [] []∧vars.getD n .uu=gOf none∧vars.length=n+1∧Y args h fun p h'=>K (.bool p.isNone) (vars.set n (gOf p)) h'),IT P,
  fun hk h=>h.imp (fun⟨r,ws,h1,h2⟩=>⟨r,ws,h1,hk _ _ _ h2⟩) fun⟨h1,h2,h3,h4⟩=>⟨h1,h2,h3,hm _ _ _ _ (fun _ _=>hk _ _ _) h4⟩,fun hk h=>h.mono hk⟩
section
variable{P:Program}{B:Nat}{Z0:Nat→Prop}{G G':Gh}{h h':l5}{w w':World}
theorem c2p{F:Fence}{n l:Nat}{va:Array Value}{R R':Ending→World→Prop}(hr:∀e w,R e w→R' e w)(hy:YieldAt F n P l va w R):YieldAt F n P l va w R':=by obtain⟨fn,t,a,b,h1,h2⟩:=hy;exact⟨fn,t,a,b,h1,h2.mono hr⟩
theorem c5A{vs:List Nat}{N:Nat}:∀{c:Code} {k k':Nat} {x:C6},E4 P vs N k c=some (x,k')→noX x=true→Y4 c=true:=by
 intro c
 induction c with
 |seq a b iha ihb=>
  intro k k' x hc hn;simp only[E4]at hc;split at hc
  . rename_i h1;split at hc
    . rename_i h2;cases hc;simp only[noX,E6]at hn;simp only[Y4,E6]
      grind
    . cases hc
  . cases hc
 |cond cd a b iha ihb=>
  intro k k' x hc hn;simp only[E4]at hc;split at hc
  . rename_i h1;split at hc
    . rename_i h2;split at hc
      . cases hc;simp only[noX,E6]at hn;simp only[Y4,E6]
        grind
      . cases hc
    . cases hc
  . cases hc
 |block id b ih=>
  intro k k' x hc hn;simp only[E4]at hc;split at hc
  . rename_i h1;cases hc;exact ih h1 hn
  . cases hc
 |loop b ih=>
  intro k k' x hc hn;simp only[E4]at hc;split at hc
  . rename_i h1;cases hc;exact ih h1 hn
  . cases hc
 |scope b ih=>intro k k' x hc hn;exact ih (show E4 P vs N k b=_ from hc) hn
 |rangeFunc g ps a b iha ihb=>
  intro k k' x hc hn;simp only[E4]at hc;split at hc
  . split at hc
    . split at hc
      . split at hc
        . cases hc;simp[noX]at hn
        . cases hc
      . cases hc
    . cases hc
  . cases hc
 |_=>intros;rfl
theorem c4U:∀{x:C6},noX (H7 x)=noX x:=by
 intro x
 induction x<;>simp_all [H7,noX]
def M3.it(w:World)(B:Nat)(Z0:Nat→Prop)(G0:Gh)(h0:l5)(Ψ:Option O6→Gh→l5→World→Prop)
 (hstep:∀{p:Option O6} {G:Gh} {h:l5} {w:World} {G':Gh} {h':l5} {w':World},Ψ p G h w→Ext G h w G' h' w'→Bl B w w'→Ψ p G' h' w')
 (hshut:∀{Z0:Nat→Prop} {p:Option O6} {G:Gh} {h:l5} {w1 w2:World},p7 B Z0 G h w1→Ψ p G h w1→X0 w.heap.size w1 w2→Ψ p G h w2):M3 B:=
 ⟨w.heap.size,fun g G h w'=>∃p,g=gOf p∧Ext G0 h0 w G h w'∧Ψ p G h w'∧w.heap.size≤w'.heap.size,fun⟨_,_,_,_,h⟩=>h,
  fun⟨p,h1,h2,h3,h4⟩ x b=>⟨p,h1,h2.trans x,hstep h3 x b,S7 h4 b.size⟩,
  fun r ⟨p,h1,h2,h3,h4⟩ s=>⟨p,h1,h2.trans (r.cells (by rw[s.size];exact m0 _) s.cells).2,hshut r h3 s,by rw[s.size];exact h4⟩⟩
theorem b8m(hm:P.follows .mixedOrders=true){f:FuncId}{off:Nat}{X:A0}{s0:Nat}(hc:S0 P f off=some {X with sites:=s0,body:=H7 X.body})(hres0:X.results=[])(hnx:noX X.body=true){cap:List PV}{Y:YT}(hYm:a7P Y){K:Option O6→l5→Prop}{h0:l5}
 (hlen:cap.length+1≤X.ntmps) (ho:cap.all one=true)
 (hx:∀(l:Nat) (Q:I9),(∀p vs h,vs.getD X.vars.length .uu=gOf p→K p h→Q .ret vs h)→(∀p vs h,vs.getD X.vars.length .uu=gOf p→K p h→Q .normal vs h)→
  Xw (fnY P l X.vars.length Y hYm) X.body Q ((X.vars.map fun s=>(.fn (.yield l) [] []::cap).getD s .uu)++[gOf none]) h0):IT P (.fn (.func f) [] cap) Y h0 K:=by
 unfold S0 at hc;dsimp only at hc;split at hc
 . cases hc
 . rename_i fn hfn;split at hc
   . cases hc
   . rename_i c hbody;split at hc
     . rename_i x k rs hcode hres;split at hc
       . rename_i hcond;obtain⟨hnm,hnd,hall,hpar⟩:=hcond;obtain⟨nt,vs0,si0,re0,bo0⟩:=X;simp only[p9,A0.mk.injEq]at hc;obtain⟨rfl,rfl,rfl,rfl,hb0⟩:=hc;rw[hb0]at hcode;simp only at hres0 hlen hx hnx;subst hres0;refine⟨f,cap,rfl,by unfold a1P;rw[hfn];simpa[hbody]using hnm,ho,fun B Z0 G0 w vc l Ψ hr hcp hstep hshut hY hΨ=>?_⟩;refine(a4i (ρ:=none) (n:=0)).1 (callsIn_of_wp_marks hfn hbody trivial ?_);have hsz:(#[.func (.yield l) #[] #[]]++vc:Array Value).size=cap.length+1:=(by simp[hcp.1];omega);have hargs:∀(i:Nat) p,(PV.fn (.yield l) [] []::cap)[i]?=some p→∃u,(#[.func (.yield l) #[] #[]]++vc:Array Value)[i]?=some u∧j8 G0 h0 w D u p:=fun i p hp=>by
          cases i with
          |zero=>
           simp at hp;subst hp;refine⟨.func (.yield l) #[] #[],(a2S (by grind)).trans rfl,?_⟩;unfold D;unfold j8;exact⟨_,_,rfl,⟨rfl,fun i c hc=>by simp at hc⟩,⟨rfl,fun i c hc=>by simp at hc⟩⟩
          |succ i=>
           obtain⟨u,q1,q2⟩:=hcp.2 i p (by simpa using hp);refine⟨u,?_,q2⟩;rw[a5f k7];simpa using q1
         have hgn:∀(l:List PV) (g:PV) (n:Nat),l.length=n→(l++[g]).getD n .uu=g:=fun l g n e=>by subst e;simp[u9]
         have hi:M9 B Z0 (M3.it w B Z0 G0 h0 Ψ hstep hshut) (varsOf fn c) fn.ntmps (((varsOf fn c).map fun s=>(.fn (.yield l) [] []::cap).getD s .uu)++[gOf none]) h0 {tmps:=(#[.func (.yield l) #[] #[]]++vc)++Array.replicate (fn.ntmps-(#[.func (.yield l) #[] #[]]++vc:Array Value).size) undef,defers:=[]} w:=by
          refine⟨G0,hr,fun i s hs=>?_,by rw[a6z,Array.size_replicate];omega,a0k.nil,none,hgn _ _ _ k7,Ext.refl,hΨ,m0 _⟩;have hsN:s<fn.ntmps:=(by simpa[a1I]using A8.1 hall s (C8 hs));rw[u9,a0R (by grind),H5,hs];simp only[a2U,a4I];by_cases hsa:s<(PV.fn (.yield l) [] []::cap).length
          . grind
          . refine⟨undef,?_,?_⟩
            . grind
            . rw[u9,a0f i9];exact L3
         have hfy:a7f P B Z0 (M3.it w B Z0 G0 h0 Ψ hstep hshut) none (varsOf fn c) (fnY P l (varsOf fn c).length Y hYm).fy:=by
          rintro v args vars h1 K1 (hv|⟨rfl,hv1,hv2,hv3⟩) G1 w1 u va r1 hpsi hu hva
          . exact a6f hv r1 hpsi hu hva
          . right
            unfold D at hu;unfold j8 at hu;obtain⟨a1,a2,rfl,a3,a4⟩:=hu;have e1:a1= #[]:=b1N (by simpa using a3.1);have e2:a2= #[]:=b1N (by simpa using a4.1);subst e1;subst e2;obtain⟨p0,g1,g2,g3,g4⟩:=hpsi;have hp0:p0=none:=b5v (by rw[←g1];exact hv1);subst hp0;refine⟨l,rfl,fun n=>c2p ?_ (hY hv3 r1 g3 hva n)⟩;rintro e w2 ⟨p,h2,G2,rfl,k1,k2,k3,k4,k5,k6⟩;refine⟨.bool p.isNone,vars.set (varsOf fn c).length (gOf p),h2,.bool p.isNone,G2,rfl,k1,fun k hk=>?_,k2,k3,a1l,⟨p,?_,g2.trans k3,k4,i9⟩,fun ds hd=>k6 _ _ hd⟩
            . grind
            . unfold V7;rw[u9,D7 i9];rfl
         refine b2d (FN:=fnY P l (varsOf fn c).length Y hYm) hm (a5y hnd) rfl rfl hfy c (c5A hcode (by rw[c4U];exact hnx)) off k bo0 hcode (fun e vs h=>(match e with| .exit _=>False|_=>True)∧∃p,vs.getD (varsOf fn c).length .uu=gOf p∧K p h) _ _ _ _ _ (by have:=hx l (fun e vs h=>(match e with| .exit _=>False|_=>True)∧∃p,vs.getD (varsOf fn c).length .uu=gOf p∧K p h) (fun p vs h e1 e2=>⟨trivial,p,e1,e2⟩) (fun p vs h e1 e2=>⟨trivial,p,e1,e2⟩);rw[a0L]at this;exact this) hi fun e vars h a w' hi' he=>?_
         obtain⟨he1,p,he2,he3⟩:=he;have key:LeavesInM (fz none) 0 P fn a.tmps (fun e w'=>∃u p h' G',e=.returned u∧K p h'∧p7 B Z0 G' h' w'∧Ext G0 h0 w G' h' w'∧Ψ p G' h' w') a.defers .returning w':=by
          obtain⟨G,i1,i2,i3,⟨Ds,d1,d2,d3⟩,p',g1,g2,g3,g4⟩:=hi';have hpp:p'=p:=b5v (by rw[←g1];exact he2);subst hpp;rw[d2];refine a8K (m:=w.heap.size) Ds w' d1 d3 fun w'' hs=>?_;obtain⟨j1,jx⟩:=i1.cells (w':=w'') (by rw[hs.size];exact m0 _) hs.cells;have j2:V9 G h w'' (varsOf fn c) vars a:=fun k s hk=>by obtain⟨v,h1,h2⟩:=i2 k s hk;exact⟨v,h1,h2.ext jx⟩
          obtain⟨u,q0,_⟩:=a9Y (P:=P) (fn:=fn) j1 j2 hres (l:=[]) rfl;exact⟨u,q0,u,p',h,G,rfl,he3,j1,g2.trans jx,hshut i1 g3 hs⟩
         cases e with
         |normal=>exact key
         |ret=>exact key
         |exit id=>exact he1.elim
       . cases hc
     . cases hc
end
theorem b1H{FN:N2}{ps:List (Option Nat)}{a b:C6}{vs:List PV}:a7P (a5E FN ps a b vs):=fun _ _ _ _ hk hh=>
 ⟨hh.1,b8T (fun e vs h he=>by
  cases e with
  |normal=>exact b8T (fun e vs h he=>hk _ _ he) (show Xw FN b _ vs h from he)
  |exit id=>exact he.elim
  |ret=>exact he.elim) hh.2⟩
section
variable{P:Program}{Q:I9}{vs:List PV}{h:l5}
theorem b2P(hm:P.follows .mixedOrders=true){f:FuncId}{off s0:Nat}{X:A0}(hc:S0 P f off=some {X with sites:=s0,body:=H7 X.body})(hres0:X.results=[])(hnx:noX X.body=true){cap:List PV}{ps:List (Option Nat)}{a b:C6}(hlen:cap.length+1≤X.ntmps)(ho:cap.all one=true)
 (hx:∀(l:Nat) (Q2:I9),(∀p vs2 h,vs2.getD X.vars.length .uu=gOf p→Q (unp p) vs h→Q2 .ret vs2 h)→(∀p vs2 h,vs2.getD X.vars.length .uu=gOf p→Q (unp p) vs h→Q2 .normal vs2 h)→
  Xw (fnY P l X.vars.length (a5E (fns P) ps a b vs) b1H) X.body Q2 ((X.vars.map fun s=>(.fn (.yield l) [] []::cap).getD s .uu)++[gOf none]) h):
 Xi (fns P) (.fn (.func f) [] cap) ps a b Q vs h:=b8m hm hc hres0 hnx b1H hlen ho hx
theorem a4X{l n:Nat}{Y:YT}{hm:a7P Y}{args:List PV}{var:Option Nat}{xs:List k8}{loc:List PV}{K:B0→Prop}(h1:vs.getD n .uu=gOf none)(h2:vs.length=n+1)
 (hk:Y args h fun p h'=>h'.length=h.length∧Xr (fnY P l n Y hm) xs ⟨loc++[.bool p.isNone],K6 (vs.set n (gOf p)) var (.bool p.isNone),h'⟩ K):Xy (fnY P l n Y hm) (.fn (.yield l) [] []) args var xs ⟨loc,vs,h⟩ K:=.inr ⟨rfl,h1,h2,hk⟩
end
section
section
variable{k g o gl l K G V I J i j ver:Nat}{es cs a c vs ks:List PV}{n:Int}{s:ByteArray}{b:Bool}{v:Value}{f:Go.Fn}
@[simp] theorem d0d:A6 (.bool b)=true:=rfl
@[simp] theorem d1z{k:IntKind}:A6 (.int k n)=true:=rfl
@[simp] theorem d1Y:A6 (.str s)=true:=rfl
@[simp] theorem c9Y:A6 (.lit v)=true:=rfl
@[simp] theorem d1q:A6 (.slc es)=true:=rfl
@[simp] theorem d0L{s:Nat}:A6 (.own k g gl s o l)=false:=rfl
@[simp] theorem d0i:A6 (.ptr k g o)=false:=rfl
@[simp] theorem d2p{s:Nat}:A6 (.eptr k g gl s i j)=false:=rfl
@[simp] theorem d0W:A6 (.fptr cs)=true:=rfl
@[simp] theorem d1T:A6 .ne=false:=rfl
@[simp] theorem d1D:I5 (.bool b)=false:=rfl
@[simp] theorem d0o{k:IntKind}:I5 (.int k n)=false:=rfl
@[simp] theorem d2h:I5 (.str s)=false:=rfl
@[simp] theorem d2G:I5 (.nils)=true:=rfl
@[simp] theorem c9L:I5 (.slc es)=false:=rfl
@[simp] theorem c9Z:I5 (.uslc es)=true:=rfl
@[simp] theorem d0Z{s:Nat}:I5 (.own k g gl s o l)=false:=rfl
@[simp] theorem d0B:I5 .ne=false:=rfl
@[simp] theorem d1h:one (.bool b)=true:=rfl
@[simp] theorem d0F{k:IntKind}:one (.int k n)=true:=rfl
@[simp] theorem d2r:one (.str s)=true:=rfl
@[simp] theorem d1s:one (.lit v)=true:=rfl
@[simp] theorem d0w:one (.nils)=true:=rfl
@[simp] theorem d0P:one (.slc es)=true:=rfl
@[simp] theorem d1R{s:Nat}:one (.own k g gl s o l)=true:=rfl
@[simp] theorem d2a:one (.ptr k g o)=true:=rfl
@[simp] theorem d0Y{s:Nat}:one (.eptr k g gl s i j)=true:=rfl
@[simp] theorem d0v:one (.fptr cs)=true:=rfl
@[simp] theorem c9W:one (.agg cs)=false:=rfl
@[simp] theorem d0J:one (.fn f a c)=(a.all T6&&c.all T6):=rfl
@[simp] theorem d1P:T6 (.ptr k g o)=true:=rfl
@[simp] theorem d0z:isStr (.str s)=true:=rfl
@[simp] theorem d0c:isStr (.nils)=false:=rfl
@[simp] theorem d2g:isStr (.slc es)=false:=rfl
@[simp] theorem d0A{s:Nat}:isStr (.own k g gl s o l)=false:=rfl
@[simp] theorem d2x:isStr (.nown k g ver i j o l)=false:=rfl
@[simp] theorem c9P:isStr .ne=false:=rfl
@[simp] theorem d1J:a9N (.nils)=false:=rfl
@[simp] theorem d1y{s:Nat}:a9N (.own k g gl s o l)=true:=rfl
@[simp] theorem d1G:a9N .ne=false:=rfl
@[simp] theorem d2i:l6 (.bool b)=[.bool b]:=rfl
@[simp] theorem d2c:a0m (.bool b)=[.bool b]:=rfl
@[simp] theorem d1o:B3 (.bool b)=(.bool b):=rfl
@[simp] theorem c9S:D4 (.bool b)=true:=rfl
@[simp] theorem d2v:ldC K G V I J (.bool b)=(.bool b):=rfl
@[simp] theorem d1N:a2H (.bool b)=true:=rfl
@[simp] theorem d0K{k:IntKind}:l6 (.int k n)=[.int k n]:=rfl
@[simp] theorem d1Z{k:IntKind}:a0m (.int k n)=[.int k n]:=rfl
@[simp] theorem d0Q{k:IntKind}:M1 (.int k n)=(.int k n):=rfl
@[simp] theorem d2f{k:IntKind}:B3 (.int k n)=(.int k n):=rfl
@[simp] theorem d1l{k:IntKind}:D4 (.int k n)=true:=rfl
@[simp] theorem c9R{k:IntKind}:ldC K G V I J (.int k n)=(.int k n):=rfl
@[simp] theorem d1m{k:IntKind}:a6o (.int k n)=true:=rfl
@[simp] theorem c9J{k:IntKind}:a2H (.int k n)=true:=rfl
@[simp] theorem d0R:l6 (.str s)=[.str s]:=rfl
@[simp] theorem d2C:M1 (.str s)=(.str s):=rfl
@[simp] theorem d2n:B3 (.str s)=(.str s):=rfl
@[simp] theorem d0a:D4 (.str s)=true:=rfl
@[simp] theorem d2d:ldC K G V I J (.str s)=(.str s):=rfl
@[simp] theorem d2b:a6o (.str s)=true:=rfl
@[simp] theorem d1n:a2H (.str s)=true:=rfl
@[simp] theorem d0V:l6 (.nils)=[.nils]:=rfl
@[simp] theorem d1u:B3 (.nils)=(.slc []):=rfl
@[simp] theorem d1K:D4 (.nils)=true:=rfl
@[simp] theorem c9O:ldC K G V I J (.nils)=(.nils):=rfl
@[simp] theorem d0U:a2H (.nils)=true:=rfl
@[simp] theorem d0T:l6 (.slc es)=[.slc es]:=rfl
@[simp] theorem d1Q:a0m (.slc es)=[.slc es]:=rfl
@[simp] theorem d2k:M1 (.slc es)=(.slc es):=rfl
@[simp] theorem d1p:B3 (.slc es)=(.slc es):=rfl
@[simp] theorem d2o:D4 (.slc es)=true:=rfl
@[simp] theorem d1C:ldC K G V I J (.slc es)=(.slc es):=rfl
@[simp] theorem d2l:a2H (.slc es)=false:=rfl
@[simp] theorem d1d:l6 (.uslc es)=[.uslc es]:=rfl
@[simp] theorem d2E:a0m (.uslc es)=[.uslc es]:=rfl
@[simp] theorem d2s:M1 (.uslc es)=(.slc es):=rfl
@[simp] theorem d0l:ldC K G V I J (.uslc es)=(.nown K G V I J 0 es.length):=rfl
@[simp] theorem c9Q:a2H (.uslc es)=(es.all fun e=>(l6 e).all a6o):=rfl
@[simp] theorem d2t{s:Nat}:l6 (.own k g gl s o l)=[.own k g gl s o l]:=rfl
@[simp] theorem d0n{s:Nat}:a0m (.own k g gl s o l)=[.own k g gl s o l]:=rfl
@[simp] theorem d0q{s:Nat}:ldC K G V I J (.own k g gl s o l)=(.own k g gl s o l):=rfl
@[simp] theorem d1w:l6 (.ptr k g o)=[.ptr k g o]:=rfl
@[simp] theorem d2e:ldC K G V I J (.ptr k g o)=(.ptr k g o):=rfl
@[simp] theorem d0h{s:Nat}:l6 (.eptr k g gl s i j)=[.eptr k g gl s i j]:=rfl
@[simp] theorem d0r:l6 (.fptr cs)=[.fptr cs]:=rfl
@[simp] theorem c9V:a0m (.fptr cs)=[.fptr cs]:=rfl
@[simp] theorem d2D:a2H (.fptr cs)=false:=rfl
@[simp] theorem d0C:l6 (.agg cs)=cs:=rfl
@[simp] theorem d0e:a0m (.agg cs)=[.agg cs]:=rfl
@[simp] theorem d0y:B3 (.agg cs)=(.agg (cs.map M1)):=rfl
@[simp] theorem c9K:D4 (.agg cs)=(cs.all fun c=>A6 c||I5 c):=rfl
@[simp] theorem d1t:a0m (.tup vs)=vs:=rfl
@[simp] theorem d0X:l6 (.fn f a c)=[.fn f a c]:=rfl
@[simp] theorem d1f:l6 .ne=[.ne]:=rfl
@[simp] theorem d0k:ldC K G V I J .ne=.ne:=rfl
@[simp] theorem d1W:A6 (.J9 ks vs)=true:=rfl
@[simp] theorem d0N:one (.mapv k g)=true:=rfl
@[simp] theorem d0g:l6 (.mapv k g)=[.mapv k g]:=rfl
end
end
theorem b2K{p:PV→Prop}(l:List Bool)(h:∀b,p (.bool b)):∀x,x∈List.map PV.bool l→p x:=fun x hx=>by obtain⟨b,_,rfl⟩:=E9.1 hx;exact h b
@[simp ↓] theorem d0I(l:List Bool):(∀x,x∈List.map PV.bool l→D4 x=true)=True:=eq_true (b2K l fun _=>rfl)
@[simp] theorem c9U:B3∘PV.bool=PV.bool:=rfl
@[simp] theorem c9M(k:IntKind):B3∘PV.int k=PV.int k:=rfl
@[simp] theorem d1U{α β:Type}(f:α→β)(l:List α):List.take l.length (List.map f l)=List.map f l:=U4 k7
attribute [simp] c7n a3g c2G c3j c4u a5U a8B unp c3l c9t c6b c8J c4d c4O c2N g_f g_t c4h c8Y c5K c0H b8K b7x c9d c7C c4W c6E c3I c8s c5M c8P c9u e_mv c9G c4p c9r c9H c3M c2q c6j c9A c6e c5z c9m e_un c5I c6C c7y c1n c1V c9i c1y c1C c4c c4Q c6m c6o c6y c1N a7Q c7T c1A c8T c7Z c9b c1X c7I c4T c7d a9X c1x c5W c9z c8d c9F c6X c8Q
attribute [simp] Q7 a3O ghI a8f a8k b0q b0R a3f a2b a2v avO a9F b0H a7j a6K gdO y9 s9 K6 b0j a6y unP m6 a2a G8 l8 a0j a1Z b0G a4s a6G sliceB asInt a1S fzV fzC fzP settled sKs b1Q b2H b9L a8P b9n ren a8v a0n b1C a5S a3N sVs sOk a3j fin a2I a7R a8a a3J rvV rvE rvC a0e a4g rOk B5 J4 a2g a7q a5u a8c a0q a0a a4x noS N6 Y1 a1z a1O X2 a2c M5 a5d a4z a2i a6H a3T a1q a2z a8Y a9s a1r a5a a4T a6O a2Z a6n a2w kill a1N a7m M4 a4u reE a6r b1l a5R a6N b1D eqC a4V b1m a6d fzL a9R a1L a0w W9 fn0 mvS mvR a7c a3z a6R a5Q a5l List.idxOf?_cons List.idxOf?_nil
open Go.ChangeShapes Go.WideShapes Go.ChangeAt Go.RowKit Go.Deep
inductive Sh where
 |bool
 |int(k:IntKind)
 |str
 |slc(e:Sh)
 |agg(f:Sh)
 |fd(a r:Sh)
 |en
abbrev Sh.T:Sh→Type
 | .bool=>Bool
 | .int _=>Int
 | .str=>ByteArray
 | .slc e=>List e.T
 | .agg f=>f.T
 | .fd a r=>a.T×r.T
 | .en=>Unit
def Sh.b0A:Sh→List PV→PV
 | .agg _,cs=>.agg cs
 |_,cs=>cs.headD .uu
def Sh.cells:(s:Sh)→s.T→List PV
 | .bool,b=>[.bool b]
 | .int k,n=>[.int k n]
 | .str,s=>[.str s]
 | .slc e,xs=>[.slc (List.map (fun x=>e.b0A (e.cells x)) xs)]
 | .agg f,x=>f.cells x
 | .fd a r,x=>a.cells x.1++r.cells x.2
 | .en,_=>[]
def Sh.pv(s:Sh)(x:s.T):PV:=s.b0A (s.cells x)
def Sh.ok:(s:Sh)→s.T→Prop
 | .bool,_=>True
 | .int k,n=>(Lit.int k n).wf=true
 | .str,s=>s.size≤maxLen
 | .slc e,xs=>List.length xs≤maxLen∧∀x∈(show List e.T from xs),e.ok x
 | .agg f,x=>f.ok x
 | .fd a r,x=>a.ok x.1∧r.ok x.2
 | .en,_=>True
def Sh.pvs:(s:Sh)→s.T→List PV
 | .fd a r,x=>a.pv x.1::r.pvs x.2
 |_,_=>[]
def shF(P:Program)(chk:TypeId→Sh→Bool)(tot:Nat):List Field→Nat→Sh→Bool
 | [],acc,.en=>acc==tot
 |fd::fs,acc,.fd a r=>fd.offset==acc&&chk fd.type a&&shF P chk tot fs (acc+P.cellsOf fd.type) r
 |_,_,_=>false
def shA(chk:TypeId→Sh→Bool)(sz tot:Nat)(e:TypeId):Nat→Nat→Sh→Bool
 |0,i,.en=>i*sz==tot
 |m+1,i,.fd a r=>chk e a&&shA chk sz tot e m (i+1) r
 |_,_,_=>false
def shp(P:Program):Nat→TypeId→Sh→Bool
 |0,_,_=>false
 |n+1,t,s=>match P.underlying t,s with
  |some .bool,.bool=>true
  |some (.int k),.int k'=>decide (k=k')
  |some .string,.str=>true
  |some (.slice e),.slc se=>shp P n e se&&Nat.blt 0 (P.cellsOf e)
  |some (.struct fs),.agg f=>shF P (shp P n) (P.cellsOf t) fs.toList 0 f
  |some (.array m e),.agg f=>shA (shp P n) (P.cellsOf e) (P.cellsOf t) e m 0 f
  |_,_=>false
def shL(P:Program)(n:Nat):List TypeId→Sh→Bool
 | [],.en=>true
 |t::ts,.fd a r=>shp P n t a&&shL P n ts r
 |_,_=>false
def a0V(Z:Nat→Prop)(w:World):List Value→List PV→Prop
 | [],[]=>True
 |v::vs,c::cs=>(one c=true∧PR Z w v c)∧a0V Z w vs cs
 |_,_=>False
theorem a0V.len{Z:Nat→Prop}{w:World}:∀{vs:List Value} {cs:List PV},a0V Z w vs cs→vs.length=cs.length
 | [],[],_=>rfl
 |_::vs,_::cs,h=>by simp[a0V.len h.2]
 | [],_::_,h=>h.elim
 |_::_,[],h=>h.elim
theorem a0V.get{Z:Nat→Prop}{w:World}:∀{vs:List Value} {cs:List PV},a0V Z w vs cs→∀(i:Nat) c,cs[i]?=some c→one c=true∧∃u,vs[i]?=some u∧PR Z w u c
 | [],[],_,i,c,h=>by simp at h
 |v::vs,c0::cs,h,0,c,hc=>by simp at hc;subst hc;exact⟨h.1.1,v,rfl,h.1.2⟩
 |v::vs,c0::cs,h,i+1,c,hc=>by
  have:=a0V.get h.2 i c (by simpa using hc);simpa using this
 | [],_::_,h,_,_,_=>h.elim
 |_::_,[],h,_,_,_=>h.elim
theorem a0V.append{Z:Nat→Prop}{w:World}:∀{vs us:List Value} {cs ds:List PV},a0V Z w vs cs→a0V Z w us ds→a0V Z w (vs++us) (cs++ds)
 | [],_,[],_,_,h=>h
 |_::_,_,_::_,_,h,h'=>⟨h.1,a0V.append h.2 h'⟩
 | [],_,_::_,_,h,_=>h.elim
 |_::_,_,[],_,h,_=>h.elim
theorem b8H{α:Type}{p:Nat→α→Prop}:∀{n:Nat},(∀i,i<n→∃x,p i x)→∃l:List α,l.length=n∧∀(i:Nat) x,l[i]?=some x→p i x
 |0,_=>⟨[],rfl,k7⟩
 |n+1,h=>by
  obtain⟨l,h1,h2⟩:=b8H (n:=n) fun i hi=>h i i9;obtain⟨x,hx⟩:=h n i9;refine⟨l++[x],by simp[h1],fun i y hy=>?_⟩
  grind
theorem c8g{w:World}{a:Addr}{v:Value}(h:w.cell? a=some v):V6 w a.block:=by obtain⟨o,h1,h2⟩:=cells_of_cell h;cases o<;>first|exact V6.of h1|cases h2
theorem c3D{P:Program}{n:Nat}{t:TypeId}{s:Sh}(h:shp P n t s=true)(x:s.T):l6 (s.b0A (s.cells x))=s.cells x:=by
 cases n with
 |zero=>simp[shp]at h
 |succ n=>
  cases s<;>simp[Sh.b0A,Sh.cells,l6]
  all_goals (simp only[shp]at h;split at h<;>first|contradiction|simp_all)
section
variable{H:Type}{enc:TypeId×Value→H}{P:Program}{w:World}{sp:Nat→Bool}
abbrev Zw(w:World):Nat→Prop:=fun b=>V6 w b
theorem b7Q{chk:TypeId→Sh→Bool}{fuel tot:Nat}{cs:List Value}(ih:∀(s:Sh) (t:TypeId) (cs:List Value) x,chk t s=true→DataW.trod enc P w 0 sp true fuel t cs=some x→∃y:s.T,s.ok y∧a0V (Zw w) w cs (s.cells y))(hlen:cs.length=tot):
 ∀(fs:List Field) (acc:Nat) (f:Sh) (r:List (DataW H×List MemPlace)),shF P chk tot fs acc f=true→fs.mapM (fun g=>DataW.trod enc P w 0 sp true fuel g.type ((cs.drop g.offset).take (P.cellsOf g.type)))=some r→∃y:f.T,f.ok y∧a0V (Zw w) w (cs.drop acc) (f.cells y)
 | [],acc,f,r,h,_=>by
  cases f<;>simp only[shF]at h<;>first|contradiction|skip
  refine⟨(),trivial,?_⟩;have:acc=tot:=by simpa using h
  subst this;rw[←hlen,List.drop_length];exact trivial
 |fd::fs,acc,f,r,h,hm=>by
  cases f<;>simp only[shF]at h<;>first|contradiction|skip
  rename_i a rr;simp only[E6,beq_iff_eq]at h;obtain⟨⟨h1,h2⟩,h3⟩:=h;obtain⟨x,hx⟩:=mapM_each hm fd k7;rw[List.mapM_cons]at hm;rw[hx]at hm;cases hr:fs.mapM (fun g=>DataW.trod enc P w 0 sp true fuel g.type ((cs.drop g.offset).take (P.cellsOf g.type)))with
  |none=>simp[hr]at hm
  |some r'=>
   obtain⟨y1,o1,c1⟩:=ih _ _ _ _ h2 hx;obtain⟨y2,o2,c2⟩:=b7Q ih hlen fs _ rr r' h3 hr;refine⟨(y1,y2),⟨o1,o2⟩,?_⟩;have:=c1.append c2;rw[h1]at this;rw[show cs.drop acc=(cs.drop acc).take (P.cellsOf fd.type)++cs.drop (acc+P.cellsOf fd.type)by rw[←a1U,a7E]];exact this
theorem b8C{chk:TypeId→Sh→Bool}{fuel tot:Nat}{e:TypeId}{cs:List Value}(ih:∀(s:Sh) (t:TypeId) (cs:List Value) x,chk t s=true→DataW.trod enc P w 0 sp true fuel t cs=some x→∃y:s.T,s.ok y∧a0V (Zw w) w cs (s.cells y))(hlen:cs.length=tot):
 ∀(m i:Nat) (f:Sh),shA chk (P.cellsOf e) tot e m i f=true→(∀j,j<m→∃x,DataW.trod enc P w 0 sp true fuel e ((cs.drop ((i+j)*P.cellsOf e)).take (P.cellsOf e))=some x)→∃y:f.T,f.ok y∧a0V (Zw w) w (cs.drop (i*P.cellsOf e)) (f.cells y)
 |0,i,f,h,_=>by
  cases f<;>simp only[shA]at h<;>first|contradiction|skip
  refine⟨(),trivial,?_⟩;have:i*P.cellsOf e=tot:=by simpa using h
  rw[this,←hlen,List.drop_length];exact trivial
 |m+1,i,f,h,hm=>by
  cases f<;>simp only[shA]at h<;>first|contradiction|skip
  rename_i a rr;simp only[E6]at h;obtain⟨h2,h3⟩:=h;obtain⟨x,hx⟩:=hm 0 i9;obtain⟨y1,o1,c1⟩:=ih _ _ _ _ h2 hx;obtain⟨y2,o2,c2⟩:=b8C ih hlen m (i+1) rr h3 fun j hj=>by obtain⟨x,hx⟩:=hm (j+1) i9;exact⟨x,by rw[show i+1+j=i+(j+1)by omega];exact hx⟩
  refine⟨(y1,y2),⟨o1,o2⟩,?_⟩;have:=c1.append c2;rw[a3t]at this;rw[show cs.drop (i*P.cellsOf e)=(cs.drop (i*P.cellsOf e)).take (P.cellsOf e)++cs.drop ((i+1)*P.cellsOf e)by rw[Q9,Nat.one_mul,←a1U,a7E]];exact this
theorem c9y:∀(n:Nat) (s:Sh) (t:TypeId) (fuel:Nat) (cs:List Value) (x:DataW H×List MemPlace),shp P n t s=true→DataW.trod enc P w 0 sp true fuel t cs=some x→∃y:s.T,s.ok y∧a0V (Zw w) w cs (s.cells y):=by
 intro n
 induction n with
 |zero=>intro s t fuel cs x h;simp[shp]at h
 |succ n ih=>
  intro s t fuel cs x h hx;simp only[shp]at h;cases fuel with
  |zero=>simp[DataW.trod]at hx
  |succ fuel=>
   split at h
   . rename_i hu;obtain⟨b,rfl⟩:∃b,cs=[.bool b]:=by
      unfold DataW.trod at hx;rw[hu]at hx;split at hx<;>simp_all
     exact⟨b,trivial,⟨rfl,0,rfl⟩,trivial⟩
   . rename_i k k' hu;obtain rfl:k=k':=(by simpa using h);obtain⟨m,rfl,hw⟩:∃m,cs=[.int k m]∧(Lit.int k m).wf=true:=by
      unfold DataW.trod at hx;rw[hu]at hx;split at hx<;>simp_all
     exact⟨m,hw,⟨rfl,0,rfl⟩,trivial⟩
   . rename_i hu;obtain⟨b,rfl,hw⟩:∃b,cs=[.string b]∧b.size≤maxLen:=by
      unfold DataW.trod at hx;rw[hu]at hx;split at hx<;>simp_all
     exact⟨b,hw,⟨rfl,0,rfl⟩,trivial⟩
   . rename_i e se hu;simp only[E6]at h;obtain⟨h1,h2⟩:=h;have h2:0<P.cellsOf e:=(by simpa using h2);rcases open_slice hu hx with⟨rfl,_⟩|⟨a,len,cap,m,n',D,Pl,rfl,_,hl,hc,hm,_,hel⟩
     . refine⟨[],⟨k7,k7⟩,⟨rfl,?_⟩,trivial⟩;exact PR.U2.2 ⟨none,0,0,k7,k7,by simp[maxLen],k7,k7⟩
     . have hlm:len≤m:=(by rw[hm];split<;>omega);obtain⟨l,l1,l2⟩:=b8H (α:=se.T) (p:=fun i y=>se.ok y∧∃cs',w.cells? 0 (a.add (i*P.cellsOf e)) (P.cellsOf e)=some cs'∧a0V (Zw w) w cs' (se.cells y)) (n:=len) fun i hi=>by
        obtain⟨cs',e1,e2⟩:=hel i i9;obtain⟨y,y1,y2⟩:=ih _ _ _ _ _ h1 e2;exact⟨y,y1,cs',e1,y2⟩
       refine⟨l,⟨by rw[l1];omega,fun y hy=>?_⟩,⟨rfl,?_⟩,trivial⟩
       . obtain⟨i,hi⟩:=List.mem_iff_getElem?.1 hy;exact(l2 i y hi).1
       . refine PR.U2.2 ⟨some a,cap,P.cellsOf e,by simp[l1],by simp[l1];exact hl,hc,k7,fun i p hp=>?_⟩;rw[H5]at hp;obtain⟨y,hy,rfl⟩:=C5.1 hp;obtain⟨_,cs',e1,e2⟩:=l2 i y hy;rw[c3D h1];unfold World.cells? at e1;simp only[C9,if_true]at e1;have hlen':cs'.length=P.cellsOf e:=(by rw[mapM_some_length e1,List.length_range]);have hget:∀j,j<P.cellsOf e→w.cell? ((a.add (i*P.cellsOf e)).add j)=cs'[j]?:=fun j hj=>mapM_some_get e1 j j (by simp[hj]);have h00:=hget 0 h2;rw[l9 i9]at h00;have hs:=World.cell?_spot h00;have hlt:=c8g h00;refine⟨by rw[←e2.len,hlen'],a.block,a.off,?_,?_,fun j c hc=>?_⟩
         . by_cases hi:i*P.cellsOf e=0
           . rw[hi]at hs;simp[Addr.add]at hs;cases a;simp_all
           . have hi0:i≠0:=(by rintro rfl;simp at hi);obtain⟨y0,hy0⟩:∃y0,l[0]?=some y0:=⟨l[0]'(by have:=(B4.1 hy).1;omega),l9 _⟩
             obtain⟨_,cs0,f1,_⟩:=l2 0 y0 hy0;unfold World.cells? at f1;simp only[C9,if_true]at f1;have f2:=mapM_some_get f1 0 0 (by simp[h2]);have f3:cs0.length=P.cellsOf e:=(by rw[mapM_some_length f1,List.length_range]);rw[l9 i9]at f2;have:=World.cell?_spot f2;simp[Addr.add]at this;cases a;simp_all
         . have:((a.add (i*P.cellsOf e)).add 0).block=a.block:=(by unfold Addr.add;split<;>split<;>rfl);rw[this]at hlt;exact hlt
         . obtain⟨g1,u,g2,g3⟩:=e2.get j c hc;have hj:j<P.cellsOf e:=(by rw[←hlen'];exact(B4.1 g2).1);refine⟨g1,u,?_,g3⟩;have hj':=hget j hj;rw[g2]at hj';have hs':=World.cell?_spot hj';rw[←hj'];congr 1;rw[Go.Deep.add_add]at hs'⊢;unfold Addr.add at hs'⊢;split
           . rename_i hz;rw[if_pos hz]at hs';cases a;simp_all
           . rfl
   . rename_i fs f hu;unfold DataW.trod at hx;rw[hu]at hx;simp only at hx;split at hx
     . rename_i hlen;cases hr:fs.toList.mapM (fun g=>DataW.trod enc P w 0 sp true fuel g.type ((cs.drop g.offset).take (P.cellsOf g.type)))with
       |none=>rw[hr]at hx;simp at hx
       |some r=>
        obtain⟨y,y1,y2⟩:=b7Q (fun s t cs x a b=>ih s t fuel cs x a b) hlen _ _ _ r h hr;exact⟨y,y1,by simpa[Sh.cells]using y2⟩
     . cases hx
   . rename_i m e f hu;unfold DataW.trod at hx;rw[hu]at hx;simp only at hx;split at hx
     . rename_i hlen;cases hr:(List.range m).mapM (fun i=>DataW.trod enc P w 0 sp true fuel e ((cs.drop (i*P.cellsOf e)).take (P.cellsOf e)))with
       |none=>rw[hr]at hx;simp at hx
       |some r=>
        obtain⟨y,y1,y2⟩:=b8C (fun s t cs x a b=>ih s t fuel cs x a b) hlen m 0 f h fun j hj=>mapM_each hr (0+j) (by simpa using hj);exact⟨y,y1,by simpa[Sh.cells]using y2⟩
     . cases hx
   . cases h
theorem b6p{Z:Nat→Prop}{v:Value}{c:PV}(h1:one c=true)(h:PR Z w v c)(n:Nat)(hn:0<n:=by decide):j8 (G0 Z) [] w n v c:=one_cell h1 (a1y (G:=G0 Z) h1 h) hn
theorem b6C{Z:Nat→Prop}{vs:Array Value}{cs:List PV}(h:a0V Z w vs.toList cs)(n:Nat)(hn:0<n:=by decide):I6 (j8 (G0 Z) [] w n) vs cs:=
 ⟨by have:=h.len;simpa using this,fun i c hc=>by obtain⟨h1,u,h2,h3⟩:=h.get i c hc;exact⟨u,by simpa using h2,b6p h1 h3 n hn⟩⟩
theorem c4L{n:Nat}{s:Sh}{t:TypeId}{v:Value}{d:DataW H}{ps:List MemPlace}{base:Nat}(hs:shp P n t s=true)(hok:Value.okWide P w .any base t v)(hd:DataW.Trod enc P w 0 sp true t v d ps):∃y:s.T,s.ok y∧j8 (G0 (Zw w)) [] w D v (s.pv y):=by
 obtain⟨fuel,hd⟩:=hd;obtain⟨y,y1,y2⟩:=c9y n s t fuel _ _ hs hd;refine⟨y,y1,?_⟩;cases n with
 |zero=>simp[shp]at hs
 |succ n=>
  simp only[shp]at hs;have single:∀c,s.cells y=[c]→s.pv y=c→(∀cs,v≠ .agg cs)→j8 (G0 (Zw w)) [] w D v (s.pv y):=by
   intro c h1 h2 h3;have:v.cells.toList=[v]:=by cases v<;>first|rfl|exact absurd rfl (h3 _)
   rw[this,h1]at y2;rw[h2];exact b6p y2.1.1 y2.1.2 _
  split at hs
  . rename_i hu;exact single _ rfl rfl (by rintro cs rfl;simp[Value.okWide,hu,Cell.okWide,Cell.ok]at hok)
  . rename_i hu;exact single _ rfl rfl (by rintro cs rfl;simp[Value.okWide,hu,Cell.okWide,Cell.ok]at hok)
  . rename_i hu;exact single _ rfl rfl (by rintro cs rfl;simp[Value.okWide,hu,Cell.okWide,Cell.ok]at hok)
  . rename_i hu;exact single _ rfl rfl (by rintro cs rfl;simp[Value.okWide,hu,Cell.okWide,Cell.ok]at hok)
  . rename_i hu;unfold Value.okWide at hok;rw[hu]at hok;obtain⟨cs,rfl,_,_⟩:=hok;show j8 _ _ _ (5+1) _ (.agg _);unfold j8;exact⟨cs,rfl,b6C y2 5⟩
  . rename_i hu;unfold Value.okWide at hok;rw[hu]at hok;obtain⟨cs,rfl,_,_⟩:=hok;show j8 _ _ _ (5+1) _ (.agg _);unfold j8;exact⟨cs,rfl,b6C y2 5⟩
  . cases hs
theorem b6R{n base:Nat}:∀{ts:List TypeId} {F:Sh} {vs:List Value} {ds:List (DataW H)} {ps:List MemPlace},shL P n ts F=true→(∀(j:Nat) t v,ts[j]?=some t→vs[j]?=some v→Value.okWide P w .any base t v)→DataW.TrodAll enc P w 0 sp true ts vs ds ps→
 ∃y:F.T,F.ok y∧vs.length=(F.pvs y).length∧∀(i:Nat) c,(F.pvs y)[i]?=some c→∃u,vs[i]?=some u∧j8 (G0 (Zw w)) [] w D u c
 | [],F,vs,ds,ps,h,_,ha=>by
  cases F<;>simp only[shL]at h<;>first|contradiction|skip
  obtain⟨rfl,rfl,rfl⟩:=trodAll_nil ha;exact⟨(),trivial,rfl,by simp[Sh.pvs]⟩
 |t::ts,F,vs,ds,ps,h,hok,ha=>by
  cases F<;>simp only[shL]at h<;>first|contradiction|skip
  rename_i a r;simp only[E6]at h;obtain⟨v,vs',d,ds',p,q,rfl,rfl,rfl,h1,h2⟩:=trodAll_cons ha;obtain⟨y1,o1,c1⟩:=c4L h.1 (hok 0 t v rfl rfl) h1;obtain⟨y2,o2,c2,c3⟩:=b6R h.2 (fun j t v a b=>hok (j+1) t v (by simpa using a) (by simpa using b)) h2;refine⟨(y1,y2),⟨o1,o2⟩,by simp[Sh.pvs,c2],fun i c hc=>?_⟩;cases i with
  |zero=>simp[Sh.pvs]at hc;subst hc;exact⟨v,rfl,c1⟩
  |succ i=>simp[Sh.pvs]at hc;simpa using c3 i c hc
theorem b7b{w':World}(hl:laidOutB P=true)(hb:Below w.heap.size w w'):∀{ts:List TypeId} {vs:List Value} {ds:List (DataW H)} {ps:List MemPlace},ts.all (fun t=>P.readableRec t&&decide (t<P.types.size))=true→DataW.TrodAll enc P w 0 (fun _=>true) true ts vs ds ps→DataW.TrodAll enc P w' 0 (fun b=>decide (b<w.heap.size)) true ts vs ds ps
 | [],vs,ds,ps,_,ha=>by
  obtain⟨rfl,rfl,rfl⟩:=trodAll_nil ha;rfl
 |t::ts,vs,ds,ps,h,ha=>by
  obtain⟨v,vs',d,ds',p,q,rfl,rfl,rfl,h1,h2⟩:=trodAll_cons ha;simp only[List.all_cons,E6,decide_eq_true_eq]at h;have hlt:∀x∈p,x.block<w.heap.size:=by obtain⟨m,hm⟩:=h1;exact DataW.trod_lt m _ _ _ hm
  exact trodAll_cons_mk (Below.trod hl h.1.1 h.1.2 h1 hb hlt) (b7b hl hb h.2 h2)
end
theorem b6A{H:Type}{enc:TypeId×Value→H}{P:Program}{w:World}{base:Nat}{sp:Nat→Bool}{held:Bool}:∀{ts:List TypeId} {vs:List Value} {ds:List (DataW H)} {ps:List MemPlace},DataW.TrodAll enc P w base sp held ts vs ds ps→ds.length=ts.length
 | [],vs,ds,ps,ha=>by obtain⟨rfl,rfl,rfl⟩:=trodAll_nil ha;rfl
 |t::ts,vs,ds,ps,ha=>by obtain⟨v,vs',d,ds',p,q,rfl,rfl,rfl,h1,h2⟩:=trodAll_cons ha;simp[b6A h2]
theorem b2c{C:Checked}{os:Os}{f:FuncId}{fn:Func}{s:ChangeSpec}{F:Sh}{n:Nat}{rt:TypeId}{conds:List PathCond}{apart:Bool}{H:Type}{enc:TypeId×Value→H}
 (own:ownKnob C.prog.godebug=none) (started:os.Started) (laid:laidOutB C.prog=true) (noInit:C.prog.inits.idxOf? f=none) (hfn:C.prog.funcs[f]?=some fn)
 (witness:∃(w:World) (tape:Tape) (i:Input),w.os=os∧(w.forCall tape i).Shaped C.prog∧i.vars=[]∧Input.okWide C.prog (w.forCall tape i) .any w.heap.size f i∧
  s.pre6 enc C.prog fn conds apart (w.forCall tape i).memory i.args∧Assume.holds {} C.prog (lone (Frame.enter C.prog f i.args .normal) [] (w.forCall tape i)))
 (hsh:shL C.prog n fn.params.toList F=true) (hread:fn.params.toList.all (fun t=>C.prog.readableRec t&&decide (t<C.prog.types.size))=true)
 (hrt:fn.resultTypes= #[rt]) (hb:C.prog.underlying rt=some .bool) (hv:s.vars=[])
 (hspec:∀ds:List (DataW H),ds.length=fn.params.toList.length→s.fn H (ds++[])={results:=[.lit (.bool true)],args:=ds})
 (hF:∀y:F.T,F.ok y→Fn C.prog f [0] (F.pvs y) (.bool true)):
 ReturnsInHanded {} C os f .any (s.pre6 enc C.prog fn conds apart) (s.post enc C.prog fn apart true false false):=by
 refine returnsInHanded_of_change own started noInit hfn witness ?_;intro W base args ds gs before hval hW _ _;have hW':=hW;obtain⟨p,q,hA,hV,rfl,_,_⟩:=hW;rw[hv]at hV;obtain⟨rfl,rfl⟩:=trodVars_none hV;obtain⟨y,y1,y2,y3⟩:=b6R (P:=C.prog) (w:=W) (base:=base) hsh (fun j t v a b=>hval j t v (by simpa using a) (by simpa using b)) hA;refine((hF y y1).2 W (Zw W) args (fun _ h=>h) ⟨by simpa using y2,fun i c hc=>?_⟩).mono fun e W' hh=>?_
 . grind
 . obtain⟨v,G,rfl,bel,_,hrep⟩:=hh;have hvb:v=.bool true:=by
    unfold D at hrep;simpa[X2,a2c,M5,j8]using hrep
   subst hvb;have hs:=hspec ds (b6A hA);refine⟨_,rfl,ds,[],_,[],p,[],hW',?_,?_,?_,bel.bl.frame _,fun h=>by cases h⟩
   . rw[hs,hrt];exact trodAll_mk1 ⟨1,by simp[DataW.trod,hb,Value.cells]⟩
   . rw[hs];exact b7b laid bel.bl hread hA
   . rw[hs,hv];rfl
end Go.Proofs.YtbhfgadikmfjdaaGreat.Am
namespace Go.Proofs.YtbhfgadikmfjdaaGreat.T
open Go.Proofs.YtbhfgadikmfjdaaGreat.Am
abbrev By:=List UInt8
abbrev I(n:Int):PV:=.int .i64 n
abbrev U(n:Int):PV:=.int .u8 n
abbrev St(l:By):PV:=.str ⟨⟨l⟩⟩
abbrev UN(c:Nat):PV:=.int .u8 (c:Int)
abbrev IN(c:Nat):PV:=.int .i64 (c:Int)
abbrev CL(l:List Nat):PV:=.slc (l.map UN)
abbrev B(b:Bool):PV:=.bool b
structure N9 where
 print:By
 cells:List Nat
 left:Nat
 right:Nat
 src:Nat
 dst:Nat
 deriving DecidableEq,Inhabited
structure j9 where
 modes:Nat
 accept:Nat
 rules:List N9
 deriving DecidableEq,Inhabited
structure State where
 mode:Nat
 last:Nat
 need:Nat
 deriving DecidableEq,Inhabited
abbrev RP(r:N9):PV:=.agg [St r.print,CL r.cells,UN r.left,UN r.right,IN r.src,IN r.dst]
abbrev TP(t:j9):PV:=.agg [IN t.modes,UN t.accept,.slc (t.rules.map RP)]
abbrev SP(s:State):PV:=.agg [IN s.mode,IN s.last,UN s.need]
def bit(m k:Nat):Bool:=decide (k<8)&&m.testBit k
def P3(b:UInt8):Nat:=b.toNat%128
def a1n(b:UInt8):Nat:=
 if 97≤P3 b∧P3 b≤122 then 1 else if 65≤P3 b∧P3 b≤90 then 2 else if 48≤P3 b∧P3 b≤57 then 3 else if P3 b=32 then 4 else 5
def a2Y(b:UInt8):Bool:=decide (32≤P3 b)&&decide (P3 b≤126)
def a5A(r:N9)(s:State):Option State:=
 if r.src≠s.mode∨bit r.left s.last=false then none
 else if r.print=[]then(if s.need&&&r.right=0 then none else some ⟨r.dst,s.last,s.need&&&r.right⟩)
 else if bit s.need (a1n (r.print.headD 0))=false then none
 else some ⟨r.dst,a1n (r.print.getLastD 0),r.right⟩
def step(t:j9)(s:State)(a1i:Nat):Option State:=(t.rules[a1i]?).bind fun r=>a5A r s
def start:State:=⟨0,0,63⟩
def B6(t:j9)(s:State):Bool:=decide (s.mode<t.modes)&&bit t.accept s.mode&&bit s.need 0
def B9:State:=⟨0,0,0⟩
structure OkR(r:N9):Prop where
 print:r.print.length≤1000000
 cells:r.cells.length≤1000000
 cell:∀c∈r.cells,c<256
 left:r.left<256
 right:r.right<256
 src:r.src≤1000000
 dst:r.dst≤1000000
structure OkT(t:j9):Prop where
 modes:t.modes≤1000000
 accept:t.accept<256
 len:t.rules.length≤1000000
 a1i:∀r∈t.rules,OkR r
structure OkS(s:State):Prop where
 mode:s.mode≤1000000
 last:s.last≤5
 need:s.need<256
theorem c1P(b:UInt8):P3 b<128:=Nat.mod_lt _ H6
theorem b1p(b:UInt8):a1n b≤5:=by unfold a1n;(repeat' split)<;>omega
theorem c4M:OkS start:=⟨H6,H6,H6⟩
theorem c9p{a b:Nat}(h:a<256):a&&&b<256:=Nat.lt_of_le_of_lt Nat.and_le_left h
@[simp] theorem d1A(l:By):(ByteArray.mk ⟨l⟩).size=l.length:=rfl
@[simp] theorem d1I(a b:By):(ByteArray.mk ⟨a⟩)++(ByteArray.mk ⟨b⟩)=ByteArray.mk ⟨a++b⟩:=by apply ByteArray.ext;simp
@[simp] theorem d0O(a:By)(i j:Nat):(ByteArray.mk ⟨a⟩).extract i j=ByteArray.mk ⟨(a.drop i).take (j-i)⟩:=by apply ByteArray.ext;simp[ByteArray.data_extract,List.extract_eq_take_drop]
@[simp] theorem c_lt(n k:Nat):((n:Int)<(no_index (OfNat.ofNat k):Int))=(n<(OfNat.ofNat k:Nat)):=by apply propext;show((n:Int)<((k:Nat):Int))↔n<k;omega
@[simp] theorem c_gt(n k:Nat):((no_index (OfNat.ofNat k):Int)<(n:Int))=((OfNat.ofNat k:Nat)<n):=by apply propext;show(((k:Nat):Int)<(n:Int))↔k<n;omega
@[simp] theorem c_le(n k:Nat):((n:Int)≤(no_index (OfNat.ofNat k):Int))=(n≤(OfNat.ofNat k:Nat)):=by apply propext;show((n:Int)≤((k:Nat):Int))↔n≤k;omega
@[simp] theorem c_ge(n k:Nat):((no_index (OfNat.ofNat k):Int)≤(n:Int))=((OfNat.ofNat k:Nat)≤n):=by apply propext;show(((k:Nat):Int)≤(n:Int))↔k≤n;omega
@[simp] theorem c_eq(n k:Nat):((n:Int)=(no_index (OfNat.ofNat k):Int))=(n=(OfNat.ofNat k:Nat)):=by apply propext;show((n:Int)=((k:Nat):Int))↔n=k;omega
@[simp] theorem c_eq'(n k:Nat):((no_index (OfNat.ofNat k):Int)=(n:Int))=((OfNat.ofNat k:Nat)=n):=by apply propext;show(((k:Nat):Int)=(n:Int))↔k=n;omega
theorem wrap_ok{n:Int}(h1: -9223372036854775808≤n)(h2:n≤9223372036854775807):IntKind.i64.wrap n=n:=by simp[IntKind.wrap,IntKind.signed,IntKind.bits];omega
theorem O5{n:Int}(h1: -9223372036854775808≤n:=by omega)(h2:n≤9223372036854775807:=by omega):IntKind.i64.wrap n=n:=wrap_ok h1 h2
theorem wk1(k:Nat)(h:(k:Int)+1≤9223372036854775807):IntKind.i64.wrap ((k:Int)+1)=((k+1:Nat):Int):=O5
theorem b1t{n:Int}(h1:0≤n)(h2:n≤255):IntKind.u8.wrap n=n:=by simp[IntKind.wrap,IntKind.signed,IntKind.bits];omega
theorem a9e:∀b:UInt8,a4N .u8 (b.toNat:Int) 127=((P3 b:Nat):Int):=by
 intro b;have:∀n:Fin 256,a4N .u8 ((n.val:Nat):Int) 127=((n.val%128:Nat):Int):=by decide+kernel
 exact this ⟨b.toNat,b.toNat_lt⟩
theorem b3N{a b:Nat}(ha:a<256)(hb:b<256):a4N .u8 (a:Int) (b:Int)=((a&&&b:Nat):Int):=by have h1:a&&&b<256:=c9p ha;show IntKind.u8.wrap ((((BitVec.ofInt 8 (a:Int))&&&(BitVec.ofInt 8 (b:Int)):BitVec 8).toNat:Nat):Int)=_;rw[BitVec.toNat_and,BitVec.ofInt_natCast,BitVec.ofInt_natCast,BitVec.toNat_ofNat,BitVec.toNat_ofNat,Nat.mod_eq_of_lt ha,Nat.mod_eq_of_lt hb];exact b1t i9 i9
theorem b5Y{m k:Nat}(hm:m<256)(hk:k<8):(a4N .u8 ((m:Int).fdiv (2^(min ((k:Int)).toNat 8))) 1==1)=m.testBit k:=by
 have:∀n:Fin 256,∀j:Fin 8,(a4N .u8 (((n.val:Nat):Int).fdiv (2^(min ((j.val:Nat):Int).toNat 8))) 1==1)=n.val.testBit j.val:=by decide+kernel
 exact this ⟨m,hm⟩ ⟨k,hk⟩
end Go.Proofs.YtbhfgadikmfjdaaGreat.T
namespace Go.Proofs.YtbhfgadikmfjdaaGreat.Am
def sq:List C6→C6
 | []=>.skip
 | [a]=>a
 |a::b::l=>.seq a (sq (b::l))
section
variable{FN:N2}{Q:I9}{vs:List PV}{h:l5}{a b:C6}{l:List C6}
@[simp] theorem r_sq1:Xw FN (sq [a]) Q vs h=Xw FN a Q vs h:=rfl
@[simp] theorem r_sq:Xw FN (sq (a::b::l)) Q vs h=Xw FN a (a2m (Xw FN (sq (b::l)) Q) Q) vs h:=by show Xw FN (.seq a (sq (b::l))) Q vs h=_;exact c0H
end
abbrev D0(f:Nat)(X:A0):Prop:=a7h Tryz.prog f=some {X with body:=strip X.body}
abbrev F0:=@Am.Fn Tryz.prog
theorem mixW:Tryz.prog.follows .mixedOrders=true:=by kernel_rfl
abbrev E7{f:Nat}{X:A0}(hc:D0 f X)(n:Nat){szs:List Nat}{args:List PV}{r:PV}(hlen:args.length≤X.ntmps)(h:∀Q:I9,(∀vs h,fin X.results szs r vs h→Q .ret vs h)→(∀vs h,fin X.results szs r vs h→Q .normal vs h)→Xw (fns Tryz.prog) X.body Q (X.vars.map fun s=>args.getD s .uu) (List.replicate n (0,.dead))):F0 f szs args r:=c1F mixW hc n hlen h
theorem p8{α:Type}(e:α):∃x,x=e:=⟨_,rfl⟩
theorem ex1{α:Type}(e:α):∃x,e=x:=⟨_,rfl⟩
theorem D3{f:Nat}{X:A0}(h:a7h Tryz.prog f=some {X with body:=strip X.body}:=by kernel_rfl):D0 f X:=h
abbrev oa(a:Nat):k8:=oq (.mv (.v a))
abbrev ob(a b:Nat):k8:=oq (.load false a (.l b))
abbrev oc(a b:Nat):k8:=ow a (.mv (.l b))
abbrev od(a b c:Nat):k8:=⟨.load false a (.l b),none,some (.l c,true),[]⟩
abbrev oe(a b:Nat):k8:=oq (.fieldAddr a (.v b))
abbrev og(a b:Nat):k8:=⟨.mv (.v a),none,some (.l b,true),[]⟩
abbrev oh(a b:Nat):k8:=oq (.pick (.l a) (.l b) (.c (.bool false)))
abbrev oj(a b c:Nat):k8:=⟨.fieldAddr a (.v b),none,some (.l c,true),[]⟩
abbrev ok(a b:Nat):k8:=oq (.load true a (.v b))
abbrev ol(a b c:Nat):k8:=oq (.store a (.l b) (.l c))
abbrev om(a b c:Nat):k8:=⟨.load false a (.l b),none,some (.l c,false),[]⟩
abbrev oo(a:Nat):k8:=oq (.mv (.l a))
abbrev os(a:Nat):k8:=ow a (.mv (.c (.bool false)))
abbrev ot(a b c:Nat):k8:=oq (.indexAddr a (.l b) (.l c))
abbrev ou(a b:Nat):k8:=oq (.fieldAddr a (.l b))
abbrev ov(a b c:Nat):k8:=⟨.fieldAddr a (.v b),none,some (.l c,false),[]⟩
abbrev ox(a:Nat):k8:=oq (.len false (.l a))
abbrev oy(a:Nat)(b:Int):k8:=ow a (.mv (oi b))
abbrev oz(a b:Nat):k8:=oq (.extract (.l a) b)
abbrev oaa(a:Nat)(b:Int):k8:=oq (.bin .add false (.v a) (oi b))
abbrev oab(a b c:Nat):k8:=ow a (.bin .lss false (.v b) (.v c))
abbrev F6(a b:Nat):k8:=oq (.load false a (.v b))
abbrev N3(a b:Nat):k8:=⟨.mv (.v a),none,some (.l b,false),[]⟩
abbrev D5(a:Nat):k8:=oq (.nilchk (.l a))
abbrev P5(a b:Nat):k8:=oq (.pick (.l a) (.c (.bool true)) (.l b))
abbrev U9(a b c:Nat):k8:=ow a (.pick (.l b) (.l c) (.c (.bool false)))
abbrev oah(a:Nat)(b:Int):k8:=oq (.bin .add false (.l a) (oi b))
abbrev K7(a b c:Nat):k8:=oq (.store a (.v b) (.l c))
abbrev I7(a b c d e f:Nat):k8:=oq (.append a b c d (.l e) (.l f))
abbrev oak(a b:Nat)(c d e:Int):k8:=ow a (.alloc b [.int .i64 c,.int .i64 d,.int .u8 e])
abbrev Z8(a b c:Nat):k8:=ow a (.pick (.l b) (.c (.bool true)) (.l c))
abbrev J0(a b:Nat):k8:=oq (.load true a (.l b))
abbrev N4(a b c:Nat):k8:=oq (.indexAddr a (.v b) (.v c))
abbrev T5(a b c:Nat):k8:=⟨.load false a (.l b),none,none,[c]⟩
abbrev N0(a b:Nat):k8:=ow a (.len false (.l b))
abbrev oaq(a b c:Nat):k8:=⟨.bin .eql false (.l a) (.l b),none,some (.l c,true),[]⟩
abbrev N1(a b:Nat):k8:=⟨.mv (.v a),none,none,[b]⟩
abbrev oas(a b c d:Nat):k8:=⟨.indexAddr a (.l b) (.l c),none,some (.l d,true),[]⟩
abbrev oat(a b:Nat)(c d e f g h i j k l m n:Int)(o p q r s t:Nat):k8:=oq (.mkarr a b [.agg [.str ⟨#[]⟩,.nils,.int .u8 c,.int .u8 d,.int .i64 e,.int .i64 f],.agg [.str ⟨#[]⟩,.nils,.int .u8 g,.int .u8 h,.int .i64 i,.int .i64 j],.agg [.str ⟨#[]⟩,.nils,.int .u8 k,.int .u8 l,.int .i64 m,.int .i64 n]] [(o,.l p),(q,.l r),(s,.l t)])
abbrev I0(a b c:Nat):k8:=ow a (.box b (.v c))
abbrev oav(a b:Nat)(c d e f:Int):k8:=ow a (.alloc b [.str ⟨#[]⟩,.nils,.int .u8 c,.int .u8 d,.int .i64 e,.int .i64 f])
abbrev oaw(a b c:Nat):k8:=ow a (.bin .lss false (.l b) (.l c))
abbrev Y6(a b c d e:Nat):k8:=oq (.call a [.l b,.l c] [(d,e)] false)
abbrev W4(a b c d:Nat):k8:=oq (.call a [.l b] [(c,d)] false)
abbrev oaz(a b c:Nat):k8:=⟨.fieldAddr a (.l b),none,some (.l c,true),[]⟩
abbrev oba(a b c d e f:Nat):k8:=⟨.call a [.l b,.l c] [(d,e)] false,none,some (.l f,true),[]⟩
abbrev obb(a b:Nat):k8:=ow a (.un .not (.l b))
abbrev obc(a:Nat):k8:=ow a (.mv (.c .nils))
abbrev obd(a b:Nat):k8:=⟨.nilchk (.l a),none,some (.l b,true),[]⟩
abbrev obe(a:Nat)(b:Int):k8:=oq (.bin .sub false (.l a) (oi b))
abbrev Z2(a b c:Nat):k8:=ow a (.load false b (.l c))
abbrev obg(a:Nat):k8:=ow a (.mv (.c (.bool true)))
abbrev obh(a b:Nat):k8:=⟨.len false (.l a),none,some (.l b,false),[]⟩
abbrev obi(a b c:Nat):k8:=⟨.fieldAddr a (.v b),none,none,[c]⟩
abbrev obj(a b c:Nat):k8:=⟨.load true a (.v b),none,some (.l c,true),[]⟩
abbrev obk(a:Nat)(b:Int)(c:Nat):k8:=⟨.bin .leq false (.l a) (.c (.int .u8 b)),none,some (.l c,true),[]⟩
abbrev obl(a b c:Nat):k8:=⟨.bin .geq false (.l a) (.l b),none,some (.l c,false),[]⟩
abbrev obm(a:Nat)(b:Int)(c:Nat):k8:=⟨.bin .lss false (.l a) (oi b),none,some (.l c,true),[]⟩
abbrev obn(a b:Nat):k8:=⟨.len false (.l a),none,some (.l b,true),[]⟩
abbrev obo(a b c d:Nat):k8:=⟨.indexAddr a (.l b) (.l c),none,none,[d]⟩
abbrev obp(a b:Nat):k8:=oq (.bin .add false (.l a) (.l b))
abbrev obq(a:Nat)(b:Int)(c:Nat):k8:=⟨.bin .eql false (.l a) (oi b),none,some (.l c,true),[]⟩
abbrev obr(a:Nat):k8:=oq (.len true (.l a))
abbrev obs(a b c:Nat):k8:=⟨.mv (.v a),none,none,[b,c]⟩
abbrev obt(a b c:Int):k8:=oq (.build [.int .i64 a,.int .i64 b,.int .u8 c] [])
abbrev obu(a:Nat)(b:Int)(c:Nat):k8:=⟨.bin .gtr false (.l a) (oi b),none,some (.l c,false),[]⟩
abbrev obv(a b:Nat):k8:=oq (.bin .lss false (.l a) (.l b))
abbrev obw(a:Nat)(b:Int):k8:=oq (.bin .eql false (.l a) (oi b))
abbrev obx(a b c:Nat):k8:=⟨.load true a (.v b),none,none,[c]⟩
abbrev oby(a b:Nat):k8:=oq (.bin .eql false (.l a) (.l b))
abbrev obz(a b:Nat)(c:Int):k8:=oq (.indexAddr a (.l b) (oi c))
abbrev oca(a:Nat)(b:Int)(c:Nat):k8:=⟨.bin .lss false (.l a) (oi b),none,some (.l c,false),[]⟩
abbrev ocb(a b:Nat)(c d:Int):k8:=ow a (.alloc b [.int .i64 c,.int .u8 d,.nils])
abbrev occ(a:Nat)(b:Int):k8:=oq (.bin .and false (.l a) (.c (.int .u8 b)))
abbrev ocd(a:Nat)(b:Int):k8:=oq (.bin .eql false (.v a) (.c (.int .u8 b)))
abbrev oce(a b:Nat):k8:=oq (.callv (.c (.fn (.func a) [] [])) [.l b])
abbrev ocf(a b c:Nat):k8:=⟨.extract (.l a) b,none,none,[c]⟩
abbrev ocg(a b c:Nat):k8:=oq (.slice false a (.l b) none (some (.l c)) none)
abbrev och(a b:Nat)(c:Int)(d e:Nat):k8:=oq (.mkarr a b [.int .i64 c] [(d,.l e)])
abbrev oci(a b:Nat)(c d e f:Int):k8:=ow a (.alloc b [.str ⟨#[]⟩,.nils,.int .i64 c,.int .i64 d,.int .i64 e,.int .u8 f,.bool false])
abbrev ocj(a b c d:Nat):k8:=⟨.fieldAddr a (.l b),none,none,[c,d]⟩
abbrev ock(a:Nat)(b:Int):k8:=oq (.bin .lss false (.l a) (oi b))
abbrev ocl(a b c d e f g:Nat):k8:=oq (.call a [.l b,.l c] [(d,e),(f,g)] false)
abbrev ocm(a b c:Nat):k8:=⟨.bin .eql false (.l a) (.l b),none,some (.l c,false),[]⟩
abbrev ocn(a:Nat)(b:Int)(c:Nat):k8:=⟨.bin .neq false (.l a) (oi b),none,some (.l c,false),[]⟩
abbrev oco(a b:Nat):k8:=⟨.un .not (.l a),none,some (.l b,false),[]⟩
abbrev ocp(a b c:Nat):k8:=oq (.mapUpd a (.l b) (.l c) (.c (.bool true)))
abbrev ocq(a b c d:Nat):k8:=⟨.load false a (.l b),none,none,[c,d]⟩
abbrev ocr(a b c:Nat):k8:=⟨.fieldAddr a (.l b),none,none,[c]⟩
abbrev ocs(a b:Nat):k8:=⟨.un .not (.l a),none,some (.l b,true),[]⟩
abbrev oct(a b:Nat)(c d e:Int):k8:=ow a (.alloc b [.int .i64 c,.int .i64 d,.int .i64 e,.str ⟨#[]⟩])
abbrev ocu(a:Nat)(b:Int)(c:Nat):k8:=⟨.bin .gtr false (.l a) (.c (.int .u8 b)),none,some (.l c,false),[]⟩
abbrev ocv(a:Nat)(b:Int)(c:Nat):k8:=⟨.bin .eql false (.l a) (.c (.int .u8 b)),none,some (.l c,false),[]⟩
abbrev ocw(a:Nat)(b:Int)(c:Nat):k8:=⟨.bin .eql false (.l a) (.c (.int .u8 b)),none,some (.l c,true),[]⟩
abbrev ocx(a b c d:Nat):k8:=⟨.indexAddr a (.l b) (.l c),none,some (.l d,false),[]⟩
abbrev ocy(a:Nat)(b:Int)(c:Nat)(d:Int)(e:Nat):k8:=⟨.lit a [.int .u8 b] [(c,.c (.int .u8 d))],none,none,[e]⟩
abbrev ocz(a b c:Nat):k8:=oq (.callv (.c (.fn (.func a) [] [])) [.l b,.l c])
abbrev oda(a b c:Nat):k8:=oq (.slice false a (.l b) (some (.l c)) none none)
abbrev odb(a b c:Nat):k8:=ow a (.bin .neq false (.l b) (.l c))
abbrev odc(a b:Nat)(c:Int):k8:=ow a (.bin .gtr false (.l b) (oi c))
abbrev odd(a b c d e:Nat):k8:=⟨.call a [.l b] [(c,d)] false,none,some (.l e,false),[]⟩
abbrev ode(a:Nat)(b:Int)(c:Nat)(d:Int)(e f:Nat):k8:=⟨.lit a [.int .u8 b] [(c,.c (.int .u8 d))],none,none,[e,f]⟩
abbrev odf(a b c d:Nat):k8:=ow a (.callv (.c (.fn (.func b) [] [])) [.l c,.l d])
abbrev odg(a b c:Nat):k8:=⟨.load true a (.l b),none,none,[c]⟩
abbrev odh(a b:Nat):k8:=ow a (.mv (.v b))
abbrev odi(a b c:Nat):k8:=⟨.load false a (.v b),none,some (.l c,true),[]⟩
abbrev odj(a b c:Nat):k8:=⟨.load true a (.v b),none,some (.l c,false),[]⟩
abbrev odk(a b c d e f:Nat):k8:=oq (.call a [.l b] [(c,d),(e,f)] false)
abbrev odl(a b c d e f g h i j k l:Nat):k8:=oq (.call a [.l b,.l c,.l d] [(e,f),(g,h),(i,j),(k,l)] false)
abbrev odm(a:Nat):k8:=ow a (.mv (oi (-1)))
abbrev odn(a:Nat):k8:=ow a (.mv (.c (.lit (.pointer none))))
abbrev odo(a b:Nat):k8:=⟨.nilchk (.l a),none,none,[b]⟩
abbrev odp(a b:Nat)(c d:Int):k8:=ow a (.alloc b [.int .i64 c,.int .i64 d])
abbrev odq(a b c:Nat):k8:=⟨.bin .lss false (.l a) (.l b),none,some (.l c,false),[]⟩
abbrev odr(a b:Int)(c d:Nat)(e:Int)(f g:Nat)(h:Int)(i j k:Nat):k8:=oq (.build [.int .i64 a,.int .u8 b,.nils] [(c,d,oi e),(f,g,.c (.int .u8 h)),(i,j,.l k)])
abbrev ods(a b c:Nat):k8:=⟨.bin .leq false (.l a) (.l b),none,some (.l c,true),[]⟩
abbrev odt(a b c d:Nat):k8:=oq (.mapUpd a (.l b) (.l c) (.l d))
abbrev odu(a b c:Nat):k8:=⟨.nilchk (.l a),none,none,[b,c]⟩
abbrev odv(a b:Nat):k8:=ow a (.alloc b [.nils,.nils])
abbrev odw(a b:Nat)(c:Int):k8:=ow a (.bin .eql false (.l b) (oi c))
abbrev odx(a b:Nat)(c d e:Int)(f g:Nat):k8:=oq (.mkarr a b [.agg [.int .i64 c,.int .i64 d,.int .u8 e]] [(f,.l g)])
abbrev ody(a b c:Nat):k8:=⟨.load false a (.v b),none,none,[c]⟩
abbrev odz(a b:Nat)(c:Int):k8:=ow a (.alloc b [.str ⟨#[]⟩,.nils,.int .i64 c])
abbrev oea(a b:Nat):k8:=oq (.store a (.l b) (.c (.bool true)))
abbrev oeb(a b c d:Nat):k8:=⟨.loadA a (.v b),none,none,[c,d]⟩
abbrev oec(a b:Nat)(c:Int):k8:=oq (.store a (.v b) (oi c))
abbrev oed(a:Int)(b:Nat):k8:=oq (.bin .leq false (.c (.int .u8 a)) (.l b))
abbrev oee(a:Nat)(b:Int):k8:=oq (.indexS (.l a) (oi b))
abbrev oef(a:Nat)(b:Int):k8:=oq (.bin .geq false (.l a) (.c (.int .u8 b)))
abbrev oeg(a b:Nat)(c:Int):k8:=oq (.slice true a (.l b) (some (oi c)) none none)
abbrev oeh(a b:Nat)(c d:Int):k8:=ow a (.allocA b [.int .i64 c,.int .i64 d])
abbrev oei(a b:Nat)(c d e f:Int)(g h:Nat):k8:=oq (.mkarr a b [.agg [.str ⟨#[]⟩,.nils,.int .u8 c,.int .u8 d,.int .i64 e,.int .i64 f]] [(g,.l h)])
abbrev oej(a:Nat):k8:=oq (.un .not (.l a))
abbrev oek(a:Nat):k8:=oq (.makeMap a none)
abbrev oel(a:Nat)(b:Int)(c:Nat):k8:=⟨.bin .and false (.l a) (.c (.int .u8 b)),none,some (.l c,true),[]⟩
abbrev oem(a b:Nat)(c:Int):k8:=ow a (.bin .eql false (.l b) (.c (.int .u8 c)))
abbrev oen(a b c:Int)(d e f g h i j k l:Nat):k8:=oq (.build [.int .i64 a,.int .i64 b,.int .u8 c] [(d,e,.l f),(g,h,.l i),(j,k,.l l)])
abbrev oeo(a b c d e:Nat):k8:=⟨.call a [.l b] [(c,d)] false,none,some (.l e,true),[]⟩
abbrev oep(a b c:Nat):k8:=⟨.pick (.l a) (.l b) (.c (.bool false)),none,some (.l c,false),[]⟩
abbrev oeq(a:Nat)(b:Int):k8:=oq (.bin .eql false (.v a) (oi b))
abbrev oer(a b c d e f g h i j k l m:Nat):k8:=⟨.call a [.l b,.l c,.l d] [(e,f),(g,h),(i,j),(k,l)] false,none,none,[m]⟩
abbrev oes(a b c d:Nat):k8:=ow a (.lookup b false (.bool false) (.l c) (.l d))
abbrev oet(a b:Nat):k8:=oq (.loadA a (.v b))
abbrev oeu(a b c:Nat):k8:=⟨.loadA a (.v b),none,none,[c]⟩
abbrev oev(a b:Nat)(c d e f g h i j k l m n o p q r:Int)(s t u v w x y z:Nat):k8:=oq (.mkarr a b [.agg [.str ⟨#[]⟩,.nils,.int .u8 c,.int .u8 d,.int .i64 e,.int .i64 f],.agg [.str ⟨#[]⟩,.nils,.int .u8 g,.int .u8 h,.int .i64 i,.int .i64 j],.agg [.str ⟨#[]⟩,.nils,.int .u8 k,.int .u8 l,.int .i64 m,.int .i64 n],.agg [.str ⟨#[]⟩,.nils,.int .u8 o,.int .u8 p,.int .i64 q,.int .i64 r]] [(s,.l t),(u,.l v),(w,.l x),(y,.l z)])
abbrev oew(a b c:Nat):k8:=⟨.pick (.l a) (.c (.bool true)) (.l b),none,some (.l c,true),[]⟩
abbrev oex(a b c d:Nat):k8:=oq (.indexAddrA a b (.v c) (.l d))
abbrev oey(a b c d:Nat):k8:=⟨.loadV false a (.l b),none,none,[c,d]⟩
abbrev oez(a b:Nat)(c d:Int):k8:=ow a (.alloc b [.int .i64 c,.int .i64 d,.str ⟨#[]⟩])
abbrev ofa(a b:Nat):k8:=oq (.mkarr a b [] [])
abbrev ofb(a b:Nat):k8:=oq (.indexS (.l a) (.l b))
abbrev ofc(a b c d:Nat):k8:=⟨.fieldAddr a (.v b),none,none,[c,d]⟩
abbrev ofd(a b c d e f g:Nat):k8:=oq (.call a [] [(b,c),(d,e),(f,g)] false)
abbrev ofe(a b:Int)(c d:Nat)(e:Int)(f g:Nat)(h:Int):k8:=oq (.build [.int .i64 a,.int .i64 b] [(c,d,oi e),(f,g,oi h)])
abbrev off(a b:Int)(c d e f g h:Nat):k8:=oq (.build [.int .i64 a,.int .i64 b] [(c,d,.l e),(f,g,.l h)])
abbrev ofg(a:Nat)(b:Int)(c:Nat):k8:=⟨.bin .geq false (.l a) (oi b),none,some (.l c,true),[]⟩
abbrev ofh(a b:Nat)(c:Int)(d e:Nat):k8:=oq (.mkarr a b [.int .u8 c] [(d,.l e)])
abbrev ofi(a b:Nat):k8:=oq (.bin .neq false (.l a) (.l b))
abbrev ofj(a:Nat)(b:Int):k8:=oq (.bin .geq false (.l a) (oi b))
abbrev ofk(a:Nat)(b:Int):k8:=oq (.bin .rem false (.l a) (oi b))
abbrev kc(a:Nat)(b:Int)(c d:Nat):C6:=.reg [oaa a b,oc c d]
abbrev kd:C6:=.skip
abbrev kf(a b c:Nat):C6:=.reg [oa a,oc b c]
abbrev kg(a b:Nat)(c:Int)(d e:Nat):C6:=.reg [oa a,oah b c,oc d e]
abbrev kh(a b c:Nat):C6:=.reg [oab a b c]
abbrev kj(a:Nat):C6:=.reg [os a]
abbrev kl(a:Nat)(b:Int):C6:=.reg [oy a b]
abbrev km(a:Nat):C6:=.exit a
abbrev ko:C6:=.ret
abbrev ks(a b c d e f:Nat):C6:=.reg [oa a,oa b,ox c,oaw d e f]
abbrev kw(a:Nat):C6:=.reg [obc a]
abbrev kaa(a b c:Nat):C6:=.reg [oa a,obb b c]
abbrev kae(a:Nat):C6:=.reg [obg a]
abbrev kag(a b c d:Nat):C6:=.reg [I0 a b c,os d]
abbrev kah(a b c d e:Nat)(f:Int):C6:=.reg [odh a b,N0 c d,oy e f]
abbrev C4(a b:Nat):C6:=.cond (.v a) kd (km b)
abbrev kan(a b:Nat):C6:=.cond (.v a) (km b) kd
abbrev kao(a:Nat):C6:=sq [kj a,ko]
abbrev kap(a b c:Int)(d e f g:Nat):C6:=sq [.reg [obt a b c,K7 d e f,os g],ko]
abbrev kar(a b c d e:Nat)(f:Int):C6:=.cond (.v a) (sq [.reg [oq (.store b (.v c) (.c .nils)),oec d e f],ko]) kd
abbrev kas(a b c:Nat)(d:Int):C6:=.cond (.v a) (sq [.reg [odm b,oy c d],ko]) kd
abbrev kat(a b c d:Nat)(e:Int):C6:=sq [.reg [oq (.build [.nils,.str ⟨#[]⟩,.str ⟨#[]⟩] []),K7 a b c,oy d e],ko]
abbrev kau(a b:Nat)(c:Int):C6:=.cond (.v a) (sq [kl b c,ko]) kd
abbrev kav(a b c d:Nat)(e:Int):C6:=sq [.reg [oa a,oc b c,oy d e],ko]
end Go.Proofs.YtbhfgadikmfjdaaGreat.Am
namespace Go.Proofs.YtbhfgadikmfjdaaGreat.T
open Go.Proofs.YtbhfgadikmfjdaaGreat.Am
theorem mixed:Tryz.prog.follows .mixedOrders=true:=by kernel_rfl
def X69:A0:=
 ⟨12,[0,2,3],0,[(1,none)],sq [kj 1,.reg [oa 0,occ 0 127,oc 2 1],.reg [oa 2,oed 32 0,oo 1,og 2 2,obk 3 126 2,oh 2 4,oc 1 5],ko]⟩
def X73:A0:=
 ⟨30,[0,2,3,6,13,20,27],0,[(1,none)],sq [kl 1 0,.reg [oa 0,occ 0 127,oc 2 1],.block 0 (sq [.reg [oa 2,oed 97 0,oo 1,og 2 2,obk 3 122 2,oh 2 4,oc 3 5],.cond (.v 3) (sq [kl 1 1,ko]) (sq [.reg [oa 2,oed 65 0,oo 1,og 2 2,obk 3 90 2,oh 2 4,oc 4 5],.cond (.v 4) (sq [kl 1 2,ko]) (sq [.reg [oa 2,oed 48 0,oo 1,og 2 2,obk 3 57 2,oh 2 4,oc 5 5],.cond (.v 5) (sq [kl 1 3,ko]) (sq [.reg [oa 2,oq (.bin .eql false (.l 0) (.c (.int .u8 32))),oc 6 1],kau 6 1 4])])])]),kl 1 5,ko]⟩
def X35:A0:=
 ⟨19,[0,2,3,4,6,7,8,14],0,[(1,none),(2,none)],sq [.reg [oy 1 0,oy 2 0],sq [.reg [oa 0,ow 4 (.len true (.l 0)),oy 5 0],.block 0 (.loopS [0,4,5] 0 (sq [kh 6 5 4,C4 6 0,.block 1 (sq [kf 5 3 0,.reg [oa 0,oa 3,ofb 0 1,W4 69 2 0 0,obb 7 3],.cond (.v 7) (kav 3 1 0 2 60) kd]),kc 5 1 5 0]))],.reg [oa 0,obr 0,oc 1 1,oy 2 0],ko]⟩
def X67:A0:=
 ⟨18,[0,1,4],0,[(2,none)],sq [kj 2,.reg [oa 1,oq (.bin .leq false (oi 0) (.l 0)),oo 1,og 1 2,obm 3 8 2,oh 2 4,oo 5,og 0 6,og 1 6,⟨.bin .shr false (.l 7) (.l 8),none,some (.l 6,true),[]⟩,oel 9 1 6,ocw 10 1 6,oh 6 11,oc 2 12],ko]⟩
def X31:A0:=
 ⟨2,[0],1,[(0,some (true,3))],sq [.reg [oak 0 0 0 0 0],.reg [oq (.build [.int .i64 0,.int .i64 0,.int .u8 0] [(0,1,oi 0),(1,1,oi 0),(2,1,.c (.int .u8 63))]),K7 3 0 0],ko]⟩
def X30:A0:=
 ⟨22,[0,1,2,3,4],2,[(4,none)],sq [.reg [I0 2 0 0,I0 3 1 1,os 4],.reg [oe 0 3,ob 1 0,oe 0 2,ob 1 2,obv 1 3,oo 4,oj 1 2 5,od 1 6 5,oj 0 3 5,od 1 8 5,oba 67 7 9 0 0 5,oh 5 10,oo 11,oj 2 3 12,od 1 13 12,⟨.call 67 [.l 14,oi 0] [(0,0)] false,none,some (.l 12,true),[]⟩,oh 12 15,oc 4 16],ko]⟩
def X50:A0:=
 ⟨78,[0,1,2,3,4,6,7,8,9,18,37,41,48,63],4,[(5,some (true,3)),(6,none)],sq [.reg [I0 3 0 0,I0 4 1 1,oak 5 2 0 0 0,os 6],sq [.reg [oa 2,ock 0 0,oo 1,N3 2 2,ov 2 3 2,om 1 4 2,obh 5 2,obl 3 6 2,Z8 9 2 7],.cond (.v 9) (kap 0 0 0 3 5 0 6) kd],.reg [oe 2 3,ob 1 0,oa 2,ot 6 1 2,J0 6 3,oav 7 3 0 0 0 0,ol 6 5 4],sq [.reg [oe 4 7,ob 1 0,oe 0 4,ob 1 2,ofi 1 3,oo 4,ov 2 7 5,om 1 6 5,ov 1 4 5,om 1 8 5,⟨.call 67 [.l 7,.l 9] [(0,0)] false,none,some (.l 5,false),[]⟩,oco 10 5,Z8 10 5 11],.cond (.v 10) (kap 0 0 0 3 5 0 6) kd],sq [.reg [oe 0 7,ob 1 0,ow 11 (.bin .eql false (.l 1) (.c (.str ⟨#[]⟩)))],.cond (.v 11) (sq [.reg [oe 2 4,ob 1 0,oe 3 7,ob 1 2,oq (.bin .and false (.l 1) (.l 3)),oc 8 4],sq [.reg [oa 8,oem 12 0 0],.cond (.v 12) (kap 0 0 0 3 5 0 6) kd],.reg [oe 5 7,ob 1 0,oe 1 4,ob 1 2,oa 8,oen 0 0 0 0 1 1 1 1 3 2 1 4,K7 3 5 5,obg 6],ko]) kd],sq [.reg [oe 2 4,ob 1 0,oe 0 7,ob 1 2,oee 3 0,oq (.call 73 [.l 4] [(0,0)] true),oq (.call 67 [.l 1,.l 5] [(0,0)] true),obb 13 6],.cond (.v 13) (kap 0 0 0 3 5 0 6) kd],.reg [oe 5 7,ob 1 0,oe 0 7,ob 1 2,oe 0 7,ob 1 4,obr 5,obe 6 1,ofb 3 7,oq (.call 73 [.l 8] [(0,0)] true),oe 3 7,ob 1 10,oen 0 0 0 0 1 1 1 1 9 2 1 11,K7 3 5 12,obg 6],ko]⟩
def a8L:A0:=
 ⟨15,[0,2,3,5,6,7,13],0,[(1,none)],sq [kj 1,sq [.reg [oa 0,ow 3 (.len true (.l 0)),oy 4 0],.block 0 (.loopS [0,3,4] 0 (sq [kh 5 4 3,C4 5 0,.block 1 (sq [kf 4 2 0,.reg [oa 0,oa 2,ofb 0 1,W4 73 2 0 0,odw 6 3 4],.cond (.v 6) (sq [kae 1,ko]) kd]),kc 4 1 4 0]))],kj 1,ko]⟩
def b0m:A0:=
 ⟨5,[0,2],0,[(1,none)],sq [kj 1,.reg [oa 0,oq (.bin .lss false (.l 0) (.c (.int .u8 64))),oc 1 1],ko]⟩
def a6b:A0:=
 ⟨26,[0,1,4,5,10,12,13,14,24],0,[(2,none)],sq [kj 2,sq [.reg [oa 0,ox 0,oa 1,ox 2,odb 4 1 3],.cond (.v 4) (kao 2) kd],sq [.reg [oa 0,N0 5 0,oy 6 0],.block 0 (.loopS [0,1,5,6] 0 (sq [kh 7 6 5,C4 7 0,.block 1 (sq [kf 6 3 0,.reg [oa 0,oa 3,ot 1 0 1,ob 1 2,oa 1,oa 3,ot 1 4 5,ob 1 6,odb 8 3 7],.cond (.v 8) (kao 2) kd]),kc 6 1 6 0]))],kae 2,ko]⟩
def a2n:A0:=
 ⟨45,[0,1,2,3,4],2,[(4,none)],sq [.reg [I0 2 0 0,I0 3 1 1,os 4],.reg [oe 4 2,ob 1 0,oe 4 3,ob 1 2,oby 1 3,oo 4,oj 5 2 5,od 1 6 5,oj 5 3 5,od 1 8 5,oaq 7 9 5,oh 5 10,oo 11,oj 2 2 12,od 1 13 12,oj 2 3 12,od 1 15 12,oaq 14 16 12,oh 12 17,oo 18,oj 3 2 19,od 1 20 19,oj 3 3 19,od 1 22 19,oaq 21 23 19,oh 19 24,oo 25,oj 0 2 26,od 1 27 26,oj 0 3 26,od 1 29 26,oaq 28 30 26,oh 26 31,oo 32,oj 1 2 33,od 1 34 33,oj 1 3 33,od 1 36 33,oba 123 35 37 0 0 33,oh 33 38,oc 4 39],ko]⟩
def S6:A0:=
 ⟨110,[0,1,2,4,6,8,24,32,50,70,73,92,93,94,95,108],1,[(3,none)],sq [kag 2 0 0 3,sq [.reg [oe 0 2,ob 1 0,obr 1,oq (.bin .gtr false (.l 2) (oi 4)),oo 3,ov 1 2 4,om 1 5 4,obh 6 4,oca 7 1 4,P5 4 8,oo 9,ov 1 2 10,om 1 11 10,obh 12 10,obu 13 4 10,Z8 6 10 14],.cond (.v 6) (kao 3) kd],sq [.reg [oe 0 2,ob 1 0,odk 35 1 0 0 0 0,oo 2,oz 3 0,oz 3 1,oo 4,oc 4 5],.reg [oa 4,ow 7 (.bin .neq false (.l 0) (oi 0))],.cond (.v 7) (kao 3) kd],sq [.reg [oe 2 2,ob 1 0,oq (.bin .lss false (.l 1) (.c (.int .u8 1))),oo 2,ov 2 2 3,om 1 4 3,ocu 5 63 3,P5 3 6,oo 7,ov 3 2 8,om 1 9 8,⟨.bin .lss false (.l 10) (.c (.int .u8 1)),none,some (.l 8,false),[]⟩,P5 8 11,oo 12,ov 3 2 13,om 1 14 13,ocu 15 63 13,Z8 8 13 16],.cond (.v 8) (kao 3) kd],sq [.reg [oe 4 2,ob 1 0,ock 1 0,oo 2,ov 4 2 3,om 1 4 3,N3 1 3,obl 5 6 3,P5 3 7,oo 8,ov 5 2 9,om 1 10 9,oca 11 0 9,P5 9 12,oo 13,ov 5 2 14,om 1 15 14,N3 1 14,obl 16 17 14,Z8 9 14 18],.cond (.v 9) (kao 3) kd],sq [.reg [oe 0 2,ob 1 0,ow 10 (.call 121 [.l 1] [(0,0)] false)],.cond (.v 10) (sq [.reg [oe 0 2,ob 1 0,obr 1,obw 2 1,oo 3,oj 1 2 4,od 1 5 4,obn 6 4,obq 7 1 4,oh 4 8,oo 9,oj 1 2 10,od 1 11 10,⟨.indexAddr 1 (.l 12) (oi 0),none,some (.l 10,true),[]⟩,od 1 13 10,ocw 14 0 10,oh 10 15,oc 3 16],ko]) kd],sq [.reg [oe 1 2,Z2 11 1 0,N0 12 1,oy 13 0],.block 0 (.loopS [11,12,13] 1 (sq [kh 14 13 12,C4 14 0,.block 1 (sq [.reg [N4 1 11 13,ob 1 0,oc 5 1],.reg [oa 5,W4 122 0 0 0,oej 1,oo 2,N3 5 3,ocv 4 63 3,P5 3 5,oo 6,N3 5 7,ocv 8 0 7,Z8 15 7 9],.cond (.v 15) (kao 3) kd]),kc 13 1 13 0]))],kae 3,ko]⟩
def X70:A0:=
 ⟨67,[0,1,2,3,4,5,7,15,27,37,39,40,41,42,50,55,56,57,58,63],3,[(2,none),(3,none)],sq [.reg [I0 1 0 0,oy 2 0,oy 3 0],sq [.reg [oe 0 1,ob 1 0,ock 1 1,oo 2,ov 0 1 3,om 1 4 3,obu 5 8 3,Z8 7 3 6],kas 7 2 3 1],sq [.reg [oe 1 1,ob 1 0,oq (.bin .eql false (.l 1) (.c (.int .u8 0))),oo 2,ov 1 1 3,om 1 4 3,⟨.conv .i64 (.l 5),none,some (.l 3,false),[]⟩,ov 0 1 3,om 1 7 3,⟨.bin .shl false (oi 1) (.l 8),none,some (.l 3,false),[]⟩,obl 6 9 3,Z8 8 3 10],kas 8 2 3 1],sq [.reg [oe 2 1,ob 1 0,ox 1,ock 2 1,oo 3,ov 2 1 4,om 1 5 4,obh 6 4,obu 7 64 4,Z8 9 4 8],kas 9 2 3 1],sq [.reg [oe 2 1,Z2 10 1 0,N0 11 1,oy 12 0],.block 0 (.loopS [1,10,11,12] 3 (sq [kh 13 12 11,C4 13 0,.block 1 (sq [.reg [oa 12,N4 6 10 12,J0 6 1,oav 5 1 0 0 0 0,oc 4 0,ol 6 3 2],sq [.reg [ok 6 5,oe 0 1,ob 1 1,Y6 103 0 2 0 0,obb 14 3],.cond (.v 14) (kav 4 2 0 3 20) kd],.reg [oe 2 1,ob 1 0,oa 4,ow 15 (.slice false 6 (.l 1) none (some (.l 2)) none),N0 16 3,oy 17 0],.block 2 (.loopS [1,4,5,10,11,12,15,16,17] 3 (sq [kh 18 17 16,C4 18 2,.block 3 (sq [.reg [N4 6 15 17,J0 6 0,oav 6 2 0 0 0 0,ol 6 2 1],.reg [ok 6 6,ok 6 5,ow 19 (.call 104 [.l 0,.l 1] [(0,0)] false)],.cond (.v 19) (kav 4 2 0 3 20) kd]),kc 17 1 17 0]))]),kc 12 1 12 0]))],.reg [oy 2 0,oy 3 0],ko]⟩
def X36:A0:=
 ⟨12,[0,1,2,4],1,[(2,none)],sq [kag 1 0 0 2,.reg [ok 3 1,odk 70 0 0 0 0 0,oo 1,oz 2 0,oz 2 1,oo 3,oc 3 4],.reg [oa 3,obw 0 0,oc 2 1],ko]⟩
def b1s:A0:=
 ⟨78,[0,1,2,3,4,5,6,7,8,9,10,11,12,13,24,29,30,31,44,52],12,[(2,none),(3,none)],sq [.reg [I0 1 0 0,obc 2,obc 3],.reg [ofd 31 0 0 0 0 0 0,oak 4 1 0 0 0,ol 3 1 0],.reg [ok 3 4,odx 2 3 0 0 0 0 0,oq (.mkarr 3 1 [.nils] [(0,.c .nils)]),oc 5 1,oc 6 2],.reg [oek 4,ok 3 4,oq (.mapUpd 46 (.l 0) (.l 1) (oi 0)),oo 0,oc 7 3],sq [kl 8 0,.block 0 (.loopS [1,5,6,7,8] 12 (sq [sq [ks 8 5 1 14 0 2,C4 14 0],.block 1 (sq [.reg [oe 2 1,ob 1 0,N0 15 1,oy 16 0],.block 2 (.loopS [1,5,6,7,8,15,16] 12 (sq [kh 17 16 15,C4 17 2,.block 3 (sq [kf 16 9 0,.reg [obx 3 1 5,N1 5 5,N1 8 5,obo 3 1 2 5,odg 3 3 5,N1 9 5,oer 50 0 4 5 0 0 0 0 0 0 0 0 5,⟨.mv (.l 6),none,none,[5]⟩,ocf 7 0 5,ocf 7 1 5,oak 10 5 0 0 0,ol 3 10 8,oc 11 9],sq [kaa 11 18 0,kan 18 3],.reg [oa 7,ok 3 10,oq (.lookup 46 true (.int .i64 0) (.l 0) (.l 1)),oo 2,oz 3 0,oz 3 1,oc 12 4,oc 13 5],sq [kaa 13 19 0,.cond (.v 19) (sq [.reg [oa 5,ox 0,oc 12 1],.reg [oa 7,ok 3 10,oa 12,odt 46 0 1 2],.reg [oa 5,ok 3 10,odx 6 3 0 0 0 0 1,I7 7 3 24 1 0 2,oa 6,oq (.mkarr 8 1 [.nils] [(0,.c .nils)]),I7 9 1 24 1 4 5,oc 5 3,oc 6 6]]) kd],.G4 12 none 32030 0 (.reg [oa 6,oa 12,oa 6,oa 12,ot 1 2 3,ob 1 4,oa 8,och 10 1 0 0 6,I7 11 1 8 1 5 7,ot 1 0 1,ol 1 9 8])]),kc 16 1 16 0]))]),kg 8 0 1 8 1]))],.reg [oa 5,oa 6,oc 2 0,oc 3 1],ko]⟩
def X71:A0:=
 ⟨11,[0,1,2,3],3,[(2,none)],sq [.reg [I0 1 0 0,obc 2],.reg [ok 3 1,odk 105 0 1 3 2 1,oo 1,oz 2 0,oz 2 1,oc 3 3,oo 4],kf 3 2 0,ko]⟩
def X87:A0:=
 ⟨75,[0,1,2,3,4,5,6,7,8,9,11,20,21,22,23,29,40,55,56,57,58,65],9,[(2,none)],sq [.reg [I0 1 0 0,obc 2],.reg [ok 3 1,odk 105 0 1 3 2 1,oo 1,oz 2 0,oz 2 1,oc 3 3,oc 4 4],.G6 [(2,true),(1,true)] (.G4 3 none 0 0 (.G4 4 none 0 0 (sq [.reg [oa 3,ox 0,oq (.makeSlice 3 1 1 (.bool false) (.l 1) (.l 1)),oc 5 2],kw 6,.G4 6 none 8 1 (sq [sq [kah 11 3 12 0 13 0,.block 0 (.loopS [1,4,5,6,11,12,13] 9 (sq [kh 14 13 12,C4 14 0,.block 1 (sq [.reg [oa 13,N4 3 11 13,J0 3 1,oak 8 4 0 0 0,oc 7 0,ol 3 3 2],.reg [ok 3 1,ok 3 8,ow 15 (.call 30 [.l 0,.l 1] [(0,0)] false)],.cond (.v 15) (sq [.reg [oa 5,oa 7,ot 1 0 1,oea 1 2],.reg [oa 6,oa 7,och 5 1 0 0 1,I7 6 1 8 1 0 2,oc 6 3]]) kd]),kc 13 1 13 0]))],.block 2 (.loopS [4,5,6] 9 (sq [sq [.reg [oa 6,ox 0,odc 16 1 0],C4 16 2],.block 3 (sq [.reg [oa 6,oa 6,ox 1,obe 2 1,ot 1 0 3,ob 1 4,oc 9 5],.reg [oa 6,oa 6,ox 1,obe 2 1,ocg 1 0 3,oc 6 4],.reg [oa 4,oa 9,ot 1 0 1,Z2 17 1 2,N0 18 3,oy 19 0],.block 4 (.loopS [4,5,6,17,18,19] 9 (sq [kh 20 19 18,C4 20 4,.block 5 (sq [.reg [N4 1 17 19,ob 1 0,oc 10 1],.reg [oa 5,oa 10,ot 1 0 1,ob 1 2,obb 21 3],.cond (.v 21) (sq [.reg [oa 5,oa 10,ot 1 0 1,oea 1 2],.reg [oa 6,oa 10,och 7 1 0 0 1,I7 8 1 8 1 0 2,oc 6 3]]) kd]),kc 19 1 19 0]))])])),kf 5 2 0,ko])])))]⟩
def X15:A0:=
 ⟨64,[0,1,2,4,5,6,7,8,10,11,12,14,15,16,17,28],6,[(3,some (true,7))],sq [.reg [I0 2 0 0,oci 3 1 0 0 0 0],kw 4,.G4 4 none 4 1 (sq [kw 5,.G4 5 none 5 1 (sq [.reg [ofd 31 0 0 0 0 0 0,oak 6 2 0 0 0,ol 3 1 0,oy 7 0],sq [kah 11 1 12 0 13 0,.block 0 (.loopS [1,2,3,4,5,6,7,11,12,13] 6 (sq [kh 14 13 12,C4 14 0,.block 1 (sq [.reg [N4 1 11 13,ob 1 0,oc 8 1],.reg [ok 3 2,ok 3 6,oa 8,odl 50 0 1 2 0 0 0 0 0 0 0 0,oo 3,oz 4 0,oz 4 1,oak 9 3 0 0 0,ol 3 7 5,oc 10 6],sq [kaa 10 15 0,kan 15 0],.reg [oa 4,oe 2 2,ob 1 1,oa 8,ot 6 2 3,ou 0 4,ob 1 5,I7 4 1 1 5 0 6,oc 4 7],.reg [oa 5,oe 2 2,ob 1 1,oa 8,ot 6 2 3,ou 1 4,ob 1 5,I7 5 1 1 0 0 6,oc 5 7],.reg [ok 3 9,K7 3 6 0],kg 7 0 1 7 1]),kc 13 1 13 0]))],.reg [oa 4,oq (.convStr (.l 0)),oa 5,oa 7,ok 3 6,oa 7,oa 1,ox 6,oby 5 7,oo 8,obj 3 2 9,obj 3 6 9,oba 30 10 11 0 0 9,oh 9 12,oq (.build [.str ⟨#[]⟩,.nils,.int .i64 0,.int .i64 0,.int .i64 0,.int .u8 0,.bool false] [(0,1,.l 1),(1,1,.l 2),(2,1,.l 3),(3,3,.l 4),(6,1,.l 13)]),K7 7 3 14],ko])])]⟩
theorem c69:D0 69 X69:=D3
theorem c73:D0 73 X73:=D3
theorem c35:D0 35 X35:=D3
theorem c67:D0 67 X67:=D3
theorem c31:D0 31 X31:=D3
theorem c30:D0 30 X30:=D3
theorem c50:D0 50 X50:=D3
theorem c121:D0 121 a8L:=D3
theorem c122:D0 122 b0m:=D3
theorem c123:D0 123 a6b:=D3
theorem c104:D0 104 a2n:=D3
theorem c103:D0 103 S6:=D3
theorem c70:D0 70 X70:=D3
theorem c36:D0 36 X36:=D3
theorem c105:D0 105 b1s:=D3
theorem c71:D0 71 X71:=D3
theorem c87:D0 87 X87:=D3
theorem c15:D0 15 X15:=D3
set_option maxHeartbeats 4000000
theorem c8a(b:UInt8):F0 69 [0] [U b.toNat] (B (a2Y b)):=by
 refine E7 c69 0 (by simp[X69]) fun Q hR hN=>?_;have h:=a9e b;simp[X69,h];by_cases h1:32≤P3 b
 . simp[h1];refine hR _ _ ?_;simp[X69,a2Y,h1]
 . simp[h1];refine hR _ _ ?_;simp[X69,a2Y,h1]
theorem b1u(b:UInt8):F0 73 [0] [U b.toNat] (IN (a1n b)):=by
 refine E7 c73 0 (by simp[X73]) fun Q hR hN=>?_;have h:=a9e b;have hc:a1n b=(if 97≤P3 b∧P3 b≤122 then 1 else if 65≤P3 b∧P3 b≤90 then 2 else if 48≤P3 b∧P3 b≤57 then 3 else if P3 b=32 then 4 else 5):=rfl;generalize P3 b=c at h hc;by_cases a1:97≤c∧c≤122
 . rw[if_pos a1]at hc;simp[X73,h,a1];refine hR _ _ ?_;simp[X73,hc]
 rw[if_neg a1]at hc;by_cases a3:65≤c∧c≤90
 . rw[if_pos a3]at hc;have b1:¬97≤c:=i9;simp[X73,h,a3,b1];refine hR _ _ ?_;simp[X73,hc]
 rw[if_neg a3]at hc;by_cases a5:48≤c∧c≤57
 . rw[if_pos a5]at hc;have b1:¬97≤c:=i9;have b2:¬65≤c:=i9;simp[X73,h,a5,b1,b2];refine hR _ _ ?_;simp[X73,hc]
 rw[if_neg a5]at hc;by_cases b1:97≤c<;>by_cases b2:65≤c<;>by_cases b3:48≤c<;>by_cases b4:c=32<;>(try (exfalso;omega))<;>
  (have e1:97≤c→¬c≤122:=i9
   have e2:65≤c→¬c≤90:=i9;have e3:48≤c→¬c≤57:=i9;simp only[b4,if_true,if_false]at hc;simp[X73,h,b1,b2,b3,b4,e1,e2,e3];refine hR _ _ ?_;simp[X73,hc])
theorem b1v(m k:Nat)(hm:m<256)(hk:k≤1000000):F0 67 [0] [UN m,IN k] (B (bit m k)):=by
 refine E7 c67 0 (by simp[X67]) fun Q hR hN=>?_;by_cases h8:k<8
 . have h:=b5Y hm h8;simp[X67,h8,IntKind.bits];simp at h;refine hR _ _ ?_;simp[X67,bit,h8,h]
 . simp[X67,h8];refine hR _ _ ?_;simp[X67,bit,h8]
theorem b2w:F0 31 [0,0,0] [] (SP start):=by refine E7 c31 1 (by simp[X31]) fun Q hR hN=>?_;simp[X31];refine hR _ _ ?_;simp[X31,start]
def a0d(s:By):Option Nat:=s.findIdx? fun b=>!a2Y b
abbrev b1g(s:By):PV:=.tup [IN ((a0d s).getD s.length),I (if(a0d s).isSome then 60 else 0)]
theorem b7B(s:By)(hs:s.length≤1100000000):F0 35 [0,0] [St s] (b1g s):=by
 refine E7 c35 0 (by simp[X35]) fun Q hR hN=>?_;simp[X35];refine I2 (fun(k:Nat) vs h=>k≤s.length∧(∀j,(hj:j<s.length)→j<k→a2Y s[j]=true)∧vs=[St s,.uu,.uu,.uu,IN s.length,IN k,.uu,.uu]∧h=[]) (fun k=>s.length-k) 0 ?_ ?_
 . simp
 . rintro k vs h ⟨g1,g2,rfl,rfl⟩ Q' hK hX hR';by_cases hk:k<s.length
   . have hw:=wk1 k i9;simp[hk];refine l7 (c8a s[k]) ?_;cases hc:a2Y s[k]
     . simp;refine hR' _ _ ?_;simp;have:a0d s=some k:=by
        unfold a0d;rw[a1V];exact⟨hk,by simp[hc],fun j hj=>by simp[g2 j i9 hj]⟩
       refine hR _ _ ?_;simp[X35,this]
     . simp[hw];refine hK (k+1) _ _ i9 ?_;simp;refine⟨i9,fun j hj hjk=>?_⟩;by_cases h2:j<k
       . exact g2 j hj h2
       . obtain rfl:j=k:=i9;exact hc
   . obtain rfl:k=s.length:=i9;have:a0d s=none:=by
      unfold a0d;rw[b1O];intro b hb;obtain⟨j,hj,rfl⟩:=a1F hb;simp[g2 j hj hj]
     simp;refine hX _ _ _ ?_;simp;refine hR _ _ ?_;simp[X35,this]
theorem a6k(t:j9)(s:State)(ht:OkT t)(hs:OkS s):F0 30 [0] [TP t,SP s] (B (B6 t s)):=by
 refine E7 c30 2 (by simp[X30]) fun Q hR hN=>?_;have h1:=b1v t.accept s.mode ht.accept hs.mode;have h2:=b1v s.need 0 hs.need i9;by_cases hm:s.mode<t.modes
 . simp[X30,hm];refine l7 h1 ?_;cases hb:bit t.accept s.mode
   . simp;refine hR _ _ ?_;simp[X30,B6,hb]
   . simp;refine l7 h2 ?_;simp;refine hR _ _ ?_;simp[X30,B6,hb,hm]
 . simp[X30,hm];refine hR _ _ ?_;simp[X30,B6,hm]
abbrev a1u(o:Option State):PV:=.tup [SP (o.getD B9),B o.isSome]
theorem a8J(t:j9)(s:State)(k:Nat)(ht:OkT t)(hs:OkS s)(hk:k≤1000000):F0 50 [0,0,0,0] [TP t,SP s,IN k] (a1u (step t s k)):=by
 refine E7 c50 4 (by simp[X50]) fun Q hR hN=>?_;have hlen:=ht.len;by_cases hkl:k<t.rules.length
 . have tk:¬((t.rules.length:Int)≤k):=i9;have hst:step t s k=a5A t.rules[k] s:=(by unfold step;rw[l9 hkl];rfl);have hr:=ht.a1i _ (B7 hkl);simp[X50,hkl,tk];generalize t.rules[k]=r at hr hst;unfold a5A at hst;have hfin:∀(o:Option State) vs h,step t s k=o→fin X50.results [0,0,0,0] (a1u o) vs h→Q .ret vs h:=fun o vs h ho hf=>hR _ _ (by grind);by_cases hs1:r.src=s.mode
   . simp[hs1];refine l7 (b1v r.left s.last hr.left (by have:=hs.last;omega)) ?_;cases hb:bit r.left s.last
     . rw[if_pos (.inr hb)]at hst;simp;refine hfin _ _ _ hst ?_;simp[X50,B9]
     . rw[if_neg (by simp[hs1,hb])]at hst;by_cases hp:r.print=[]
       . rw[if_pos hp]at hst;simp[hp,b3N hs.need hr.right];by_cases hz:s.need&&&r.right=0
         . rw[if_pos hz]at hst;simp[hz];refine hfin _ _ _ hst ?_;simp[X50,B9]
         . rw[if_neg hz]at hst;have hz':¬((s.need&&&r.right:Nat):Int)=0:=i9;simp[hz];refine hfin _ _ _ hst ?_;simp[X50]
       . rw[if_neg hp]at hst;have h0:0<r.print.length:=a2k.2 hp;have hc0:=b1u r.print[0];have hcl:=b1u r.print[r.print.length-1];have e0:r.print.headD 0=r.print[0]:=(by obtain⟨a,l,h⟩:=a9D hp;simp[h]);have el:r.print.getLastD 0=r.print[r.print.length-1]:=(by grind);have hl1:r.print.length-1<r.print.length:=i9;have hlen:=hr.print;have hw:IntKind.i64.wrap ((r.print.length:Int)-1)=((r.print.length-1:Nat):Int):=(by rw[wrap_ok i9 i9];omega);rw[e0,el]at hst;simp[hp,h0];refine l7 hc0 ?_;simp;refine l7 (b1v s.need _ hs.need (by have:=b1p r.print[0];omega)) ?_;cases hb2:bit s.need (a1n r.print[0])
         . rw[if_pos hb2]at hst;simp;refine hfin _ _ _ hst ?_;simp[X50,B9]
         . rw[if_neg (by simp[hb2])]at hst;simp[hw,hl1];refine l7 hcl ?_;simp;refine hfin _ _ _ hst ?_;simp[X50]
   . rw[if_pos (.inl hs1)]at hst;simp[hs1];refine hfin _ _ _ hst ?_;simp[X50,B9]
 . have tk:((t.rules.length:Int)≤k):=i9;have hst:step t s k=none:=(by unfold step;rw[a0f i9];rfl);simp[X50,hkl,tk];refine hR _ _ ?_;simp[X50,B9,hst]
set_option maxHeartbeats 8000000
def a3q(s:By):Bool:=s.any fun b=>decide (a1n b=4)
def a0y(r:N9)(modes:Nat):Bool:=
 if 4<r.print.length∨r.cells.length<1∨4<r.cells.length then false
 else if(a0d r.print).isSome then false
 else if r.left<1∨63<r.left∨r.right<1∨63<r.right then false
 else if modes≤r.src∨modes≤r.dst then false
 else if a3q r.print then decide (r.print.length=1∧r.cells=[0])
 else r.cells.all fun c=>decide (c<64)&&decide (c≠63)&&decide (c≠0)
theorem c5o(s:By)(hs:s.length≤1100000000):F0 121 [0] [St s] (B (a3q s)):=by
 refine E7 c121 0 (by simp[a8L]) fun Q hR hN=>?_;simp[a8L];refine I2 (fun(k:Nat) vs h=>k≤s.length∧(∀j,(hj:j<s.length)→j<k→a1n s[j]≠4)∧vs=[St s,.uu,.uu,IN s.length,IN k,.uu,.uu]∧h=[]) (fun k=>s.length-k) 0 ?_ ?_
 . simp
 . rintro k vs h ⟨g1,g2,rfl,rfl⟩ Q' hK hX hR';by_cases hk:k<s.length
   . have hw:=wk1 k i9;simp[hk];refine l7 (b1u s[k]) ?_;by_cases hc:a1n s[k]=4
     . simp[hc];refine hR' _ _ ?_;simp;have:a3q s=true:=by
        unfold a3q
        grind
       refine hR _ _ ?_;simp[a8L,this]
     . simp[hw,hc];refine hK (k+1) _ _ i9 ?_;simp
       grind
   . obtain rfl:k=s.length:=i9;have:a3q s=false:=by
      unfold a3q;rw[List.any_eq_false];intro b hb;obtain⟨j,hj,rfl⟩:=a1F hb;simp[g2 j hj hj]
     simp;refine hX _ _ _ ?_;simp;refine hR _ _ ?_;simp[a8L,this]
theorem c4S(c:Nat):F0 122 [0] [UN c] (B (decide (c<64))):=by refine E7 c122 0 (by simp[b0m]) fun Q hR hN=>?_;simp[b0m];refine hR _ _ ?_;simp[b0m]
theorem c2y(a b:List Nat)(ha:a.length≤1100000000):F0 123 [0] [CL a,CL b] (B (decide (a=b))):=by
 refine E7 c123 0 (by simp[a6b]) fun Q hR hN=>?_;by_cases hl:a.length=b.length
 . simp[a6b,hl];refine I2 (fun(k:Nat) vs h=>k≤b.length∧(∀j,(hj:j<b.length)→j<k→a[j]'i9=b[j])∧vs=[CL a,CL b,.uu,.uu,.uu,IN b.length,IN k,.uu,.uu]∧h=[]) (fun k=>b.length-k) 0 ?_ ?_
   . simp
   . rintro k vs h ⟨g1,g2,rfl,rfl⟩ Q' hK hX hR';by_cases hk:k<b.length
     . have hw:=wk1 k i9;have hka:k<a.length:=i9;by_cases hc:a[k]=b[k]
       . simp[hk,hka,hc,hw];refine hK (k+1) _ _ i9 ?_;simp
         grind
       . have:¬a=b:=fun e=>hc (by subst e;rfl);have hc':¬((a[k]:Nat):Int)=b[k]:=i9;simp[hk,hka,hc,hc'];refine hR' _ _ ?_;simp;refine hR _ _ ?_;simp[a6b,this]
     . obtain rfl:k=b.length:=i9;have:a=b:=a0t hl fun j h1 h2=>g2 j h2 h2;simp;refine hX _ _ _ ?_;simp;refine hR _ _ ?_;simp[a6b,this]
 . simp[a6b,hl];refine hR _ _ ?_;have:¬a=b:=fun e=>hl (by rw[e]);simp[a6b,this]
theorem b5n(a b:N9):(a=b)=(a.src=b.src∧a.dst=b.dst∧a.left=b.left∧a.right=b.right∧a.print=b.print∧a.cells=b.cells):=by
 cases a;cases b;simp only[N9.mk.injEq];apply propext;constructor
 . grind
 . grind
theorem c6v(a b:N9)(ha:a.cells.length≤1100000000):F0 104 [0] [RP a,RP b] (B (decide (a=b))):=by
 refine E7 c104 2 (by simp[a2n]) fun Q hR hN=>?_;have he:=b5n a b;by_cases h1:a.src=b.src
 . by_cases h2:a.dst=b.dst
   . by_cases h3:a.left=b.left
     . by_cases h4:a.right=b.right
       . by_cases h5:a.print=b.print
         . simp[a2n,h1,h2,h3,h4,h5];refine l7 (c2y a.cells b.cells ha) ?_;simp;refine hR _ _ ?_;simp[a2n,he,h1,h2,h3,h4,h5]
         all_goals
          have h5':(a.print==b.print)=false:=beq_eq_false_iff_ne.2 h5;simp[a2n,h1,h2,h3,h4,h5'];refine hR _ _ ?_;simp[a2n,he,h1,h2,h3,h4,h5]
       all_goals
        simp[a2n,h1,h2,h3,h4];refine hR _ _ ?_;simp[a2n,he,h1,h2,h3,h4]
     all_goals
      simp[a2n,h1,h2,h3];refine hR _ _ ?_;simp[a2n,he,h1,h2,h3]
   all_goals
    simp[a2n,h1,h2];refine hR _ _ ?_;simp[a2n,he,h1,h2]
 all_goals
  simp[a2n,h1];refine hR _ _ ?_;simp[a2n,he,h1]
theorem c3A(r:N9)(m:Nat)(hr:OkR r)(hm:m≤1000000):F0 103 [0] [RP r,IN m] (B (a0y r m)):=by
 refine E7 c103 1 (by simp[S6]) fun Q hR hN=>?_;have he:a0y r m=(if 4<r.print.length∨r.cells.length<1∨4<r.cells.length then false
  else if(a0d r.print).isSome then false
  else if r.left<1∨63<r.left∨r.right<1∨63<r.right then false
  else if m≤r.src∨m≤r.dst then false
  else if a3q r.print then decide (r.print.length=1∧r.cells=[0])
  else r.cells.all fun c=>decide (c<64)&&decide (c≠63)&&decide (c≠0)):=rfl
 have hl:=hr.print;have hcl:=hr.cells;by_cases a1:4<r.print.length
 . simp[S6,a1];refine hR _ _ ?_;simp[S6,he,a1]
 by_cases a2:r.cells.length<1
 . simp[S6,a1,a2];refine hR _ _ ?_;simp[S6,he,a2]
 by_cases a3:4<r.cells.length
 . simp[S6,a1,a2,a3];refine hR _ _ ?_;simp[S6,he,a3]
 rw[if_neg i9]at he;have ht:=b7B r.print i9;cases hb:a0d r.print with
 |some k=>
  simp only[b1g,hb]at ht;simp[S6,a1,a2,a3];refine l7 ht ?_;simp;refine hR _ _ ?_;simp[S6,he,hb]
 |none=>
  simp only[b1g,hb]at ht;rw[if_neg (by simp[hb])]at he;by_cases b1:r.left<1
  . simp[S6,a1,a2,a3];refine l7 ht ?_;simp[b1];refine hR _ _ ?_;simp[S6,he,b1]
  by_cases b2:63<r.left
  . simp[S6,a1,a2,a3];refine l7 ht ?_;simp[b1,b2];refine hR _ _ ?_;simp[S6,he,b2]
  by_cases b3:r.right<1
  . simp[S6,a1,a2,a3];refine l7 ht ?_;simp[b1,b2,b3];refine hR _ _ ?_;simp[S6,he,b3]
  by_cases b4:63<r.right
  . simp[S6,a1,a2,a3];refine l7 ht ?_;simp[b1,b2,b3,b4];refine hR _ _ ?_;simp[S6,he,b4]
  rw[if_neg i9]at he;by_cases b5:m≤r.src
  . simp[S6,a1,a2,a3];refine l7 ht ?_;simp[b1,b2,b3,b4,b5];refine hR _ _ ?_;simp[S6,he,b5]
  by_cases b6:m≤r.dst
  . simp[S6,a1,a2,a3];refine l7 ht ?_;simp[b1,b2,b3,b4,b5,b6];refine hR _ _ ?_;simp[S6,he,b6]
  rw[if_neg i9]at he;have hsp:=c5o r.print i9;cases hs:a3q r.print
  . rw[if_neg (by simp[hs])]at he;rw[hs]at hsp;simp[S6,a1,a2,a3];refine l7 ht ?_;simp[b1,b2,b3,b4,b5,b6];refine l7 hsp ?_;simp;refine I2 (fun(k:Nat) vs h=>k≤r.cells.length∧(∀j,(hj:j<r.cells.length)→j<k→(r.cells[j]<64∧r.cells[j]≠63∧r.cells[j]≠0))∧
     vs=[.uu,.uu,.uu,.uu,.uu,.uu,.uu,.uu,.uu,.uu,.uu,CL r.cells,IN r.cells.length,IN k,.uu,.uu]∧h=[(0,.dead)]) (fun k=>r.cells.length-k) 0 ?_ ?_
    . simp
    . rintro k vs h ⟨g1,g2,rfl,rfl⟩ Q' hK hX hR';by_cases hk:k<r.cells.length
      . have hw:=wk1 k i9;have hbad:¬(r.cells[k]<64∧r.cells[k]≠63∧r.cells[k]≠0)→a0y r m=false:=fun hn=>by
         rw[he,List.all_eq_false];exact⟨r.cells[k],B7 hk,by simpa[and_assoc]using hn⟩
        have hcv:=c4S r.cells[k];by_cases e1:r.cells[k]<64
        . by_cases e2:r.cells[k]=63
          . simp[hk];refine l7 hcv ?_;simp[e1,e2];refine hR' _ _ ?_;simp;refine hR _ _ ?_;simp[S6,hbad (by simp[e2])]
          . by_cases e3:r.cells[k]=0
            . simp[hk];refine l7 hcv ?_;simp[e1,e2,e3];refine hR' _ _ ?_;simp;refine hR _ _ ?_;simp[S6,hbad (by simp[e3])]
            . simp[hk];refine l7 hcv ?_;simp[e1,e2,e3,hw];refine hK (k+1) _ _ i9 ?_;simp
              grind
        . simp[hk];refine l7 hcv ?_;simp[e1];refine hR' _ _ ?_;simp;refine hR _ _ ?_;simp[S6,hbad (by simp[e1])]
      . obtain rfl:k=r.cells.length:=i9;have:a0y r m=true:=by
         rw[he,A8];intro c hc;obtain⟨j,hj,rfl⟩:=a1F hc
         grind
        simp;refine hX _ _ _ ?_;simp;refine hR _ _ ?_;simp[S6,this]
  . rw[if_pos hs]at he;rw[hs]at hsp;simp[S6,a1,a2,a3];refine l7 ht ?_;simp[b1,b2,b3,b4,b5,b6];refine l7 hsp ?_;by_cases f1:r.print.length=1
    . by_cases f2:r.cells.length=1
      . obtain⟨c0,hc0⟩:=a9C.1 f2;rw[hc0]at he;simp[f1,hc0];refine hR _ _ ?_;simp[S6,he,f1]
      . have:¬r.cells=[0]:=fun e=>f2 (by rw[e];rfl);simp[f1,f2];refine hR _ _ ?_;simp[S6,he,f1,this]
    . simp[f1];refine hR _ _ ?_;simp[S6,he,f1]
def R1(t:j9):Bool:=
 if t.modes<1∨8<t.modes then false
 else if t.accept=0∨2^t.modes≤t.accept then false
 else if t.rules.length<1∨64<t.rules.length then false
 else(t.rules.all fun r=>a0y r t.modes)&&decide t.rules.Nodup
def b3m(t:j9)(k:Nat):Prop:=(∀j,(hj:j<t.rules.length)→j<k→a0y t.rules[j] t.modes=true)∧∀i j,(hj:j<t.rules.length)→(hi:i<j)→j<k→t.rules[i]≠t.rules[j]
theorem c0N{t:j9}(h:b3m t t.rules.length):((t.rules.all fun r=>a0y r t.modes)&&decide t.rules.Nodup)=true:=by obtain⟨h1,h2⟩:=h;rw[E6];refine⟨A8.2 fun r hr=>?_,decide_eq_true (a5N.2 fun i j hi hj hij=>h2 i j hj hij hj)⟩;obtain⟨j,hj,rfl⟩:=a1F hr;exact h1 j hj hj
theorem b5o{m:Nat}(h:m≤8):IntKind.i64.wrap (2^min m 64)=((2^m:Nat):Int):=by
 have:∀n:Fin 9,IntKind.i64.wrap (2^min n.val 64)=((2^n.val:Nat):Int):=by decide+kernel
 exact this ⟨m,i9⟩
abbrev dd:Row:=(0,.dead)
theorem c9x(t:j9)(ht:OkT t):∃i e:Int,(e=0↔R1 t=true)∧F0 70 [0,0] [TP t] (.tup [I i,I e]):=by
 suffices hh:∃r,(∃i e:Int,(e=0↔R1 t=true)∧r=.tup [I i,I e])∧F0 70 [0,0] [TP t] r by obtain⟨r,⟨i,e,h1,rfl⟩,h2⟩:=hh;exact⟨i,e,h1,h2⟩
 refine a2x mixed (X:=X70) c70 5 (by simp[X70]) (by kernel_rfl) fun Q hR hN=>?_;have hv:R1 t=(if t.modes<1∨8<t.modes then false
  else if t.accept=0∨2^t.modes≤t.accept then false
  else if t.rules.length<1∨64<t.rules.length then false
  else(t.rules.all fun r=>a0y r t.modes)&&decide t.rules.Nodup):=rfl
 have hbad:∀i e:Int,e≠0→R1 t=false→∃i' e':Int,(e'=0↔R1 t=true)∧PV.tup [I i,I e]=.tup [I i',I e']:=fun i e he h=>⟨i,e,by simp[he,h],rfl⟩
 by_cases a1:t.modes<1
 . simp[X70,a1];refine hR _ _ _ (hbad (-1) 1 H6 (by grind)) ?_;simp[X70]
 by_cases a2:8<t.modes
 . simp[X70,a1,a2];refine hR _ _ _ (hbad (-1) 1 H6 (by grind)) ?_;simp[X70]
 rw[if_neg i9]at hv;by_cases a3:t.accept=0
 . simp[X70,a1,a2,a3];refine hR _ _ _ (hbad (-1) 1 H6 (by grind)) ?_;simp[X70]
 have hsh:=b5o (m:=t.modes) i9;have hac:=ht.accept;have hwa:IntKind.i64.wrap (t.accept:Int)=t.accept:=O5;have tp:((2:Int)^t.modes≤(t.accept:Int))=(2^t.modes≤t.accept):=by grind
 by_cases a4:2^t.modes≤t.accept
 . simp[X70,a1,a2,a3,IntKind.bits,hsh,hwa,tp,a4];refine hR _ _ _ (hbad (-1) 1 H6 (by grind)) ?_;simp[X70]
 rw[if_neg i9]at hv;by_cases a5:t.rules.length<1
 . have a5':t.rules=[]:=a0Q.1 i9;simp[X70,a1,a2,a3,IntKind.bits,hsh,hwa,tp,a4,a5'];refine hR _ _ _ (hbad (-1) 1 H6 (by grind)) ?_;simp[X70]
 by_cases a6:64<t.rules.length
 . simp[X70,a1,a2,a3,IntKind.bits,hsh,hwa,tp,a4,a5,a6];refine hR _ _ _ (hbad (-1) 1 H6 (by grind)) ?_;simp[X70]
 rw[if_neg i9]at hv;simp[X70,a1,a2,a3,IntKind.bits,hsh,hwa,tp,a4,a5,a6];refine I2 (fun(k:Nat) vs h=>k≤t.rules.length∧b3m t k∧vs=[.uu,.ptr 3 1 0,.uu,.uu,.uu,.uu,.uu,.uu,.uu,.uu,.slc (t.rules.map RP),IN t.rules.length,IN k,.uu,.uu,.uu,.uu,.uu,.uu,.uu]∧
  h=[dd,dd,dd,(1,.var [IN t.modes,UN t.accept,.slc (t.rules.map RP)]),dd]) (fun k=>t.rules.length-k) 0 ?_ ?_
 . simp;exact⟨fun j _ h=>absurd h i9,fun i j _ _ h=>absurd h i9⟩
 . rintro k vs h ⟨g1,g2,rfl,rfl⟩ Q' hK hX hR';by_cases hk:k<t.rules.length
   . have hw:=wk1 k i9;have hrk:=ht.a1i _ (B7 hk);have hsd:=c3A t.rules[k] t.modes hrk i9;cases hs:a0y t.rules[k] t.modes
     . have hf:R1 t=false:=by
        rw[hv,show(t.rules.all fun r=>a0y r t.modes)=false from List.all_eq_false.2 ⟨_,B7 hk,by simp[hs]⟩];rfl
       rw[hs]at hsd;simp[hk];refine l7 hsd ?_;simp;refine hR' _ _ ?_;simp;refine hR _ _ _ (hbad k 20 H6 hf) ?_;simp[X70]
     . rw[hs]at hsd;simp[hk];refine l7 hsd ?_;simp[show k≤t.rules.length by omega];refine I2 (fun(j:Nat) vs h=>j≤k∧(∀i,(hi:i<j)→(hjk:j≤k)→t.rules[i]≠t.rules[k])∧vs=[.uu,.ptr 3 1 0,.uu,.uu,IN k,.ptr 4 1 0,.uu,.uu,.uu,.uu,.slc (t.rules.map RP),IN t.rules.length,IN k,.uu,.uu,.slc ((t.rules.map RP).take k),IN k,IN j,.uu,.uu]∧
        h=[dd,dd,dd,(1,.var [IN t.modes,UN t.accept,.slc (t.rules.map RP)]),(1,.var [St t.rules[k].print,CL t.rules[k].cells,UN t.rules[k].left,UN t.rules[k].right,IN t.rules[k].src,IN t.rules[k].dst])]) (fun j=>k-j) 0 ?_ ?_
       . simp[show k≤t.rules.length by omega]
       . rintro j vs h ⟨q1,q2,rfl,rfl⟩ Q'' hK2 hX2 hR2;by_cases hj:j<k
         . have hjl:j<t.rules.length:=i9;have hwj:=wk1 j i9;have heq:=c6v t.rules[j] t.rules[k] (by have:=(ht.a1i _ (B7 hjl)).cells;omega);by_cases hjk:t.rules[j]=t.rules[k]
           . have hf:R1 t=false:=by
              rw[hv,show decide t.rules.Nodup=false from decide_eq_false fun hn=>a5N.1 hn j k hjl hk hj hjk,Bool.and_false]
             simp only[hjk,decide_true]at heq;simp[hj,hjl,hjk];refine l7 heq ?_;simp;refine hR2 _ _ ?_;simp;refine hR' _ _ ?_;simp;refine hR _ _ _ (hbad k 20 H6 hf) ?_;simp[X70]
           . simp only[hjk,decide_false]at heq;simp[hj,hjl];refine l7 heq ?_;simp[hwj];refine hK2 (j+1) _ _ i9 ?_;simp;refine⟨i9,fun i hi hjk'=>?_⟩;by_cases h2:i<j
             . exact q2 i h2 q1
             . grind
         . obtain rfl:j=k:=i9;simp;refine hX2 _ _ _ ?_;simp[hw];refine hK (j+1) _ _ i9 ?_;simp;refine⟨i9,fun i hi hij=>?_,fun i m hm hi hmj=>?_⟩
           . by_cases h2:i<j
             . exact g2.1 i hi h2
             . obtain rfl:i=j:=i9;exact hs
           . by_cases h2:m<j
             . exact g2.2 i m hm hi h2
             . grind
   . obtain rfl:k=t.rules.length:=i9;have hf:R1 t=true:=(by rw[hv];exact c0N g2);simp;refine hX _ _ _ ?_;simp;refine hR _ _ _ ⟨0,0,by simp[hf],rfl⟩ ?_;simp[X70]
theorem a7V(t:j9)(ht:OkT t):F0 36 [0] [TP t] (B (R1 t)):=by refine E7 c36 1 (by simp[X36]) fun Q hR hN=>?_;obtain⟨i,e,he,hc⟩:=c9x t ht;simp[X36];refine l7 hc ?_;simp;refine hR _ _ ?_;simp[X36];cases hv:R1 t<;>simp[hv]at he⊢ <;>exact he
structure a1x(s:State):Prop where
 mode:s.mode<8
 last:s.last≤5
 need:s.need<64
theorem a1x.ok{s:State}(h:a1x s):OkS s:=⟨by have:=h.mode;omega,h.last,by have:=h.need;omega⟩
theorem a7Y:a1x start:=⟨H6,H6,H6⟩
structure s5(t:j9):Prop where
 m1:1≤t.modes
 m8:t.modes≤8
 a0:t.accept≠0
 a8:t.accept<2^t.modes
 l1:1≤t.rules.length
 l64:t.rules.length≤64
 sound:∀r∈t.rules,a0y r t.modes=true
 nodup:t.rules.Nodup
theorem a6i(t:j9):R1 t=true↔s5 t:=by
 unfold R1;constructor
 . intro h;split at h
   . cases h
   split at h
   . cases h
   split at h
   . cases h
   rw[E6,A8,decide_eq_true_eq]at h;exact⟨i9,i9,i9,i9,i9,i9,h.1,h.2⟩
 . rintro⟨h1,h2,h3,h4,h5,h6,h7,h8⟩;rw[if_neg i9,if_neg i9,if_neg i9,E6,A8,decide_eq_true_eq];exact⟨h7,h8⟩
structure Snd(r:N9)(m:Nat):Prop where
 p4:r.print.length≤4
 c1:1≤r.cells.length
 c4:r.cells.length≤4
 text:a0d r.print=none
 left1:1≤r.left
 left:r.left≤63
 right1:1≤r.right
 right:r.right≤63
 src:r.src<m
 dst:r.dst<m
 cell:∀c∈r.cells,c<63
theorem a3F{r:N9}{m:Nat}(h:a0y r m=true):Snd r m:=by
 unfold a0y at h;split at h
 . cases h
 split at h
 . cases h
 rename_i hb;split at h
 . cases h
 split at h
 . cases h
 have hb':a0d r.print=none:=by simpa using hb
 refine⟨i9,i9,i9,hb',i9,i9,i9,i9,i9,i9,?_⟩;split at h
 . grind
 . grind
theorem s5.snd{t:j9}(h:s5 t){r:N9}(hr:r∈t.rules):Snd r t.modes:=a3F (h.sound r hr)
theorem s5.ok{t:j9}(h:s5 t):OkT t:=by have h2:2^t.modes≤2^8:=Nat.pow_le_pow_right H6 h.m8;refine⟨by have:=h.m8;omega,by have:=h.a8;omega,by have:=h.l64;omega,fun r hr=>?_⟩;have s:=h.snd hr;have:=h.m8;exact⟨by have:=s.p4;omega,by have:=s.c4;omega,fun c hc=>by have:=s.cell c hc;omega,by have:=s.left;omega,by have:=s.right;omega,by have:=s.src;omega,by have:=s.dst;omega⟩
theorem b6Y{t:j9}{s s':State}{k:Nat}(ht:s5 t)(hs:a1x s)(h:step t s k=some s'):a1x s':=by
 unfold step at h;obtain⟨r,hr,h⟩:=V1.1 h;have sn:=ht.snd (C8 hr);have hd:r.dst<8:=by have:=sn.dst;have:=ht.m8;omega
 unfold a5A at h;split at h
 . cases h
 split at h
 . split at h
   . cases h
   . cases h;exact⟨hd,hs.last,Nat.lt_of_le_of_lt Nat.and_le_left hs.need⟩
 . split at h
   . cases h
   . cases h;exact⟨hd,b1p _,by have:=sn.right;show r.right<64;omega⟩
def code(s:State):Nat:=(s.mode*6+s.last)*64+s.need
theorem c3o{s:State}(h:a1x s):code s<3072:=by unfold code;have:=h.mode;have:=h.last;have:=h.need;omega
theorem b6h{a b:State}(ha:a1x a)(hb:a1x b)(h:code a=code b):a=b:=by unfold code at h;have:=ha.last;have:=hb.last;have:=ha.need;have:=hb.need;cases a;cases b;simp only[State.mk.injEq]at*;omega
theorem a3P:∀(n:Nat) (l:List Nat),l.Nodup→(∀x∈l,x<n)→l.length≤n
 |0,l,_,h=>by cases l with|nil=>simp|cons a l=>exact absurd (h a a2W) i9
 |n+1,l,hn,h=>by
  have h1:=a3P n (l.erase n) (hn.erase n) fun x hx=>by have h2:=h x (List.mem_of_mem_erase hx);have:x≠n:=fun e=>(by subst e;exact absurd hx (hn.not_mem_erase));omega
  have:=List.length_erase_le (a:=n) (l:=l);have h3:l.length≤(l.erase n).length+1:=by grind
  omega
theorem c2a{l:List State}(hn:l.Nodup)(hv:∀s∈l,a1x s):l.length≤3072:=by
 have:=a3P 3072 (l.map code) (by
  rw[a5O,List.pairwise_map];exact(a5O.1 hn).imp_of_mem fun ha hb hab e=>hab (b6h (hv _ ha) (hv _ hb) e)) fun x hx=>by
  obtain⟨s,hs,rfl⟩:=E9.1 hx;exact c3o (hv s hs)
 simpa using this
abbrev Ex:=List State×List (List Nat)
def a5b(t:j9)(k:Nat)(a:Ex)(a1i:Nat):Ex:=
 match step t (a.1.getD k B9) a1i with
 |none=>a
 |some nx=>match a.1.idxOf? nx with
  |some n=>(a.1,a.2.set n (a.2.getD n []++[k]))
  |none=>(a.1++[nx],a.2++[[k]])
def X6(t:j9)(k:Nat)(a:Ex)(j:Nat):Ex:=(List.range j).foldl (a5b t k) a
def a0W(t:j9):Nat→Nat→Ex→Ex
 |0,_,a=>a
 |f+1,k,a=>if k<a.1.length then a0W t f (k+1) (X6 t k a t.rules.length)else a
def explore(t:j9):Ex:=a0W t 3073 0 ([start],[[]])
structure Inv(b:Nat)(a:Ex):Prop where
 nodup:a.1.Nodup
 val:∀s∈a.1,a1x s
 len:a.2.length=a.1.length
 short:∀l∈a.2,l.length≤b
 pos:1≤a.1.length
theorem Inv.le{b:Nat}{a:Ex}(h:Inv b a):a.1.length≤3072:=c2a h.nodup h.val
theorem c6I{t:j9}(ht:s5 t){b k a1i:Nat}{a:Ex}(h:Inv b a)(hk:k<a.1.length):Inv (b+1) (a5b t k a a1i)∧a.1.length≤(a5b t k a a1i).1.length:=by
 have hg:a.1.getD k B9=a.1[k]:=by grind
 unfold a5b;split
 . exact⟨⟨h.nodup,h.val,h.len,fun l hl=>by have:=h.short l hl;omega,h.pos⟩,m0 _⟩
 . rename_i nx hs;rw[hg]at hs;have hv:=b6Y ht (h.val _ (B7 hk)) hs;split
   . rename_i n hn;refine⟨⟨h.nodup,h.val,by simp[h.len],fun l hl=>?_,h.pos⟩,m0 _⟩;have hnl:n<a.2.length:=by
      rw[h.len];have:=a1V.1 hn;obtain⟨h1,_⟩:=this;exact h1
     rcases a2E hl with hl|rfl
     . have:=h.short l hl;omega
     . have:=h.short _ (B7 hnl);rw[u9,l9 hnl];simp;omega
   . rename_i hn;have hm:nx∉a.1:=(by grind);refine⟨⟨?_,fun s hs=>?_,by simp[h.len],fun l hl=>?_,k7⟩,k7⟩
     . rw[a3Z];exact⟨h.nodup,k7,fun x hx y hy=>by simp at hy;subst hy;exact fun e=>hm (e▸hx)⟩
     . rcases G7.1 hs with hs|hs
       . exact h.val s hs
       . simp at hs;subst hs;exact hv
     . rcases G7.1 hl with hl|hl
       . have:=h.short l hl;omega
       . simp at hl;subst hl;simp
theorem b0F(t:j9)(k:Nat)(a:Ex)(j:Nat):X6 t k a (j+1)=a5b t k (X6 t k a j) j:=by unfold X6;rw[a2F,List.foldl_append];rfl
theorem a5o{t:j9}(ht:s5 t){b k:Nat}{a:Ex}(h:Inv b a)(hk:k<a.1.length):∀j,Inv (b+j) (X6 t k a j)∧a.1.length≤(X6 t k a j).1.length
 |0=>⟨h,m0 _⟩
 |j+1=>by obtain⟨h1,h2⟩:=a5o ht h hk j;rw[b0F];obtain⟨h3,h4⟩:=c6I ht (a1i:=j) h1 (by omega:k<_);exact⟨h3,i9⟩
theorem a7S:Inv 0 ([start],[[]]):=⟨k7,fun s hs=>by simp at hs;subst hs;exact a7Y,rfl,fun l hl=>by simp at hl;subst hl;simp,k7⟩
abbrev FW(l:List Nat):PV:=if l=[]then .nils else .uslc (l.map IN)
abbrev F4(L:List State):List PV:=L.map SP
theorem c8i(a b:State):a0w (SP a) (SP b)=some (decide (a=b)):=by cases a;cases b;simp[a0w,U8,a0N,Bool.and_comm,Bool.and_assoc]
theorem b7H(s:State):∀(L:List State) (i:Nat),W9 (SP s) (L.map SP) i=some ((L.idxOf? s).map (· +i))
 | [],i=>rfl
 |a::L,i=>by
  simp only[a0s,W9];rw[c8i,b7H s L (i+1)];by_cases h:a=s
  . grind
  . have h':¬s=a:=fun e=>h e.symm;simp[h',List.idxOf?,List.findIdx?_cons,h];cases List.findIdx? (fun x=>x==s) L<;>simp;omega
@[simp] theorem d1g(m l n:Nat)(L:List State):W9 (.agg [.int .i64 m,.int .i64 l,.int .u8 n]) (L.map SP) 0=some (L.idxOf? ⟨m,l,n⟩):=by have:=b7H ⟨m,l,n⟩ L 0;simpa using this
@[simp] theorem d1c(l:List Nat):List.map (B3∘IN) l=l.map IN:=L9 fun _ _=>rfl
@[simp] theorem d2j(l:List Nat):List.map (B3∘UN) l=l.map UN:=L9 fun _ _=>rfl
@[simp] theorem d0j(l:List State):List.map (B3∘SP) l=l.map SP:=L9 fun _ _=>rfl
@[simp] theorem d0t:FW []=.nils:=rfl
@[simp] theorem d1b(a:Nat)(l:List Nat):FW (a::l)=.uslc (IN a::l.map IN):=rfl
theorem c7P(F:List (List Nat)):∀x,x∈F→D4 (FW x)=true:=fun x _=>by unfold FW;split<;>rfl
@[simp ↓] theorem d1E(F:List (List Nat)):(∀x,x∈F→D4 (FW x)=true)=True:=eq_true (c7P F)
theorem b5q(t:j9)(ht:s5 t):F0 105 [3,1] [TP t] (.tup [.uslc (F4 (explore t).1),.uslc ((explore t).2.map FW)]):=by
 refine E7 c105 17 (by simp[b1s]) fun Q hR hN=>?_;simp[b1s];refine l7 b2w ?_;simp;refine I2 (fun(p:Nat×Ex) vs h=>a0W t (3073-p.1) p.1 p.2=explore t∧Inv (p.1*64) p.2∧p.1≤p.2.1.length∧
  vs=[.uu,.ptr 12 1 0,.uu,.uu,.uu,.own 13 1 p.2.1.length 3 0 p.2.1.length,.own 14 1 p.2.2.length 1 0 p.2.2.length,.mapv 15 1,IN p.1,.uu,.uu,.uu,.uu,.uu,.uu,.uu,.uu,.uu,.uu,.uu]∧
  h=[dd,dd,dd,dd,dd,dd,dd,dd,dd,dd,dd,dd,(1,.var [IN t.modes,UN t.accept,.slc (t.rules.map RP)]),(1,.arr 3 0 false (F4 p.2.1)),(1,.arr 1 0 false (p.2.2.map FW)),(1,.mp false (F4 p.2.1) ((List.range p.2.1.length).map IN)),dd]) (fun p=>3073-p.1) (0,([start],[[]])) ?_ ?_
 . simp;exact⟨rfl,a7S⟩
 . rintro⟨k,L,F⟩ vs h ⟨g1,g2,g3,rfl,rfl⟩ Q' hK hX hR';dsimp only at g1 g2 g3;have hR64:=ht.l64;have hL:=g2.le;dsimp only at hL;have hFL:=g2.len;dsimp only at hFL;by_cases hk:k<L.length
   . have hw:=wk1 k i9;simp[hk];refine I2 (fun(j:Nat) vs h=>j≤t.rules.length∧
      vs=[.uu,.ptr 12 1 0,.uu,.uu,.uu,.own 13 1 (X6 t k (L,F) j).1.length 3 0 (X6 t k (L,F) j).1.length,.own 14 1 (X6 t k (L,F) j).2.length 1 0 (X6 t k (L,F) j).2.length,.mapv 15 1,IN k,.uu,.uu,.uu,.uu,.uu,.uu,IN t.rules.length,IN j,.uu,.uu,.uu]∧
      h=[dd,dd,dd,dd,dd,dd,dd,dd,dd,dd,dd,dd,(1,.var [IN t.modes,UN t.accept,.slc (t.rules.map RP)]),(1,.arr 3 0 false (F4 (X6 t k (L,F) j).1)),(1,.arr 1 0 false ((X6 t k (L,F) j).2.map FW)),(1,.mp false (F4 (X6 t k (L,F) j).1) ((List.range (X6 t k (L,F) j).1.length).map IN)),dd]) (fun j=>t.rules.length-j) 0 ?_ ?_
     . simp[X6]
     . rintro j vs h ⟨q1,rfl,rfl⟩ Q2 hK2 hX2 hR2;obtain⟨i1,i2⟩:=a5o ht g2 hk j;have hsu:=b0F t k (L,F) j;by_cases hj:j<t.rules.length
       . have hwj:=wk1 j i9;generalize X6 t k (L,F) j=A at i1 i2 hsu;obtain⟨L',F'⟩:=A;have hk':k<L'.length:=(by grind);have hL':=i1.le;have hFL':=i1.len;dsimp only at hL' hFL';have hst:=a8J t L'[k] j ht.ok (i1.val _ (B7 hk')).ok i9;have hg:L'.getD k B9=L'[k]:=(by grind);unfold a5b at hsu;simp only[hg]at hsu;cases hs:step t L'[k] j with
         |none=>
          simp only[hs]at hsu;simp only[a1u,hs]at hst;simp[hj,hk'];refine l7 hst ?_;simp[hwj];refine hK2 (j+1) _ _ i9 ?_;simp[hsu];omega
         |some nx=>
          simp only[hs]at hsu;simp only[a1u,hs]at hst;cases hn:L'.idxOf? nx with
          |some n=>
           simp only[hn]at hsu;have hnl:n<L'.length:=by obtain⟨h1,_⟩:=a1V.1 hn;exact h1
           have hnF:n<F'.length:=i9;have hgF:F'.getD n []=F'[n]:=(by grind);rw[hgF]at hsu;simp[hj,hk'];refine l7 hst ?_;by_cases hf:F'[n]=[]
           . rw[hf]at hsu;obtain⟨F3,hF3⟩:=ex1 (F'.set n ([]++[k]));have e6:(List.map FW F').set n (.uslc [IN k])=List.map FW F3:=(by rw[←hF3,J8];rfl);have e7:F'.length=F3.length:=(by rw[←hF3];simp);rw[hF3]at hsu;simp[hwj,hn,hnl,hnF,hf,e6];refine hK2 (j+1) _ _ i9 ?_;simp[hsu,e7];omega
           . obtain⟨a,l,hal⟩:=a9D hf;rw[hal]at hsu;obtain⟨F3,hF3⟩:∃F3,F'.set n ((a::l)++[k])=F3:=⟨_,rfl⟩
             have hE:FW F'[n]=.uslc (IN a::l.map IN):=(by rw[hal];rfl);have e6:(List.map FW F').set n (.uslc (IN a::(l.map IN++[IN k])))=List.map FW F3:=(by rw[←hF3,J8];simp);have e7:F'.length=F3.length:=(by rw[←hF3];simp);have hsh:=i1.short _ (B7 hnF);rw[hal]at hsh;have b3:(l.length+1+1)*8≤140737488355328:=(by grind);rw[hF3]at hsu;simp[hwj,hn,hnl,hnF,hE,e6,b3];refine hK2 (j+1) _ _ i9 ?_;simp[hsu,e6,e7];omega
          |none=>
           simp only[hn]at hsu;obtain⟨L2,hL2⟩:=ex1 (L'++[nx]);have e1:F4 L'++[.agg [IN nx.mode,IN nx.last,UN nx.need]]=F4 L2:=(by rw[←hL2];simp);have e2:L'.length+1=L2.length:=(by rw[←hL2];simp);have e3:List.map IN (List.range L'.length)++[IN L'.length]=List.map IN (List.range L2.length):=(by rw[←e2,a2F];simp);obtain⟨F2,hF2⟩:=ex1 (F'++[[]]);have e4:List.map FW F'++[.nils]=List.map FW F2:=(by rw[←hF2];simp);have e5:F'.length+1=F2.length:=(by rw[←hF2];simp);have b1:L2.length*24≤140737488355328:=i9;have b2:F2.length*24≤140737488355328:=i9;simp[hj,hk'];refine l7 hst ?_;have hlt:L'.length<F2.length:=i9;have hF2n:F2[L'.length]=[]:=(by grind);obtain⟨F3,hF3⟩:=ex1 (F'++[[k]]);have e6:(List.map FW F2).set L'.length (.uslc [IN k])=List.map FW F3:=by rw[←hF2,←hF3,←hFL'];simp
           have e7:F2.length=F3.length:=(by grind);rw[hL2,hF3]at hsu;simp[hwj,hn,e1,e2,e3,e4,e5,b1,b2,hF2n,hlt,e6];refine hK2 (j+1) _ _ i9 ?_;simp[hsu,e7];omega
       . obtain rfl:j=t.rules.length:=i9;simp;refine hX2 _ _ _ ?_;simp[hw];refine hK (k+1,X6 t k (L,F) t.rules.length) _ _ i9 ?_;obtain⟨i1,i2⟩:=a5o ht g2 hk t.rules.length;dsimp only at i2;have hex:a0W t (3073-k) k (L,F)=a0W t (3072-k) (k+1) (X6 t k (L,F) t.rules.length):=by
          rw[show 3073-k=(3072-k)+1 by omega];simp only[a0W];rw[if_pos hk]
         rw[hex]at g1;simp;refine⟨g1,⟨i1.nodup,i1.val,i1.len,fun l hl=>by have:=i1.short l hl;omega,i1.pos⟩,i9⟩
   . obtain rfl:k=L.length:=i9;simp;refine hX _ _ _ ?_;simp;refine hR _ _ ?_;have hex:explore t=(L,F):=by
      rw[←g1,show 3073-L.length=(3072-L.length)+1 by omega];simp only[a0W];rw[if_neg i9]
     simp[b1s,hex]
def D8(t:j9):State→List Nat→Option State
 |s,[]=>some s
 |s,k::p=>(step t s k).bind fun s'=>D8 t s' p
def Live(t:j9)(s:State):Prop:=∃p s',D8 t s p=some s'∧B6 t s'=true
abbrev j4(t:j9):List State:=(explore t).1
open Classical in
noncomputable def L4(t:j9):List Bool:=(j4 t).map fun s=>decide (Live t s)
theorem b7f{t:j9}{s:State}(h:B6 t s=true):Live t s:=⟨[],s,rfl,h⟩
theorem b9i{t:j9}{s s':State}{k:Nat}(h:step t s k=some s')(hl:Live t s'):Live t s:=by obtain⟨p,s2,h1,h2⟩:=hl;exact⟨k::p,s2,by simp[D8,h,h1],h2⟩
theorem a4o(t:j9):∀(p q:List Nat) (s:State),D8 t s (p++q)=(D8 t s p).bind fun s'=>D8 t s' q
 | [],q,s=>rfl
 |k::p,q,s=>by
  simp only[a7I,D8];cases step t s k with
  |none=>rfl
  |some s'=>exact a4o t p q s'
theorem a7T{t:j9}(ht:s5 t):∀{p:List Nat} {s s':State},a1x s→D8 t s p=some s'→a1x s'
 | [],s,s',hs,h=>by cases h;exact hs
 |k::p,s,s',hs,h=>by simp only[D8]at h;obtain⟨s1,h1,h2⟩:=V1.1 h;exact a7T ht (b6Y ht hs h1) h2
structure Part(t:j9)(k j:Nat)(a:Ex):Prop where
 len:a.2.length=a.1.length
 next:∀i (hi:i<a.1.length) m s',(i<k∨i=k∧m<j)→step t a.1[i] m=some s'→∃n,a.1[n]?=some s'∧i∈a.2.getD n []
 back:∀n i,i∈a.2.getD n []→∃(hi:i<a.1.length) (m:Nat),step t a.1[i] m=a.1[n]?
 root:a.1[0]?=some start
 come:∀s∈a.1,∃p,D8 t start p=some s
theorem a2o{t:j9}{s s':State}{m:Nat}(h:step t s m=some s'):m<t.rules.length:=by
 unfold step at h
 grind
theorem b8D{l:List (List Nat)}{n i:Nat}(h:i∈l.getD n []):n<l.length:=by
 refine Classical.byContradiction fun hn=>?_
 grind
theorem c5N{t:j9}{k j:Nat}{a:Ex}(h:Part t k j a)(hk:k<a.1.length):Part t k (j+1) (a5b t k a j):=by
 have hg:a.1.getD k B9=a.1[k]:=by rw[u9,l9 hk];rfl
 unfold a5b;rw[hg];split
 . rename_i hs;refine⟨h.len,fun i hi m s' hm hst=>?_,h.back,h.root,h.come⟩;refine h.next i hi m s' ?_ hst
   grind
 . rename_i nx hs;split
   . rename_i n hn;obtain⟨n1,n2,_⟩:=a1V.1 hn;have n2:a.1[n]=nx:=(by simpa using n2);have nF:n<a.2.length:=(by rw[h.len];exact n1);have hset:∀n',(a.2.set n (a.2.getD n []++[k])).getD n' []=if n=n' then a.2.getD n' []++[k]else a.2.getD n' []:=fun n'=>by
      simp only[u9];by_cases e:n=n'
      . subst e;rw[D7 nF,if_pos rfl];rfl
      . rw[D9 e,if_neg e]
     refine⟨by simp[h.len],fun i hi m s' hm hst=>?_,fun n' i hi=>?_,h.root,h.come⟩
     . by_cases hmj:i=k∧m=j
       . obtain⟨rfl,rfl⟩:=hmj
         grind
       . obtain⟨n',h1,h2⟩:=h.next i hi m s' (by
          rcases hm with hm|⟨h3,h4⟩
          . exact .inl hm
          . exact .inr ⟨h3,by have:m≠j:=fun e=>hmj ⟨h3,e⟩;omega⟩) hst
         grind
     . dsimp only at hi⊢;rw[hset]at hi;split at hi
       . rename_i e;subst e;rcases G7.1 hi with hi|hi
         . exact h.back n i hi
         grind
       . exact h.back n' i hi
   . rename_i hn;have hget:∀(i:Nat) (hi:i<a.1.length),(a.1++[nx])[i]'I3=a.1[i]:=fun i hi=>List.getElem_append_left hi;have hF:∀n',n'<a.1.length→(a.2++[[k]]).getD n' []=a.2.getD n' []:=fun n' hn'=>by
      simp only[u9];rw[a0R (by rw[h.len];exact hn')]
     have hF2:(a.2++[[k]]).getD a.1.length []=[k]:=by simp only[u9];rw[a3X (by rw[h.len];exact m0 _),h.len,a6B];rfl
     refine⟨by simp[h.len],fun i hi m s' hm hst=>?_,fun n' i hi=>?_,?_,fun s hs'=>?_⟩
     . have hil:i<a.1.length:=by
        rcases hm with hm|⟨rfl,_⟩<;>omega
       dsimp only at hst;rw[hget i hil]at hst;by_cases hmj:i=k∧m=j
       . obtain⟨rfl,rfl⟩:=hmj
         grind
       . obtain⟨n',h1,h2⟩:=h.next i hil m s' (by
          rcases hm with hm|⟨h3,h4⟩
          . exact .inl hm
          . exact .inr ⟨h3,by have:m≠j:=fun e=>hmj ⟨h3,e⟩;omega⟩) hst
         grind
     . dsimp only at hi⊢;have hnl:=b8D hi;simp[h.len]at hnl;by_cases hn':n'<a.1.length
       . rw[hF n' hn']at hi;obtain⟨h1,m,h2⟩:=h.back n' i hi
         grind
       grind
     . have h0:=(B4.1 h.root).1;dsimp only;rw[a0R h0];exact h.root
     . rcases G7.1 hs' with hs'|hs'
       . exact h.come s hs'
       . simp at hs';subst hs';obtain⟨p,hp⟩:=h.come _ (B7 hk);exact⟨p++[j],by rw[a4o,hp];simp[D8,hs]⟩
theorem b7E{t:j9}{k:Nat}{a:Ex}{b:Nat}(ht:s5 t)(hI:Inv b a)(h:Part t k 0 a)(hk:k<a.1.length):∀j,Part t k j (X6 t k a j)
 |0=>h
 |j+1=>by rw[b0F];exact c5N (b7E ht hI h hk j) (by have:=(a5o ht hI hk j).2;omega)
theorem c3e{t:j9}{k:Nat}{a:Ex}(h:Part t k t.rules.length a):Part t (k+1) 0 a:=
 ⟨h.len,fun i hi m s' hm hst=>h.next i hi m s' (by
  have:=a2o hst;rcases hm with hm|⟨_,hm⟩
  . by_cases e:i=k
    . exact .inr ⟨e,this⟩
    . exact .inl i9
  . omega) hst,h.back,h.root,h.come⟩
theorem b3o{t:j9}(ht:s5 t):∀(f k b:Nat) (a:Ex),Inv b a→Part t k 0 a→k≤a.1.length→3072<f+k→Part t (a0W t f k a).1.length 0 (a0W t f k a)∧∃b,Inv b (a0W t f k a)
 |0,k,b,a,hI,h,hk,hf=>by have:=hI.le;omega
 |f+1,k,b,a,hI,h,hk,hf=>by
  simp only[a0W];by_cases hkl:k<a.1.length
  . rw[if_pos hkl];obtain⟨i1,i2⟩:=a5o ht hI hkl t.rules.length;exact b3o ht f (k+1) _ _ i1 (c3e (b7E ht hI h hkl _)) i9 i9
  grind
theorem b7M(t:j9):Part t 0 0 ([start],[[]]):=
 ⟨rfl,fun i hi m s' hm hst=>i9,fun n i hi=>by have:=b8D hi;simp at this;subst this;simp at hi,rfl,fun s hs=>by simp at hs;subst hs;exact⟨[],rfl⟩⟩
theorem a6j{t:j9}(ht:s5 t):Part t (j4 t).length 0 (explore t):=(b3o ht 3073 0 0 _ a7S (b7M t) k7 i9).1
theorem b0b{t:j9}(ht:s5 t):∃b,Inv b (explore t):=(b3o ht 3073 0 0 _ a7S (b7M t) k7 i9).2
theorem b8o{t:j9}(ht:s5 t):∀(f k:Nat) (a:Ex),Inv (k*64) a→k≤a.1.length→Inv (3072*64) (a0W t f k a)
 |0,k,a,hI,hk=>by
  have:=hI.le;exact⟨hI.nodup,hI.val,hI.len,fun l hl=>by have:=hI.short l hl;simp only[a0W]at*;omega,hI.pos⟩
 |f+1,k,a,hI,hk=>by
  simp only[a0W];have hle:=hI.le;by_cases hkl:k<a.1.length
  . rw[if_pos hkl];obtain⟨i1,i2⟩:=a5o ht hI hkl t.rules.length;have h64:=ht.l64;exact b8o ht f (k+1) _ ⟨i1.nodup,i1.val,i1.len,fun l hl=>by have:=i1.short l hl;omega,i1.pos⟩ i9
  . rw[if_neg hkl];exact⟨hI.nodup,hI.val,hI.len,fun l hl=>by have:=hI.short l hl;omega,hI.pos⟩
theorem c6W{t:j9}(ht:s5 t):∀l∈(explore t).2,l.length≤3072*64:=(b8o ht 3073 0 _ a7S k7).short
theorem W7{t:j9}(ht:s5 t){s s':State}{k:Nat}(hs:s∈j4 t)(h:step t s k=some s'):s'∈j4 t:=by
 obtain⟨i,hi,rfl⟩:=a1F hs;obtain⟨n,h1,_⟩:=(a6j ht).next i hi k s' (.inl hi) h
 grind
theorem b0Q{t:j9}(ht:s5 t):(j4 t).Nodup:=by obtain⟨b,h⟩:=b0b ht;exact h.nodup
theorem a3o{t:j9}(ht:s5 t){s:State}(hs:s∈j4 t):a1x s:=by obtain⟨b,h⟩:=b0b ht;exact h.val s hs
theorem a1g{t:j9}(ht:s5 t):(j4 t).length≤3072:=by obtain⟨b,h⟩:=b0b ht;exact h.le
theorem a1X{t:j9}(ht:s5 t):1≤(j4 t).length:=by obtain⟨b,h⟩:=b0b ht;exact h.pos
theorem a1T{t:j9}(ht:s5 t):(j4 t)[0]?=some start:=(a6j ht).root
theorem b3k{t:j9}(ht:s5 t):∀{p:List Nat} {s s':State},s∈j4 t→D8 t s p=some s'→s'∈j4 t
 | [],s,s',hs,h=>by cases h;exact hs
 |k::p,s,s',hs,h=>by simp only[D8]at h;obtain⟨s1,h1,h2⟩:=V1.1 h;exact b3k ht (W7 ht hs h1) h2
structure AI(t:j9)(A:List Bool)(O:List Nat)(k m:Nat):Prop where
 len:A.length=(j4 t).length
 live:∀i:Nat,A[i]?=some true→∃s,(j4 t)[i]?=some s∧Live t s
 acc:∀(i:Nat) s,(j4 t)[i]?=some s→B6 t s=true→A[i]?=some true
 opn:∀i∈O,A[i]?=some true
 done:∀i:Nat,A[i]?=some true→i∉O→i≠k→∀j∈(explore t).2.getD i [],A[j]?=some true
 cur:∀j∈((explore t).2.getD k []).take m,A[j]?=some true
 kl:k<(j4 t).length→A[k]?=some true
 cnt:O.length+A.count false≤(j4 t).length
theorem b0h{A:List Bool}{i:Nat}(h:A[i]?=some false):(A.set i true).count false+1=A.count false:=by
 induction A generalizing i with
 |nil=>simp at h
 |cons a A ih=>
  cases i with
  |zero=>simp at h;subst h;simp
  |succ i=>
   simp only[List.getElem?_cons_succ]at h;have:=ih h;simp only[List.set_cons_succ,List.count_cons];omega
theorem AI.skip{t:j9}{A:List Bool}{O:List Nat}{k m j:Nat}(h:AI t A O k m)(hj:((explore t).2.getD k [])[m]?=some j)(ha:A[j]?=some true):AI t A O k (m+1):=
 ⟨h.len,h.live,h.acc,h.opn,h.done,fun i hi=>by
  rw[J2,hj]at hi;rcases G7.1 hi with hi|hi
  . exact h.cur i hi
  . simp at hi;subst hi;exact ha,h.kl,h.cnt⟩
theorem AI.push{t:j9}(ht:s5 t){A:List Bool}{O:List Nat}{k m j:Nat}(h:AI t A O k m)(hk:k<(j4 t).length)(hj:((explore t).2.getD k [])[m]?=some j)(ha:A[j]?=some false):AI t (A.set j true) (O++[j]) k (m+1):=by
 have hjA:=(B4.1 ha).1;have hset:∀i,A[i]?=some true→(A.set j true)[i]?=some true:=fun i hi=>by
  by_cases e:j=i
  . subst e;rw[D7 hjA]
  . rw[D9 e];exact hi
 have hself:(A.set j true)[j]?=some true:=D7 hjA;refine⟨by simp[h.len],fun i hi=>?_,fun i s h1 h2=>hset i (h.acc i s h1 h2),fun i hi=>?_,fun i hi ho hik=>?_,fun i hi=>?_,fun h1=>hset k (h.kl h1),?_⟩
 . by_cases e:j=i
   . subst e;have hjm:j∈(explore t).2.getD k []:=C8 hj;obtain⟨h1,m',h2⟩:=(a6j ht).back k j hjm;obtain⟨s,h3,h4⟩:=h.live k (h.kl hk);rw[h3]at h2;exact⟨_,l9 h1,b9i h2 h4⟩
   . rw[D9 e]at hi;exact h.live i hi
 . rcases G7.1 hi with hi|hi
   . exact hset i (h.opn i hi)
   grind
 . have hji:j≠i:=fun e=>ho (by subst e;simp);rw[D9 hji]at hi;exact fun x hx=>hset x (h.done i hi (fun e=>ho (a2D _ e)) hik x hx)
 . rw[J2,hj]at hi;rcases G7.1 hi with hi|hi
   . exact hset i (h.cur i hi)
   grind
 . have:=b0h ha;have:=h.cnt;simp;omega
theorem AI.full{t:j9}{A:List Bool}{O:List Nat}{k k':Nat}(h:AI t A (O++[k']) k ((explore t).2.getD k []).length):AI t A O k' 0:=by
 have hd:∀i,A[i]?=some true→i∉O++[k']→∀j∈(explore t).2.getD i [],A[j]?=some true:=fun i hi ho j hj=>by
  by_cases e:i=k
  . subst e;exact h.cur j (by rw[J7];exact hj)
  . exact h.done i hi ho e j hj
 refine⟨h.len,h.live,h.acc,fun i hi=>h.opn i (a2D _ hi),fun i hi ho hik=>hd i hi (fun hm=>?_),fun j hj=>by simp at hj,fun _=>h.opn k' k7,by have:=h.cnt;simp at this;omega⟩
 grind
theorem AI.alive{t:j9}(ht:s5 t){A:List Bool}{k:Nat}(h:AI t A [] k ((explore t).2.getD k []).length):A=L4 t:=by
 classical
 have hd:∀i,A[i]?=some true→∀j∈(explore t).2.getD i [],A[j]?=some true:=fun i hi j hj=>by
  by_cases e:i=k
  . subst e;exact h.cur j (by rw[J7];exact hj)
  . exact h.done i hi k7 e j hj
 have key:∀(p:List Nat) (i:Nat) (s s':State),(j4 t)[i]?=some s→D8 t s p=some s'→B6 t s'=true→A[i]?=some true:=fun p=>by
  induction p with
  |nil=>intro i s s' h1 h2 h3;cases h2;exact h.acc i s h1 h3
  |cons m p ih=>
   intro i s s' h1 h2 h3;simp only[D8]at h2;obtain⟨s1,h4,h5⟩:=V1.1 h2;obtain⟨hi,rfl⟩:=B4.1 h1;obtain⟨n,h6,h7⟩:=(a6j ht).next i hi m s1 (.inl hi) h4;exact hd n (ih n s1 s' h6 h5 h3) i h7
 refine a0t (by rw[h.len];simp[L4]) fun i h1 h2=>?_;simp only[L4,a1e];have hi:i<(j4 t).length:=by rw[←h.len];exact h1
 cases ha:A[i]
 . symm;rw[decide_eq_false_iff_not];rintro⟨p,s',h3,h4⟩;have:=key p i _ s' (l9 hi) h3 h4;rw[l9 h1,ha]at this;cases this
 . symm;rw[decide_eq_true_iff];obtain⟨s,h3,h4⟩:=h.live i (by rw[l9 h1,ha]);rw[l9 hi]at h3;cases h3;exact h4
def a1t(t:j9)(i:Nat):List Bool:=(List.range (j4 t).length).map fun j=>decide (j<i)&&B6 t ((j4 t).getD j B9)
def a0C(t:j9)(i:Nat):List Nat:=(List.range i).filter fun j=>B6 t ((j4 t).getD j B9)
theorem a4h(t:j9)(i:Nat):(a1t t i).length=(j4 t).length:=by simp[a1t]
theorem a8H{t:j9}{i j:Nat}(hj:j<(j4 t).length):(a1t t i)[j]?=some (decide (j<i)&&B6 t (j4 t)[j]):=by
 simp only[a1t,H5,List.getElem?_range hj,a2U]
 grind
theorem c2g{t:j9}{i:Nat}(hi:i<(j4 t).length):a1t t (i+1)=if B6 t (j4 t)[i]then(a1t t i).set i true else a1t t i:=by
 apply a4F;intro j;by_cases hj:j<(j4 t).length
 . rw[a8H hj];split
   . rename_i ha;by_cases e:i=j
     . subst e;rw[D7 (by rw[a4h];exact hi)];simp[ha]
     . rw[D9 e,a8H hj];congr 2
       grind
   . rename_i ha;rw[a8H hj];by_cases e:j=i
     . subst e;simp[ha]
     . have:(j<i+1)=(j<i):=(by apply propext;omega);simp[this]
 . rw[a0f (by rw[a4h];omega),a0f];split
   . simp[a4h];omega
   . rw[a4h];omega
theorem c4n{t:j9}{i:Nat}(hi:i<(j4 t).length):a0C t (i+1)=if B6 t (j4 t)[i]then a0C t i++[i]else a0C t i:=by
 unfold a0C;have hg:(j4 t).getD i B9=(j4 t)[i]:=by rw[u9,l9 hi];rfl
 rw[a2F,b1P,List.filter_cons,List.filter_nil,hg];split<;>simp
theorem b6L(t:j9)(i:Nat):(a0C t i).length≤i:=by have:=List.length_filter_le (fun j=>B6 t ((j4 t).getD j B9)) (List.range i);simpa[a0C]using this
theorem b7e(p:Nat→Bool):∀l:List Nat,(l.filter p).length+(l.map p).count false=l.length
 | []=>rfl
 |a::l=>by
  have:=b7e p l
  grind
theorem AI.init(t:j9):AI t (a1t t (j4 t).length) (a0C t (j4 t).length) (j4 t).length 0:=by
 have hg:∀{j},j<(j4 t).length→(a1t t (j4 t).length)[j]?=some (B6 t ((j4 t).getD j B9)):=fun{j} hj=>by rw[a8H hj,u9,l9 hj];simp[hj]
 have hlt:∀{j b},(a1t t (j4 t).length)[j]?=some b→j<(j4 t).length:=fun h=>by have:=(B4.1 h).1;rwa[a4h]at this
 refine⟨a4h _ _,fun i hi=>?_,fun i s h1 h2=>?_,fun i hi=>?_,fun i hi ho _=>?_,fun j hj=>by simp at hj,fun h=>absurd h (Nat.lt_irrefl _),?_⟩
 . have:=hlt hi;rw[hg this,u9,l9 this]at hi;exact⟨_,l9 this,b7f (by simpa using hi)⟩
 . have:=(B4.1 h1).1
   grind
 . simp only[a0C,a7J,a1v]at hi;rw[hg hi.1,hi.2]
 . exfalso;have:=hlt hi;rw[hg this]at hi;exact ho (by simp only[a0C,a7J,a1v];exact⟨this,by simpa using hi⟩)
 . have h1:=b7e (fun j=>B6 t ((j4 t).getD j B9)) (List.range (j4 t).length);have h2:a1t t (j4 t).length=(List.range (j4 t).length).map fun j=>B6 t ((j4 t).getD j B9):=by
    unfold a1t;refine L9 fun j hj=>?_;simp[a1v.1 hj]
   rw[h2];unfold a0C
   grind
theorem b3y(t:j9)(ht:s5 t):F0 71 [3] [TP t] (.uslc (F4 (j4 t))):=by refine E7 c71 3 (by simp[X71]) fun Q hR hN=>?_;simp[X71];refine l7 (b5q t ht) ?_;simp;refine hR _ _ ?_;simp[X71]
abbrev FSl(l:List Nat):PV:=.slc (l.map IN)
theorem c8v(F:List (List Nat)):List.map B3 (List.map FW F)=F.map FSl:=by
 rw[a1f];refine L9 fun l _=>?_;cases l with
 |nil=>rfl
 |cons a l=>simp[B3,M1]
theorem b9t(t:j9)(ht:s5 t):F0 87 [1] [TP t] (.uslc ((L4 t).map B)):=by
 refine E7 c87 14 (by simp[X87]) fun Q hR hN=>?_;have hex:=b5q t ht;have hN:=a1g ht;have hpos:=a1X ht;have hsv:=fun s hs=>(a3o ht (s:=s) hs).ok;have hfr:=c8v (explore t).2;have hFl:(explore t).2.length=(j4 t).length:=(a6j ht).len;have b1:(j4 t).length≤140737488355328:=i9;have b2:(j4 t).length≤9223372036854775807:=i9;simp[X87];refine l7 hex ?_;simp[hfr,b1,b2];refine I2 (fun(i:Nat) vs h=>i≤(j4 t).length∧
  vs=[.uu,.ptr 9 1 0,.uu,.uu,.slc ((explore t).2.map FSl),.own 10 1 (j4 t).length 1 0 (j4 t).length,.own 11 1 (a0C t i).length 1 0 (a0C t i).length,.uu,.uu,.uu,.uu,.slc (F4 (j4 t)),IN (j4 t).length,IN i,.uu,.uu,.uu,.uu,.uu,.uu,.uu,.uu]∧
  h=[dd,dd,dd,dd,dd,dd,dd,dd,dd,(1,.var [IN t.modes,UN t.accept,.slc (t.rules.map RP)]),(1,.arr 1 0 false ((a1t t i).map B)),(1,.arr 1 0 false ((a0C t i).map IN)),dd,dd]) (fun i=>(j4 t).length-i) 0 ?_ ?_
 . simp;have h0:a0C t 0=[]:=rfl;refine⟨by rw[h0];rfl,?_,h0⟩;have hr:a1t t 0=List.replicate (j4 t).length false:=a7M.2 ⟨a4h t 0,fun b hb=>by
    obtain⟨j,hj,rfl⟩:=a1F hb;have h1:=a8H (t:=t) (i:=0) (j:=j) (by rw[a4h]at hj;exact hj);rw[l9 hj]at h1;simpa using h1⟩
   rw[hr,List.map_replicate]
 . rintro i vs h ⟨g1,rfl,rfl⟩ Q' hK hX hR';by_cases hi:i<(j4 t).length
   . have hw:=wk1 i i9;have hac:=a6k t (j4 t)[i] ht.ok (hsv _ (B7 hi));have hL:=c2g hi;have hO:=c4n hi;have hAl:=a4h t i;have hOl:=b6L t i;cases ha:B6 t (j4 t)[i]
     . rw[if_neg (by simp[ha])]at hL hO;rw[ha]at hac;simp[hi];refine l7 hac ?_;simp[hw];refine hK (i+1) _ _ i9 ?_;simp[hL,hO];omega
     . rw[if_pos ha]at hL hO;rw[ha]at hac;have e1:((a1t t i).map B).set i (.bool true)=(a1t t (i+1)).map B:=(by rw[hL,J8]);have e2:(a0C t i).map IN++[IN i]=(a0C t (i+1)).map IN:=(by rw[hO];simp);have e3:(a0C t i).length+1=(a0C t (i+1)).length:=(by rw[hO];simp);have e4:i<(a1t t i).length:=i9;have b3:(a0C t (i+1)).length*8≤140737488355328:=i9;simp[hi];refine l7 hac ?_;simp[hw,hi,hAl,e1,e2,e3,e4,b3];refine hK (i+1) _ _ i9 ?_;simp;omega
   . obtain rfl:i=(j4 t).length:=i9;have hA0:=AI.init t;simp;refine hX _ _ _ ?_;simp;refine I2 (fun(p:List Bool×List Nat×Nat×Nat) vs h=>AI t p.1 (p.2.1.take p.2.2.1) p.2.2.2 ((explore t).2.getD p.2.2.2 []).length∧p.2.2.1≤p.2.1.length∧p.2.1.length≤(j4 t).length∧
      vs=[.uu,.uu,.uu,.uu,.slc ((explore t).2.map FSl),.own 9 1 p.1.length 1 0 p.1.length,.own 10 1 p.2.1.length 1 0 p.2.2.1,.uu,.uu,.uu,.uu,.uu,.uu,.uu,.uu,.uu,.uu,.uu,.uu,.uu,.uu,.uu]∧
      h=[dd,dd,dd,dd,dd,dd,dd,dd,dd,(1,.arr 1 0 false (p.1.map B)),(1,.arr 1 0 false (p.2.1.map IN)),dd,dd,dd]) (fun p=>2*p.1.count false+p.2.2.1)
      (a1t t (j4 t).length,a0C t (j4 t).length,(a0C t (j4 t).length).length,(j4 t).length) ?_ ?_
     . have hF0:(explore t).2.getD (j4 t).length []=[]:=by
        rw[u9,a0f i9];rfl
       have hAl:=a4h t (j4 t).length;have hOl:=b6L t (j4 t).length;simp[hAl]
       grind
     . rintro⟨A,E,n,k⟩ vs h ⟨q1,q2,q3,rfl,rfl⟩ Q2 hK2 hX2 hR2;dsimp only at q1 q2 q3;by_cases hn:n=0
       . subst hn;have hA:=AI.alive ht (k:=k) (by simpa using q1);simp;refine hX2 _ _ _ ?_;simp;refine hR _ _ ?_;simp[X87,hA]
       . obtain⟨m,hm⟩:∃m,n=m+1:=⟨n-1,i9⟩
         have hn1:0<n:=i9;have hwl:IntKind.i64.wrap ((n:Int)-1)=(m:Int):=(by rw[wrap_ok i9 i9];omega);have hmn:m<n:=i9;have hmn':m≤n:=i9;have hnE:m<E.length:=i9;have hEt:E.take n=E.take m++[E[m]]:=(by rw[hm,J2,l9 hnE];rfl);rw[hEt]at q1;have hk':E[m]<(j4 t).length:=by have:=q1.opn E[m] (a7K _ (F7.2 rfl));have:=(B4.1 this).1;rwa[q1.len]at this
         have hkF:E[m]<(explore t).2.length:=i9;have q2':=q1.full;have hgF:(explore t).2.getD E[m] []=(explore t).2[E[m]]:=(by grind);have hback:∀(x:Nat) (hx:x<((explore t).2[E[m]]).length),((explore t).2[E[m]])[x]<(j4 t).length:=fun x hx=>by obtain⟨h1,_⟩:=(a6j ht).back E[m] ((explore t).2[E[m]])[x] (by grind);exact h1
         have hFl2:((explore t).2[E[m]]).length≤1100000000:=by have:=c6W ht _ (B7 hkF);omega
         simp[hn1,hwl,hmn,hmn',hnE,hkF];generalize hk0:E[m]=k0 at q2' hk' hkF hgF hback hFl2;generalize hl0:(explore t).2[k0]=l at hgF hback hFl2;refine I2 (fun(p:Nat×List Bool×List Nat×Nat) vs h=>p.1≤l.length∧AI t p.2.1 (p.2.2.1.take p.2.2.2) k0 p.1∧p.2.2.2≤p.2.2.1.length∧p.2.2.1.length≤(j4 t).length∧2*p.2.1.count false+p.2.2.2≤2*A.count false+m∧
          vs=[.uu,.uu,.uu,.uu,.slc ((explore t).2.map FSl),.own 9 1 p.2.1.length 1 0 p.2.1.length,.own 10 1 p.2.2.1.length 1 0 p.2.2.2,.uu,.uu,.uu,.uu,.uu,.uu,.uu,.uu,.uu,.uu,.slc (l.map IN),IN l.length,IN p.1,.uu,.uu]∧
          h=[dd,dd,dd,dd,dd,dd,dd,dd,dd,(1,.arr 1 0 false (p.2.1.map B)),(1,.arr 1 0 false (p.2.2.1.map IN)),dd,dd,dd]) (fun p=>l.length-p.1) (0,A,E,m) ?_ ?_
         . simp;exact⟨q2',i9,q3⟩
         . rintro⟨j,A',E',n'⟩ vs h ⟨r1,r2,r3,r4,r5,rfl,rfl⟩ Q3 hK3 hX3 hR3;dsimp only at r1 r2 r3 r4 r5;have hAl:=r2.len;by_cases hj:j<l.length
           . have hwj:=wk1 j i9;have hb:=hback j hj;have hbA:l[j]<A'.length:=i9;have hgj:((explore t).2.getD k0 [])[j]?=some l[j]:=(by grind);cases hA:A'[l[j]]
             . have r2':=r2.push ht hk' hgj (by grind);have hcs:=b0h (A:=A') (i:=l[j]) (by grind);have e1:(A'.map B).set l[j] (.bool true)=(A'.set l[j] true).map B:=(by rw[J8]);have b8:(n'+1)*8≤140737488355328:=i9;have e2:(A'.set l[j] true).length=A'.length:=k7;obtain⟨A2,hA2⟩:=ex1 (A'.set l[j] true);rw[hA2]at e1 e2 hcs r2';have hn'l:n'<(j4 t).length:=by
                have:=r2'.cnt;simp at this;omega
               by_cases hnE':n'=E'.length
               . obtain⟨E2,hE2⟩:=ex1 (E'++[l[j]]);have e3:E'.map IN++[IN l[j]]=E2.map IN:=(by rw[←hE2];simp);have e4:E'.length+1=E2.length:=(by rw[←hE2];simp);have e5:E'.take n'++[l[j]]=E2.take (n'+1):=(by grind);rw[e5]at r2';have b9:E2.length*8≤140737488355328:=i9;simp[hj,hwj,hbA,hA,e1,b8,b9,hnE',e3,e4];refine hK3 (j+1,A2,E2,n'+1) _ _ i9 ?_;simp[hnE',e2,e4]
                 grind
               . have hlt:n'<E'.length:=i9;have hle:n'≤E'.length:=i9;obtain⟨E2,hE2⟩:∃E2,E'.take n'++l[j]::E'.drop (n'+1)=E2:=⟨_,rfl⟩
                 have e3:List.take n' (E'.map IN)++IN l[j]::List.drop (n'+1) (E'.map IN)=E2.map IN:=(by rw[←hE2];simp[a3v,a1H]);have e4:E2.length=E'.length:=(by grind);have e5:E'.take n'++[l[j]]=E2.take (n'+1):=(by grind);rw[e5]at r2';simp[hj,hwj,hbA,hA,e1,b8,hnE',hlt,hle,e3,e4];refine hK3 (j+1,A2,E2,n'+1) _ _ i9 ?_;simp[e2,e4]
                 grind
             . have r2':=r2.skip hgj (by grind);simp[hj,hwj,hbA,hA];refine hK3 (j+1,A',E',n') _ _ i9 ?_;simp
               grind
           . obtain rfl:j=l.length:=i9;simp;refine hX3 _ _ _ ?_;simp;refine hK2 (A',E',n',k0) _ _ (by grind) ?_;simp
             grind
abbrev UB(b:UInt8):PV:=.int .u8 (b.toNat:Int)
@[simp] theorem d1x(l:By):List.map (B3∘UB) l=l.map UB:=L9 fun _ _=>rfl
@[simp] theorem a8d:∀l:By,a1B (l.map UB)=some l
 | []=>rfl
 |b::l=>by have h:=a8d l;simp only[a0s,a1B,h];simp[a7n]
def F5(t:j9)(p:List Nat):By:=p.flatMap fun k=>(t.rules.getD k default).print
def A9(t:j9)(p:List Nat):List Nat:=p.flatMap fun k=>(t.rules.getD k default).cells
theorem b0W(t:j9)(p q:List Nat):F5 t (p++q)=F5 t p++F5 t q:=by simp[F5]
theorem a7a(t:j9)(p q:List Nat):A9 t (p++q)=A9 t p++A9 t q:=by simp[A9]
theorem b2N{t:j9}{s s':State}{k:Nat}(h:step t s k=some s'):∃hk:k<t.rules.length,t.rules.getD k default=t.rules[k]:=by have hk:=a2o h;exact⟨hk,by rw[u9,l9 hk];rfl⟩
theorem b0K{t:j9}(ht:s5 t):∀p:List Nat,(F5 t p).length≤4*p.length
 | []=>by simp[F5]
 |k::p=>by
  have ih:=b0K ht p;have:(t.rules.getD k default).print.length≤4:=by
   rw[u9];by_cases hk:k<t.rules.length
   . rw[l9 hk];exact(ht.snd (B7 hk)).p4
   . rw[a0f i9];exact C9 _
  simp only[F5,a2C,a0u,Z3]at*;omega
theorem a7U{t:j9}(ht:s5 t):∀p:List Nat,(A9 t p).length≤4*p.length
 | []=>by simp[A9]
 |k::p=>by
  have ih:=a7U ht p;have:(t.rules.getD k default).cells.length≤4:=by
   rw[u9];by_cases hk:k<t.rules.length
   . rw[l9 hk];exact(ht.snd (B7 hk)).c4
   . rw[a0f i9];exact C9 _
  simp only[A9,a2C,a0u,Z3]at*;omega
abbrev TrP(text:By)(cells:List Nat)(at_:Nat)(s:State)(ok:Bool):PV:=.agg [St text,.uslc (cells.map UN),IN at_,IN s.mode,IN s.last,UN s.need,B ok]
theorem b5B{t:j9}{p:List Nat}{s s':State}(h:D8 t s p=some s')(i:Nat):∃si,D8 t s (p.take i)=some si∧D8 t si (p.drop i)=some s':=by rw[←a7E i p,a4o]at h;obtain⟨si,h1,h2⟩:=V1.1 h;exact⟨si,h1,h2⟩
theorem c3S(t:j9)(ht:s5 t)(p:List Nat)(s:State)(hp:p.length≤1000000)(hr:D8 t start p=some s):F0 15 [0,1,0,0,0,0,0] [TP t,.slc (p.map IN)] (TrP (F5 t p) (A9 t p) p.length s (B6 t s)):=by
 refine E7 c15 12 (by simp[X15]) fun Q hR hN=>?_;simp[X15];refine l7 b2w ?_;simp;refine I2 (fun(x:Nat×State) vs h=>x.1≤p.length∧D8 t start (p.take x.1)=some x.2∧
  vs=[.uu,.slc (p.map IN),.ptr 6 1 0,.ptr 7 1 0,.own 8 1 (F5 t (p.take x.1)).length 1 0 (F5 t (p.take x.1)).length,.own 9 1 (A9 t (p.take x.1)).length 1 0 (A9 t (p.take x.1)).length,.ptr 10 1 0,IN x.1,.uu,.uu,.uu,.slc (p.map IN),IN p.length,IN x.1,.uu,.uu]∧
  h=[dd,dd,dd,dd,dd,dd,(1,.var [IN t.modes,UN t.accept,.slc (t.rules.map RP)]),(1,.var [St [],.nils,I 0,I 0,I 0,U 0,B false]),(1,.arr 1 0 false ((F5 t (p.take x.1)).map UB)),(1,.arr 1 0 false ((A9 t (p.take x.1)).map UN)),(1,.var [IN x.2.mode,IN x.2.last,UN x.2.need]),dd])
  (fun x=>p.length-x.1) (0,start) ?_ ?_
 . simp[F5,A9,D8]
 . rintro⟨i,si⟩ vs h ⟨g1,g2,rfl,rfl⟩ Q' hK hX hR';dsimp only at g1 g2;by_cases hi:i<p.length
   . have hw:=wk1 i i9;obtain⟨sj,h1,h2⟩:=b5B hr (i+1);have hpi:p.take (i+1)=p.take i++[p[i]]:=(by rw[J2,l9 hi];rfl);have hstep:step t si p[i]=some sj:=by
      rw[hpi,a4o,g2]at h1;simp only[a5e,D8]at h1;obtain⟨s2,h3,h4⟩:=V1.1 h1;cases h4;exact h3
     obtain⟨hrl,hrg⟩:=b2N hstep;have hsv:a1x si:=a7T ht a7Y g2;have hst:=a8J t si p[i] ht.ok hsv.ok (by have:=ht.l64;omega);simp only[a1u,hstep]at hst;have et:F5 t (p.take (i+1))=F5 t (p.take i)++t.rules[p[i]].print:=(by rw[hpi,b0W];simp only[F5,a2C,a9A,a0E,hrg]);have ec:A9 t (p.take (i+1))=A9 t (p.take i)++t.rules[p[i]].cells:=(by rw[hpi,a7a];simp only[A9,a2C,a9A,a0E,hrg]);have bt:=b0K ht (p.take (i+1));have bc:=a7U ht (p.take (i+1));simp only[a1G]at bt bc;obtain⟨T2,hT2⟩:=ex1 (F5 t (p.take (i+1)));obtain⟨C2,hC2⟩:=ex1 (A9 t (p.take (i+1)));rw[hT2]at et bt;rw[hC2]at ec bc;have e1:(F5 t (p.take i)).map UB++t.rules[p[i]].print.map UB=T2.map UB:=(by grind);have e2:(F5 t (p.take i)).length+t.rules[p[i]].print.length=T2.length:=(by grind);have e3:(A9 t (p.take i)).map UN++t.rules[p[i]].cells.map UN=C2.map UN:=(by grind);have e4:(A9 t (p.take i)).length+t.rules[p[i]].cells.length=C2.length:=(by grind);have b1:T2.length≤140737488355328:=i9;have b2:C2.length≤140737488355328:=i9;simp[hi];refine l7 hst ?_;simp[hw,hrl,e1,e2,e3,e4,b1,b2];refine hK (i+1,sj) _ _ i9 ?_;simp[hT2,hC2,h1];omega
   . obtain rfl:i=p.length:=i9;simp;refine hX _ _ _ ?_;rw[J7]at g2;rw[hr]at g2;cases g2;have hsv:a1x s:=a7T ht a7Y hr;have hac:=a6k t s ht.ok hsv.ok;simp;refine l7 hac ?_;simp;refine hR _ _ ?_;simp[X15]
end Go.Proofs.YtbhfgadikmfjdaaGreat.T
