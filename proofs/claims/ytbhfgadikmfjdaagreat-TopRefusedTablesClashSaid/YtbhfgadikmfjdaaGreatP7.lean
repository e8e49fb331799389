/-
  The plain machine, that it is sound, and walks: part 7 (joined and shortened by a program of the prover's).
-/
import Derived.Test.YtbhfgadikmfjdaaGreatP6
import Derived.Shelf.Sort.Plain
import Derived.Shelf.Slices.In.SortNone
import Derived.KernelRfl
set_option linter.unusedSimpArgs false
set_option linter.unusedVariables false
set_option linter.unusedSectionVars false
namespace Go.Proofs.YtbhfgadikmfjdaaGreat.T
open Go.Proofs.YtbhfgadikmfjdaaGreat.Am
open Go.Proofs Go.Shelf Go.Sort
def c6n:Go.Shelf.Ren where
 f:=fun x=>match x with|189=>75|125=>107|257=>106|128=>133|129=>134|294=>124|295=>125|296=>126|297=>127|298=>128|299=>129|216=>130|300=>131|301=>132|328=>137|329=>138|330=>139|331=>140|332=>141|215=>142|343=>144|n=>n
 t:=fun x=>match x with|28=>35|3=>3|46=>232|0=>0|51=>264|53=>266|4=>4|183=>257|182=>256|131=>132|5=>5|9=>9|218=>269|222=>273|228=>276|229=>277|n=>n
 g:=fun x=>x
theorem b7I:Lays.n189 Tryz.prog c6n where
 mixed:=by kernel_rfl
 f125:=Tryz.func107.trans (by kernel_rfl)
 f128:=Tryz.func133.trans (by kernel_rfl)
 f129:=Tryz.func134.trans (by kernel_rfl)
 f189:=Tryz.func75.trans (by kernel_rfl)
 f215:=Tryz.func142.trans (by kernel_rfl)
 f216:=Tryz.func130.trans (by kernel_rfl)
 f257:=Tryz.func106.trans (by kernel_rfl)
 f294:=Tryz.func124.trans (by kernel_rfl)
 f295:=Tryz.func125.trans (by kernel_rfl)
 f296:=Tryz.func126.trans (by kernel_rfl)
 f297:=Tryz.func127.trans (by kernel_rfl)
 f298:=Tryz.func128.trans (by kernel_rfl)
 f299:=Tryz.func129.trans (by kernel_rfl)
 f300:=Tryz.func131.trans (by kernel_rfl)
 f301:=Tryz.func132.trans (by kernel_rfl)
 f328:=Tryz.func137.trans (by kernel_rfl)
 f329:=Tryz.func138.trans (by kernel_rfl)
 f330:=Tryz.func139.trans (by kernel_rfl)
 f331:=Tryz.func140.trans (by kernel_rfl)
 f332:=Tryz.func141.trans (by kernel_rfl)
 f343:=Tryz.func144.trans (by kernel_rfl)
 t0:=Tryz.underlying0
 a0:=Tryz.isAgg0
 z0:=Tryz.sizeOf0
 v0:=Tryz.zeroValue0
 t3:=Tryz.underlying3
 a3:=Tryz.isAgg3
 z3:=Tryz.sizeOf3
 v3:=Tryz.zeroValue3
 t4:=Tryz.underlying4
 a4:=Tryz.isAgg4
 z4:=Tryz.sizeOf4
 v4:=Tryz.zeroValue4
 t5:=Tryz.underlying5
 a5:=Tryz.isAgg5
 z5:=Tryz.sizeOf5
 v5:=Tryz.zeroValue5
 t9:=Tryz.underlying9
 a9:=Tryz.isAgg9
 z9:=Tryz.sizeOf9
 v9:=Tryz.zeroValue9
 t28:=Tryz.underlying35
 a28:=Tryz.isAgg35
 z28:=Tryz.sizeOf35
 v28:=Tryz.zeroValue35
 t46:=Tryz.underlying232
 a46:=Tryz.isAgg232
 z46:=Tryz.sizeOf232
 v46:=Tryz.zeroValue232
 t51:=Tryz.underlying264
 a51:=Tryz.isAgg264
 z51:=Tryz.sizeOf264
 v51:=Tryz.zeroValue264
 t53:=Tryz.underlying266
 a53:=Tryz.isAgg266
 z53:=Tryz.sizeOf266
 v53:=Tryz.zeroValue266
 t131:=Tryz.underlying132
 a131:=Tryz.isAgg132
 z131:=Tryz.sizeOf132
 v131:=Tryz.zeroValue132
 t182:=Tryz.underlying256
 a182:=Tryz.isAgg256
 z182:=Tryz.sizeOf256
 v182:=Tryz.zeroValue256
 t183:=Tryz.underlying257
 a183:=Tryz.isAgg257
 z183:=Tryz.sizeOf257
 v183:=Tryz.zeroValue257
 t218:=Tryz.underlying269
 a218:=Tryz.isAgg269
 z218:=Tryz.sizeOf269
 v218:=Tryz.zeroValue269
 t222:=Tryz.underlying273
 a222:=Tryz.isAgg273
 z222:=Tryz.sizeOf273
 v222:=Tryz.zeroValue273
 t228:=Tryz.underlying276
 a228:=Tryz.isAgg276
 z228:=Tryz.sizeOf276
 v228:=Tryz.zeroValue276
 t229:=Tryz.underlying277
 a229:=Tryz.isAgg277
 z229:=Tryz.sizeOf277
 v229:=Tryz.zeroValue277
theorem c9o(P4 off cap:Nat)(zs:List Int)(w:World)(hH:Go.Sort.Holds (Value.int .i64) w P4 off zs.toArray)(hblk:P4<w.heap.size)(hsz:zs.length<4611686018427387904):
 Calls Tryz.prog 75 #[.slice (some ⟨P4,off,none⟩) zs.length cap] w fun e w'=>
  e=.returned (.tuple #[])∧∃n os,w'=Go.Sort.grow (Go.Sort.putRow (Value.int .i64) (Go.Sort.ahead w n) P4 off (zs.mergeSort fun x y=>decide (x≤y)).toArray) os:=Any.slices_Sort_int b7I P4 off cap zs w hH hblk hsz
theorem c7W(p:Option Addr)(cap:Nat)(w:World):Calls Tryz.prog 75 #[.slice p 0 cap] w fun e w'=>e=.returned (.tuple #[])∧w'=w:=Any.slices_Sort_int_none b7I p cap w
theorem b5h:a1P Tryz.prog 75=true:=by kernel_rfl
theorem c4a:c0L:=by
 intro h;refine⟨75,[],[],rfl,b5h,rfl,fun B Z0 G w vf va vc hH h1 h2 h3=>?_⟩;obtain⟨e1,_⟩:=h1;obtain⟨e2,r2⟩:=h2;obtain⟨e3,_⟩:=h3;obtain⟨v,hv,hr⟩:=r2 0 .nils rfl;have hf:vf= #[]:=b4L.1 e1;have hc:vc= #[]:=b4L.1 e3;have ha:va= #[v]:=by grind
 have hv2:v=.slice none 0 0:=hr;subst hf;subst hc;subst ha;subst hv2;refine(c7W none 0 w).mono ?_;rintro e w' ⟨rfl,rfl⟩;exact⟨_,G,rfl,hH,Ext.refl,⟨#[],rfl,rfl,fun i c hc=>by simp at hc⟩,Bl.refl _ _⟩
theorem c6Z{w:World}{β n:Nat}{zs:Array Int}{os:Array Obj}{b:Nat}(hb:b<w.heap.size)(hne:b≠β):(Go.Sort.grow (Go.Sort.putRow (Value.int .i64) (Go.Sort.ahead w n) β 0 zs) os).heap[b]?=w.heap[b]?:=by
 have hs:b<(Go.Sort.putRow (Value.int .i64) (Go.Sort.ahead w n) β 0 zs).heap.size:=by rw[Go.Sort.size_putRow];exact hb
 show((Go.Sort.putRow (Value.int .i64) (Go.Sort.ahead w n) β 0 zs).heap++os)[b]?=_;rw[a2S hs];show(w.heap.modify β _)[b]?=_
 grind
theorem c3G{w:World}{β n:Nat}{zs:Array Int}{os:Array Obj}{us:Array Value}{T:TypeId}(hb:w.heap[β]?=some (.cells us T (0,0))):(Go.Sort.grow (Go.Sort.putRow (Value.int .i64) (Go.Sort.ahead w n) β 0 zs) os).heap[β]?=some (.cells (Go.Sort.putCells (Value.int .i64) 0 zs us) T (0,0)):=by
 have hlt:β<w.heap.size:=(a2A.1 hb).1;have hs:β<(Go.Sort.putRow (Value.int .i64) (Go.Sort.ahead w n) β 0 zs).heap.size:=by rw[Go.Sort.size_putRow];exact hlt
 show((Go.Sort.putRow (Value.int .i64) (Go.Sort.ahead w n) β 0 zs).heap++os)[β]?=_;rw[a2S hs];show(w.heap.modify β _)[β]?=_;rw[b4G,if_pos rfl,hb];rfl
theorem c4E(l:List Nat):(l.map fun x:Nat=>(x:Int)).mergeSort (fun x y=>decide (x≤y))=(P9 l).map fun x:Nat=>(x:Int):=by unfold P9;rw[List.map_mergeSort];intro a _ b _;simp
theorem c9B:b9K:=by
 intro k g ver l h hk hl0 hl;refine⟨75,[],[],rfl,b5h,rfl,fun B Z0 G w vf va vc hH h1 h2 h3=>?_⟩;obtain⟨e1,_⟩:=h1;obtain⟨e2,r2⟩:=h2;obtain⟨e3,_⟩:=h3;obtain⟨v,hv,hr⟩:=r2 0 _ rfl;have hf:vf= #[]:=b4L.1 e1;have hc:vc= #[]:=b4L.1 e3;have ha:va= #[v]:=by grind
 subst hf;subst hc;subst ha;obtain⟨a,c,hv2,hlc,hcm,_,gn,ob,hob,_,hgo⟩:=hr;rw[hk]at hob;obtain⟨rfl,rfl⟩:g=gn∧_=ob:=by simpa using hob
 obtain⟨_,hgo⟩:=hgo rfl _ _ _ _ rfl;obtain⟨_,hgo,hgn⟩:=hgo k7;have ho:=hH.ob k g _ hk;obtain⟨_,o2,o3,o4,o5⟩:=ho;have hR:G.R (root k):=by grind
 obtain⟨f,ha,hff,hgl,hoc⟩:=hgo hR;obtain⟨us,T,p1,p2,p3⟩:=o4 hR;have hf0:f=0:=i9;subst hf0;subst ha;subst hv2;have hnz:∀y,G.R (k,y)→¬G.Z (G.β (k,y)):=hH.nz k g _ hk rfl;have hlive:=hH.lv _ hR;have hlt:G.β (root k)<w.heap.size:=hlive.2.lt;have hus:∀i,(hi:i<l.length)→us[i]?=some (Value.int .i64 (l[i]:Int)):=fun i hi=>by obtain⟨u,q1,q2⟩:=(p3 i (IN l[i]) (by simp[hi])).2 0 (IN l[i]) rfl;have:u=Value.int .i64 (l[i]:Int):=q2.2;rw[this]at q1;simpa using q1
 have hH2:Go.Sort.Holds (Value.int .i64) w (G.β (root k)) 0 (l.map fun x:Nat=>(x:Int)).toArray:=fun j hj=>by
  have hj':j<l.length:=by simpa using hj
  constructor
  . unfold World.cell?
    grind
  . unfold World.frozen?;rw[p1];simp
 have hcall:=c9o (G.β (root k)) 0 c (l.map fun x:Nat=>(x:Int)) w hH2 hlt I3;rw[I8]at hcall;refine hcall.mono ?_;rintro e w' ⟨rfl,n,os,rfl⟩;rw[c4E];obtain⟨zs,hzs⟩:∃zs,zs=((P9 l).map fun x:Nat=>(x:Int)).toArray:=⟨_,rfl⟩
 have hzl:zs.size=l.length:=by rw[hzs];simp[b1L]
 rw[←hzs];obtain⟨W,hW⟩:=p8 (Go.Sort.grow (Go.Sort.putRow (Value.int .i64) (Go.Sort.ahead w n) (G.β (root k)) 0 zs) os);have hget:∀b,b<w.heap.size→b≠G.β (root k)→W.heap[b]?=w.heap[b]?:=fun b h1 h2=>by rw[hW];exact c6Z h1 h2
 have hat:W.heap[G.β (root k)]?=some (.cells (Go.Sort.putCells (Value.int .i64) 0 zs us) T (0,0)):=by rw[hW];exact c3G p1
 have hsz:w.heap.size≤W.heap.size:=by grind
 have hbl:Bl B w W:=by refine⟨⟨by rw[hW];rfl,by rw[hW];rfl,by rw[hW];rfl,hsz,fun b hb=>hget b i9 i9⟩,fun b o h1 h2=>?_⟩;have hbl:=(a2A.1 h1).1;rw[hget b hbl (fun e=>by subst e;rw[p1]at h1;cases h1;simp[isD]at h2)];exact h1
 rw[←hW];have hZne:∀b,G.Z b→b≠G.β (root k):=fun b hb e=>hnz none hR (e▸hb);have hkeep:∀b,G.Z b→W.heap[b]?=w.heap[b]?:=fun b hb=>hget b (hH.zb b hb).lt (hZne b hb);have hkl:k<h.length:=by grind
 have hupd:m6 h [(k,g,Ob.arr 1 (ver+1) false ((P9 l).map IN))]=h.set k (g,Ob.arr 1 (ver+1) false ((P9 l).map IN)):=rfl;rw[hupd];have hext:Ext G h w G (h.set k (g,Ob.arr 1 (ver+1) false ((P9 l).map IN))) W:=by
  refine⟨fun _ x=>x,hkeep,fun k' gn ob e=>?_⟩;by_cases hkk:k'=k
  . subst hkk;rw[hk]at e;cases e;refine⟨g,_,D7 hkl,m0 _,fun _=>⟨fun sz ver' fr' es' e=>?_,?_,?_⟩⟩
    . cases e;exact⟨ver,false,_,rfl,by simp[b1L],i9,fun _=>B8.refl _ _,fun e=>i9⟩
    all_goals grind
  . exact⟨gn,ob,by rw[D9 (Ne.symm hkk)];exact e,m0 _,fun _=>K5.refl k' ob (B8.refl _ _) fun _ _=>B8.refl _ _⟩
 have hne:∀k' y,k'≠k→G.R (k',y)→G.β (k',y)≠G.β (root k):=fun k' y hkk hRy e=>hkk (congrArg Prod.fst (hH.inj _ _ hRy hR e));refine⟨_,G,rfl,?_,hext,⟨#[],rfl,rfl,fun i c hc=>by simp at hc⟩,hbl⟩;refine hH.update k g _ hkl hext (fun k' y hkk=>.inl (B8.refl _ _)) (fun k' y hkk hRy=>hget _ (hH.lv _ hRy).2.lt (hne k' y hkk hRy)) hsz (fun b hb=>(hH.zb b hb).eq (hkeep b hb)) (fun b hb=>.inl hb) (fun _ _ _ _ x=>x) (fun y hRy=>⟨(hH.lv _ hRy).1,?_,fun _=>hnz y hRy,fun y' hRy' e=>congrArg Prod.snd (hH.inj _ _ hRy hRy' e),fun k' y' hkk hRy' e=>hkk (congrArg Prod.fst (hH.inj _ _ hRy hRy' e)).symm⟩) (fun e=>by cases e) ?_
 . by_cases hy:y=none
   . subst hy;exact V6.of hat
   . exact(hH.lv _ hRy).2.eq (hget _ (hH.lv _ hRy).2.lt fun e=>hy (congrArg Prod.snd (hH.inj _ _ hRy hR e)))
 . refine⟨i9,by simpa[b1L]using o2,o3,fun _=>⟨_,T,hat,by rw[Go.Sort.putCells,Array.size_mapIdx];exact p2,fun i e he=>?_⟩,fun h=>absurd hR h⟩;have hil:i<(P9 l).length:=(by grind);have hil2:i<l.length:=(by grind);have hee:e=IN (P9 l)[i]:=(by grind);subst hee;refine⟨rfl,fun j c hc=>?_⟩;cases j with
   |succ j=>simp[l6]at hc
   |zero=>
    have hcc:c=IN (P9 l)[i]:=(W6 hc).symm;subst hcc;refine⟨Value.int .i64 ((P9 l)[i]:Int),?_,rfl,rfl⟩;have hu:=hus i hil2;have hz:zs[i]! =((P9 l)[i]:Int):=by rw[hzs];simp[hil]
    unfold Go.Sort.putCells;rw[Array.getElem?_mapIdx,show i*1+0=i by omega,hu];simp only[a2U];rw[if_pos ⟨C9 _,i9⟩];simp[hz]
set_option maxHeartbeats 16000000
def b2M(t:j9)(s:By)(r:PV):Prop:=∃c C,a2s t s c C∧(0≤FC c C 0 0∧r=.tup [WR t (wr t s (FC c C) (FC c C 0 0).toNat 0 0 (FC c C 0 0)),IN s.length,I 0]∨FC c C 0 0<0∧∃l:Nat,r=.tup [.agg [.nils,.nils],IN l,I 61])
theorem c4K{L:List Nat}(h:L.Pairwise (· < ·))(h0:0∈L):∃l,L=0::l:=by
 match L,h,h0 with
 |a::l,h,h0=>
  rcases Z5.1 h0 with h1|h1
  . exact⟨l,by rw[h1]⟩
  . have:=(List.pairwise_cons.1 h).1 0 h1;omega
theorem c2w(n:Nat)(c:List (List Nat))(C:List (List Int)):(V5 n (n+1) c C).map B3=KF n c C:=by unfold V5 KF;rw[a1f];refine L9 fun j _=>?_;have h:n<j+(n+1):=i9;simp only[Function.comp_apply,if_pos h];cases c.getD j []<;>rfl
theorem b1a(t:j9)(ht:s5 t)(s:By)(hs:s.length≤1100000000)(hb:a0d s=none):∃r,b2M t s r∧F0 11 [1,1,0,0] [TP t,St s] r:=by
 have hN:=a1g ht;have htx:=b7B s hs;have hva:=a7V t ht.ok;have hv:R1 t=true:=(a6i t).2 ht;rw[hv]at hva;refine a2x mixed (X:=X11) K4 27 (by simp[X11]) (by kernel_rfl) fun Q hR hN=>?_;simp[X11];refine l7 htx ?_;simp[hb];refine l7 hva ?_;simp;obtain⟨r,ws,⟨va,R8,R9,R11,R12,R13,R14,g15,rfl,rfl⟩,hf1⟩:=c5Z t ht s hs (1,.var [IN t.modes,UN t.accept,.slc (t.rules.map RP)]) (1,.var [.nils,.nils]) dd dd;refine a2O hf1 ?_;simp;obtain⟨r,ws,⟨c,kn,last,ver,R15,R16,R17,R18,g19,g20,g26,rfl,hRI,rfl⟩,hf2⟩:=c1M c9B c4a t ht s hs va (1,.var [IN t.modes,UN t.accept,.slc (t.rules.map RP)]) (1,.var [.nils,.nils]) dd dd (1,.var (TC t)) R8 R9 R11 R12 R13 R14 g15;refine a2O hf2 ?_;simp;obtain⟨r,ws,⟨C,ver2,R21,R22,R23,R24,R25,R26,rfl,hPQ,rfl⟩,hf3⟩:=c8W t ht s hs va (1,.var [IN t.modes,UN t.accept,.slc (t.rules.map RP)]) (1,.var [.nils,.nils]) dd dd (1,.var (TC t)) R8 R9 R11 R12 R13 R14 R15 R16 R17 R18 (g19,.dead) (g20,.dead) dd dd dd dd (g26,.dead) 0 last ver c kn hRI;refine a2O hf3 ?_;have hc:=hRI.a2G ht hPQ;have hKl:=b9r s.length (s.length+1) c C;obtain⟨l,hl⟩:=c4K (hc.sorted 0 (C9 _)) hc.root;have hCl:=hc.pq.len 0 (C9 _) i9;obtain⟨v,D,hD⟩:∃v D,C.getD 0 []=v::D:=by
  match hX:C.getD 0 []with
  | []=>rw[hX,hl]at hCl;simp at hCl
  |v::D=>exact⟨v,D,rfl⟩
 have hFC:FC c C 0 0=v:=by unfold FC S9;rw[hl,hD];simp
 have hK0:(V5 s.length (s.length+1) c C)[0]'(by rw[hKl];omega)=.agg [.slc ((0::l).map IN),.uslc ((v::D).map I)]:=by
  have h:(V5 s.length (s.length+1) c C)[0]?=some (.agg [.slc ((0::l).map IN),.uslc ((v::D).map I)]):=by rw[b9d (C9 _) i9,hl,hD];rfl
  rw[l9 (by rw[hKl];omega)]at h;exact W6 h
 have hfK:=c2w s.length c C;have hnK:(∀x,x∈V5 s.length (s.length+1) c C→D4 x=true)=True:=eq_true (c0w _ _ _ _);have hfs:List.map (B3∘SA) (C0 t)=(C0 t).map SA:=L9 fun _ _=>rfl;have hal:(C0 t).length=(j4 t).length:=by simp[C0]
 have htk:List.take (j4 t).length (List.map SA (C0 t))=(C0 t).map SA:=U4 (by simp[hal]);have hts:List.take (j4 t).length (List.map SP (j4 t))=(j4 t).map SP:=U4 k7;have htF:List.take (s.length+1) (KF s.length c C)=KF s.length c C:=U4 (by grind);by_cases hv0:v<0
 . simp[hKl,hK0,hv0,-a9X];rw[a9X];unfold s9;simp[-a9X];refine hR _ _ _ ⟨c,C,hc,.inr ⟨by rw[hFC];exact hv0,last,rfl⟩⟩ ?_;simp[X11]
 . have hw:=fun x4 x7=>c8F t ht s hs c C hc x4 x7 (by rw[hFC];omega);simp[hKl,hK0,hv0,hfK,hnK,hfs,htk,hts,htF,hal];refine l7 (hw _ _) ?_;simp;refine hR _ _ _ ⟨c,C,hc,.inl ⟨by rw[hFC];omega,rfl⟩⟩ ?_;simp[X11]
def b3Q(t:j9)(s:By)(r:PV):Prop:=∃c C,a2s t s c C∧(0≤FC c C 0 0∧r=I (FC c C 0 0)∨FC c C 0 0<0∧r=I (-1))
theorem a2s.b2W{t:j9}{s:By}{c:List (List Nat)}{C:List (List Int)}(h:a2s t s c C)(ht:s5 t)(h0:0≤FC c C 0 0):∃st',D8 t start (wr t s (FC c C) (FC c C 0 0).toNat 0 0 (FC c C 0 0))=some st'∧B6 t st'=true∧F5 t (wr t s (FC c C) (FC c C 0 0).toNat 0 0 (FC c C 0 0))=s∧((A9 t (wr t s (FC c C) (FC c C 0 0).toNat 0 0 (FC c C 0 0))).length:Int)=FC c C 0 0:=by
 have:=h.b5V ht (FC c C 0 0).toNat 0 0 (C9 _) h.root h0 i9;have e:(j4 t).getD 0 B9=start:=by rw[u9,a1T ht];rfl
 rw[e]at this;exact this
theorem b0J(t:j9)(ht:s5 t)(s:By)(hs:s.length≤1100000000)(hb:a0d s=none):∃r,b3Q t s r∧F0 13 [0] [TP t,St s] r:=by
 obtain⟨r,⟨c,C,hc,hr⟩,hf⟩:=b1a t ht s hs hb;refine a2x mixed (X:=X13) J6 4 (by simp[X13]) (by kernel_rfl) fun Q hR hN=>?_;rcases hr with⟨h0,rfl⟩|⟨h0,l,rfl⟩
 . have hl:=(hc.b2W ht h0).choose_spec.2.2.2;simp[X13];refine l7 hf ?_;simp;refine hR _ _ _ ⟨c,C,hc,.inl ⟨h0,rfl⟩⟩ ?_;simp[X13];exact hl
 . simp[X13];refine l7 hf ?_;simp;refine hR _ _ _ ⟨c,C,hc,.inr ⟨h0,rfl⟩⟩ ?_;simp[X13]
section
variable{a b:j9}
structure Few(a b:j9):Prop where
 modes:a.modes=b.modes
 acc:a.accept=b.accept
 rules:∀r∈a.rules,r∈b.rules
theorem Few.B6(h:Few a b)(s:State):T.B6 a s=T.B6 b s:=by unfold T.B6;rw[h.modes,h.acc]
theorem Few.step(h:Few a b){s s':State}{k:Nat}(hs:T.step a s k=some s'):∃k',T.step b s k'=some s'∧(a.rules.getD k default)=(b.rules.getD k' default):=by
 unfold T.step at hs⊢;obtain⟨r,hr,hs⟩:=V1.1 hs;obtain⟨j,hj,he⟩:=a1F (h.rules r (C8 hr));refine⟨j,?_,?_⟩
 . grind
 . grind
theorem Few.run(h:Few a b):∀{q:List Nat} {s s':State},D8 a s q=some s'→∃q',D8 b s q'=some s'∧F5 b q'=F5 a q∧A9 b q'=A9 a q
 | [],s,s',hs=>⟨[],hs,rfl,rfl⟩
 |k::q,s,s',hs=>by
  obtain⟨s1,e1,e2⟩:=V1.1 (show(T.step a s k).bind (fun s'=>D8 a s' q)=some s' from hs);obtain⟨k',h1,h2⟩:=h.step e1;obtain⟨q',g1,g2,g3⟩:=h.run e2;refine⟨k'::q',?_,?_,?_⟩
  . show(T.step b s k').bind _=_;rw[h1];exact g1
  . rw[a3p,a3p,g2,h2]
  . show(b.rules.getD k' default).cells++A9 b q'=(a.rules.getD k default).cells++A9 a q;rw[g3,h2]
theorem Few.lng(h:Few a b){l:List Nat}{x:By}(hx:M7 a l x):M7 b l x:=by obtain⟨q,s',h1,h2,h3,h4⟩:=hx;obtain⟨q',g1,g2,g3⟩:=h.run h1;exact⟨q',s',g1,by rw[←h.B6];exact h2,g3.trans h3,g2.trans h4⟩
theorem Few.two(h:Few a b)(ht:Two a):Two b:=by obtain⟨l,x,y,hx,hy,hn⟩:=ht;exact⟨l,x,y,h.lng hx,h.lng hy,hn⟩
theorem a7Z{t:j9}(h:¬Two t){l:List Nat}{x y:By}(hx:M7 t l x)(hy:M7 t l y):x=y:=Classical.byContradiction fun hn=>h ⟨l,x,y,hx,hy,hn⟩
end
def c0V(c:Nat):UInt8:=if c=1 then 97 else if c=3 then 98 else if c=9 then 99 else 32
def c0f(b:UInt8):Nat:=if b=97 then 1 else if b=98 then 3 else if b=99 then 9 else 0
theorem c9D:∀k,k<4→((H4 0).rules.getD k default).print=((H4 0).rules.getD k default).cells.map c0V∧((H4 0).rules.getD k default).cells=((H4 0).rules.getD k default).print.map c0f
 |0,_=>⟨H6,H6⟩
 |1,_=>⟨H6,H6⟩
 |2,_=>⟨H6,H6⟩
 |3,_=>⟨H6,H6⟩
 |k+4,h=>absurd h i9
theorem b0a:∀(q:List Nat) (s s':State),D8 (H4 0) s q=some s'→F5 (H4 0) q=(A9 (H4 0) q).map c0V∧A9 (H4 0) q=(F5 (H4 0) q).map c0f
 | [],s,s',h=>⟨rfl,rfl⟩
 |k::q,s,s',h=>by obtain⟨s1,e1,e2⟩:=V1.1 (show(T.step (H4 0) s k).bind (fun s'=>D8 (H4 0) s' q)=some s' from h);obtain⟨h1,h2⟩:=c9D k (a2o e1);obtain⟨g1,g2⟩:=b0a q s1 s' e2;have e3:A9 (H4 0) (k::q)=((H4 0).rules.getD k default).cells++A9 (H4 0) q:=rfl;rw[a3p,e3,S8,S8,←g1,←g2,←h1,←h2];exact⟨rfl,rfl⟩
theorem c0e:¬Two (H4 0):=fun⟨l,x,y,⟨q,s,a1,_,a3,a4⟩,⟨q',s',b1,_,b3,b4⟩,hn⟩=>hn (by rw[←a4,←b4,(b0a q _ _ a1).1,(b0a q' _ _ b1).1,a3,b3])
theorem b6H:∃s',D8 (H4 0) start [0,1,3,2]=some s'∧B6 (H4 0) s'=true:=by refine⟨_,rfl,H6⟩
theorem b7w:M7 (H4 0) [1,3,0,9] [97,98,32,99]:=by obtain⟨s',h1,h2⟩:=b6H;exact⟨_,s',h1,h2,H6,H6⟩
theorem c2c:Two (H4 4):=by
 have h1:∃s',D8 (H4 4) start [0,1]=some s'∧B6 (H4 4) s'=true:=⟨_,rfl,H6⟩
 have h2:∃s',D8 (H4 4) start [4]=some s'∧B6 (H4 4) s'=true:=⟨_,rfl,H6⟩
 obtain⟨s1,a1,a2⟩:=h1;obtain⟨s2,b1,b2⟩:=h2;exact⟨[1,3],[97,98],[45],⟨[0,1],s1,a1,a2,H6,H6⟩,⟨[4],s2,b1,b2,H6,H6⟩,H6⟩
theorem s5.sm{t:j9}(h:s5 t∧t.modes≤2∧t.rules.length≤8∧∀r∈t.rules,r.cells.length≤3):Sm t:=⟨h.2.1,by have:=h.2.2.1;omega,h.2.2.2⟩
structure a1M(t:j9)(s:By)(q:List Nat):Prop where
 run:∃st,D8 t start q=some st∧B6 t st=true
 text:F5 t q=s
theorem a1M.lng{t:j9}{s:By}{q:List Nat}(h:a1M t s q):M7 t (A9 t q) s:=by obtain⟨st,h1,h2⟩:=h.run;exact⟨q,st,h1,h2,rfl,h.text⟩
theorem b5b(t:j9)(ht:s5 t):∀(q:List Nat) (s s':State),D8 t s q=some s'→∀b∈F5 t q,a2Y b=true
 | [],_,_,_=>fun b hb=>by cases hb
 |k::q,s,s',h=>fun b hb=>by
  obtain⟨s1,e1,e2⟩:=V1.1 (show(T.step t s k).bind (fun s'=>D8 t s' q)=some s' from h);rw[a3p]at hb;rcases G7.1 hb with hb|hb
  . have hk:=a2o e1;rw[u9,l9 hk,a4I]at hb;have:=(a3F (ht.sound _ (B7 hk))).text;unfold a0d at this
    grind
  . exact b5b t ht q s1 s' e2 b hb
theorem b0D{t:j9}(ht:s5 t){q:List Nat}{s s':State}(h:D8 t s q=some s'):a0d (F5 t q)=none:=by unfold a0d;rw[b1O];intro b hb;rw[b5b t ht q s s' h b hb];rfl
theorem b2M.ok{t:j9}(ht:s5 t){s:By}{r:PV}(h:b2M t s r){q:List Nat}(hq:a1M t s q):∃q',r=.tup [WR t q',IN s.length,I 0]∧a1M t s q'∧∀q2,a1M t s q2→(A9 t q').length≤(A9 t q2).length:=by
 obtain⟨c,C,hc,h⟩:=h;have e0:(j4 t).getD 0 B9=start:=by rw[u9,a1T ht];rfl
 have low:∀q2,a1M t s q2→0≤FC c C 0 0∧FC c C 0 0≤(A9 t q2).length:=fun q2 h2=>by obtain⟨st,g1,g2⟩:=h2.run;exact hc.low ht (C9 _) hc.root (by grind) g2 (by rw[h2.text,List.drop_zero])
 have h0:=(low q hq).1;rcases h with⟨_,h⟩|⟨h,_⟩
 . obtain⟨st',b1,b2,b3,b4⟩:=hc.b2W ht h0;refine⟨_,h,⟨⟨st',b1,b2⟩,b3⟩,fun q2 h2=>?_⟩;have:=(low q2 h2).2;omega
 . omega
theorem b3Q.ok{t:j9}(ht:s5 t){s:By}{r:PV}(h:b3Q t s r){q:List Nat}(hq:a1M t s q):∃q',r=IN (A9 t q').length∧a1M t s q'∧∀q2,a1M t s q2→(A9 t q').length≤(A9 t q2).length:=by
 obtain⟨c,C,hc,h⟩:=h;have e0:(j4 t).getD 0 B9=start:=by rw[u9,a1T ht];rfl
 have low:∀q2,a1M t s q2→0≤FC c C 0 0∧FC c C 0 0≤(A9 t q2).length:=fun q2 h2=>by obtain⟨st,g1,g2⟩:=h2.run;exact hc.low ht (C9 _) hc.root (by grind) g2 (by rw[h2.text,List.drop_zero])
 have h0:=(low q hq).1;rcases h with⟨_,h⟩|⟨h,_⟩
 . obtain⟨st',b1,b2,b3,b4⟩:=hc.b2W ht h0;refine⟨wr t s (FC c C) (FC c C 0 0).toNat 0 0 (FC c C 0 0),by rw[h];exact congrArg I b4.symm,⟨⟨st',b1,b2⟩,b3⟩,fun q2 h2=>?_⟩;have:=(low q2 h2).2;omega
 . omega
theorem b4t:F0 7 [0] [] (B true):=by
 obtain⟨v0,s0⟩:s5 (H4 0)∧Sm (H4 0):=by have h:=b3P 0 i9;exact⟨h.1,s5.sm h⟩
 obtain⟨v4,s4⟩:s5 (H4 4)∧Sm (H4 4):=by have h:=b3P 4 i9;exact⟨h.1,s5.sm h⟩
 obtain⟨rw,hwr,hwf⟩:=b1a (H4 0) v0 [97,98,32,99] k7 H6;have hp0:a1M (H4 0) [97,98,32,99] [0,1,3,2]:=⟨b6H,H6⟩
 obtain⟨q',rfl,hq',_⟩:=hwr.ok v0 hp0;have hcel:A9 (H4 0) q'=[1,3,0,9]:=by obtain⟨st,g1,_⟩:=hq'.run;rw[(b0a q' _ _ g1).2,hq'.text];decide
 have hS:=a7l v0 s0.m2;obtain⟨rr,hrr,hrf⟩:=b3z (H4 0) v0 [1,3,0,9] k7 (by have:(H4 0).rules.length=4:=rfl;rw[this];have:([1,3,0,9]:List Nat).length=4:=rfl;rw[this];omega)
 have hrr:rr=.tup [St [97,98,32,99],IN 4,I 0]:=by
  rcases hrr with⟨x,hx,rfl⟩|⟨hx,_⟩
  . rw[a7Z c0e hx b7w];rfl
  . exact absurd ⟨_,b7w⟩ hx
 subst hrr;obtain⟨rc,hrc,hcf⟩:=b3T (H4 4) v4 s4;rcases hrc with⟨_,hn⟩|⟨w,a,b,rfl,hwl,ha,hb,hab,hne⟩
 . exact absurd c2c hn
 obtain⟨c,hc,haf⟩:=a8r (H4 0) v0 s0;obtain rfl:c=true:=hc.2 c0e;have hac:=a6k (H4 0) start v0.ok c4M;have hac1:B6 (H4 0) start=true:=H6;rw[hac1]at hac;have hsc:=b8P (A9 (H4 0) q') [1,3,0,9] (by rw[hcel];simp);rw[decide_eq_true hcel]at hsc;have hB4:F0 28 [0,0,6] [U 4] (TP (H4 4)):=b3A 4;refine E7 c7 8 (by simp[X7]) fun Q hR hN=>?_;simp[X7];refine l7 c7t ?_;simp;refine l7 hwf ?_;simp;refine l7 hrf ?_;simp;refine l7 hB4 ?_;simp;refine l7 hcf ?_;simp;refine l7 hsc ?_;simp[show(a==b)=false from beq_eq_false_iff_ne.2 hne];refine l7 haf ?_;simp;refine l7 b2w ?_;simp;refine l7 hac ?_;simp;refine hR _ _ ?_;simp[X7]
theorem b6k(L:List N9):a2w 6 (L.map RP)=true:=A8.2 fun x hx=>by obtain⟨m,_,rfl⟩:=E9.1 hx;rfl
theorem c3q(x:RwT)(hx:∀w∈x.more,w.p.length≤9223372036854775807∧w.c.length≤9223372036854775807)(hxl:x.more.length≤9223372036854775807)(l:List Nat)(hl:l.length≤9223372036854775807)(hl8:∀c∈l,c<256)(drop:UInt8):
 F0 3 [0] [RwP x,CL l,UB drop] (B true):=by
 obtain⟨rm,⟨t,c,rfl,hc,ht,hsm,hrl⟩,hmf⟩:=b3Z x hx hxl;obtain⟨ad,had,haf⟩:=a8r t ht hsm;refine E7 c3 10 (by simp[X3]) fun Q hR hN=>?_;simp[X3];refine l7 b4t ?_;simp;refine l7 hmf ?_;have hdl:=drop.toNat_lt;obtain⟨k,hk⟩:=p8 (drop.toNat%t.rules.length);have hkm:(drop.toNat:Int).tmod (t.rules.length:Int)=(k:Int):=by rw[hk];rfl
 have hkw:IntKind.i64.wrap (drop.toNat:Int)=(drop.toNat:Int):=O5;rcases hc with rfl|⟨es,rfl,hes,hnr⟩
 case' inl=>simp
 case' inr=>
  have hlen:es.length=t.rules.length:=by rw[←I8 (f:=B3),hes,I8]
  have hnr':(∀e∈es,D4 e=true)=True:=eq_true hnr;simp[hnr',hes,hlen]
 all_goals
  by_cases h2:t.rules.length<2
  . simp[h2];refine hR _ _ ?_;simp[X3]
  . have hkl:k<t.rules.length:=(by rw[hk];exact Nat.mod_lt _ i9);have hl0:¬(t.rules.length:Int)=0:=i9;have hl0':¬t.rules.length=0:=i9;have hr0:¬t.rules=[]:=fun h=>(by rw[h]at hl0';exact hl0' rfl);have hw1:IntKind.i64.wrap ((k:Int)+1)=(k:Int)+1:=O5;cases ad with
    |false=>
     simp[h2];refine l7 haf ?_;simp;refine hR _ _ ?_;simp[X3]
    |true=>
     have hone:¬Two t:=had.1 rfl;simp[h2];refine l7 haf ?_;obtain⟨P1,hP1⟩:=p8 (t.rules.take k);obtain⟨P2,hP2⟩:=p8 (t.rules.drop (k+1));have l1:P1.length=k:=(by grind);have l2:P2.length=t.rules.length-(k+1):=(by grind);have f1:List.take k (List.map RP t.rules)=P1.map RP:=(by rw[hP1,a3v]);have f2:List.take (t.rules.length-(k+1)) (List.drop (k+1) (List.map RP t.rules))=P2.map RP:=by rw[hP2,a1H,U4 (by grind)]
     have hkle:k≤t.rules.length:=i9;obtain⟨L2,hL2⟩:=p8 (P1++P2);have f3:P1.map RP++P2.map RP=L2.map RP:=(by grind);have f4:k+(t.rules.length-(k+1))=L2.length:=(by grind);have hsub:L2.Sublist t.rules:=by rw[hL2,hP1,hP2];have h1:(t.rules.drop (k+1)).Sublist (t.rules.drop k):=(by grind);have h2:=(List.Sublist.refl (t.rules.take k)).append h1;rwa[a7E]at h2
     have hL2n:L2≠ []:=fun h=>(by rw[h]at f4;simp at f4;omega);have hv2:s5 ⟨t.modes,t.accept,L2⟩:=ht.sub hsub hL2n;have hs2:Sm ⟨t.modes,t.accept,L2⟩:=⟨hsm.m2,S7 hsub.length_le hsm.r10,fun r hr=>hsm.c3 r (hsub.subset hr)⟩
     have hfew:Few ⟨t.modes,t.accept,L2⟩ t:=⟨rfl,rfl,fun r hr=>hsub.subset hr⟩
     obtain⟨c2,hc2,haf2⟩:=a8r ⟨t.modes,t.accept,L2⟩ hv2 hs2;have hone2:¬Two ⟨t.modes,t.accept,L2⟩:=fun h=>hone (hfew.two h);obtain rfl:c2=true:=hc2.2 hone2;obtain⟨p,b,hb1,hb2,htf⟩:=c7U ⟨t.modes,t.accept,L2⟩ hv2 l hl hl8;have s1:=b6k P1;have s2:=b6k P2;simp[hkw,hkm,hl0,hl0',hr0,hw1,hkle,f1,f2,l1,l2,s1,s2,show(k:Int)+1≤(t.rules.length:Int)by omega,show k+1≤t.rules.length by omega,show(0:Int)≤(k:Int)+1 by omega,f3,f4,show k*64≤140737488355328 by omega,show L2.length*64≤140737488355328 by omega];refine l7 haf2 ?_;simp;refine l7 htf ?_;simp;cases b with
     |false=>
      simp;refine hR _ _ ?_;simp[X3]
     |true=>
      have hp:=hb1 rfl;obtain⟨u,hu⟩:=p8 (j9.mk t.modes t.accept L2);rw[←hu]at hp hv2 hs2 hfew hone2;have hpl:=hp.len;obtain⟨st,hr1,hr2⟩:=hp.run;have hpo:a1M u (F5 u p) p:=⟨⟨st,hr1,hr2⟩,rfl⟩
      have hcl:=a7U hv2 p;have htl:=a7k hv2 _ _ _ hr1;have hbt:=b0D hv2 hr1;obtain⟨s,hs⟩:=p8 (F5 u p);rw[←hs]at hpo htl hbt;obtain⟨rw1,hwr,hwf⟩:=b1a u hv2 s i9 hbt;obtain⟨q,rfl,hq,hqm⟩:=hwr.ok hv2 hpo;have hwl:=hqm p hpo;have hlu:=hq.lng;have hlt:=hfew.lng hlu;have hSu:=a7l hv2 hs2.m2;have hSt:=a7l ht hsm.m2;have hRu:=hs2.r10;have hbu:((A9 u q).length+1)*((j4 u).length*u.rules.length+5*u.rules.length)<4000000000000:=by have h1:(j4 u).length*u.rules.length≤768*10:=a3w hSu hRu;have h2:((A9 u q).length+1)*((j4 u).length*u.rules.length+5*u.rules.length)≤20001*7730:=a3w i9 i9;omega
      have hbt2:((A9 u q).length+1)*((j4 t).length*t.rules.length+5*t.rules.length)<4000000000000:=by have h1:(j4 t).length*t.rules.length≤768*10:=a3w hSt hsm.r10;have h3:=hsm.r10;have h2:((A9 u q).length+1)*((j4 t).length*t.rules.length+5*t.rules.length)≤20001*7730:=a3w i9 i9;omega
      obtain⟨r1,hr1',hrf1⟩:=b3z u hv2 (A9 u q) i9 hbu;obtain⟨r2,hr2',hrf2⟩:=b3z t ht (A9 u q) i9 hbt2;obtain rfl:r1=.tup [St s,IN (A9 u q).length,I 0]:=by
       rcases hr1' with⟨y,hy,rfl⟩|⟨hy,_⟩
       . rw[a7Z hone2 hy hlu]
       . exact absurd ⟨_,hlu⟩ hy
      obtain rfl:r2=.tup [St s,IN (A9 u q).length,I 0]:=by
       rcases hr2' with⟨y,hy,rfl⟩|⟨hy,_⟩
       . rw[a7Z hone hy hlt]
       . exact absurd ⟨_,hlt⟩ hy
      obtain⟨rc,hrc,hcf⟩:=b0J t ht s i9 hbt;obtain⟨stq,hq1,hq2⟩:=hq.run;obtain⟨q3,g1,g2,g3⟩:=hfew.run hq1;have hpt:a1M t s q3:=⟨⟨stq,g1,by rw[←hfew.B6];exact hq2⟩,g2.trans hq.text⟩
      obtain⟨q4,rfl,_,hm4⟩:=hrc.ok ht hpt;have hle:=hm4 q3 hpt;rw[g3]at hle;have hTP:TP u=.agg [IN t.modes,UN t.accept,.slc (L2.map RP)]:=(by rw[hu]);rw[hTP]at hwf hrf1;rw[←hu,←hs];simp;refine l7 hwf ?_;simp;refine l7 hrf1 ?_;simp;refine l7 hrf2 ?_;simp;refine l7 hcf ?_;simp[hle];refine hR _ _ ?_;simp[X3]
theorem b5z{t:j9}(h:¬Two t){l:List Nat}{L:List By}(hL:∀x,x∈L↔M7 t l x)(hN:L.Nodup){x:By}(hx:M7 t l x):L=[x]:=by
 match L,hL,hN with
 | [],hL,_=>exact absurd ((hL x).2 hx) k7
 | [a],hL,_=>rw[a7Z h ((hL a).1 k7) hx]
 |a::b::L,hL,hN=>exact absurd (a7Z h ((hL a).1 k7) ((hL b).1 k7)) (by intro e;rw[e]at hN;simp at hN)
theorem b9X{t:j9}(ht:s5 t)(hsm:Sm t){n:Nat}(h:n≤20000):(n+1)*((j4 t).length*t.rules.length+5*t.rules.length)<4000000000000:=by have hS:=a7l ht hsm.m2;have h1:(j4 t).length*t.rules.length≤768*10:=a3w hS hsm.r10;have h3:=hsm.r10;have h2:(n+1)*((j4 t).length*t.rules.length+5*t.rules.length)≤20001*7730:=a3w i9 i9;omega
theorem c7M(x:RwT)(hx:∀w∈x.more,w.p.length≤9223372036854775807∧w.c.length≤9223372036854775807)(hxl:x.more.length≤9223372036854775807)(l:List Nat)(hl:l.length≤9223372036854775807)(hl8:∀c∈l,c<256):
 F0 4 [0] [RwP x,CL l] (B true):=by
 obtain⟨rm,⟨t,c,rfl,hc,ht,hsm,hrl⟩,hmf⟩:=b3Z x hx hxl;obtain⟨ad,had,haf⟩:=a8r t ht hsm;obtain⟨p,b,hb1,hb2,hwkf⟩:=b7h t ht l hl hl8;refine E7 c4 11 (by simp[X4]) fun Q hR hN=>?_;simp[X4];refine l7 b4t ?_;simp;refine l7 hmf ?_;rcases hc with rfl|⟨es,rfl,hes,hnr⟩
 case' inl=>simp
 case' inr=>
  have hlen:es.length=t.rules.length:=by rw[←I8 (f:=B3),hes,I8]
  have hnr':(∀e∈es,D4 e=true)=True:=eq_true hnr;simp[hnr',hes,hlen]
 all_goals
  refine l7 hwkf ?_;cases b with
  |false=>
   simp;refine hR _ _ ?_;simp[X4]
  |true=>
   cases ad with
   |false=>
    simp;refine l7 haf ?_;simp;refine hR _ _ ?_;simp[X4]
   |true=>
    have hone:¬Two t:=had.1 rfl;have hp:=hb1 rfl;have hpl:=hp.len;obtain⟨st,hr1,hr2⟩:=hp.run;have hpo:a1M t (F5 t p) p:=⟨⟨st,hr1,hr2⟩,rfl⟩
    have hrf:=c3S t ht p st i9 hr1;rw[hr2]at hrf;have hcl:=a7U ht p;have htl:=b0K ht p;have hbt:=b0D ht hr1;obtain⟨s,hs⟩:=p8 (F5 t p);rw[←hs]at hpo htl hbt hrf;obtain⟨rw1,hwr,hwf⟩:=b1a t ht s i9 hbt;obtain⟨q,rfl,hq,hqm⟩:=hwr.ok ht hpo;have hwl:=hqm p hpo;obtain⟨L1,hL1,hN1,ht1⟩:=b1U t ht (A9 t p) i9 (b9X ht hsm i9) 4 i9;obtain rfl:=b5z hone hL1 hN1 hpo.lng;obtain⟨L2,hL2,hN2,ht2⟩:=b1U t ht (A9 t q) i9 (b9X ht hsm i9) 4 i9;obtain rfl:=b5z hone hL2 hN2 hq.lng;obtain⟨rc,hrc,hcf⟩:=b0J t ht s i9 hbt;obtain⟨q4,rfl,hq4,hm4⟩:=hrc.ok ht hpo;have hqq:(A9 t q4).length=(A9 t q).length:=Nat.le_antisymm (hm4 q hq) (hqm q4 hq4);rw[hqq]at hcf;simp at ht1 ht2;simp;refine l7 haf ?_;simp;refine l7 hrf ?_;simp;refine l7 hwf ?_;simp;refine l7 ht1 ?_;simp;refine l7 ht2 ?_;simp[hwl];refine l7 hcf ?_;simp;refine hR _ _ ?_;simp[X4]
theorem c8E(t:j9)(ht:s5 t)(l:List Nat)(hl:l.length≤300000000)(a b:By)(ha:a.length≤4000000000)(hb:b.length≤4000000000)(hne:a≠b)(hLa:M7 t l a)(hLb:M7 t l b):F0 18 [0] [TP t,.agg [CL l,St a,St b]] (B true):=by have hva:=a7V t ht.ok;have hv:R1 t=true:=(a6i t).2 ht;rw[hv]at hva;have hgr:=c0z t ht;obtain⟨r1,⟨c1,rfl,h1⟩,hw1⟩:=b7K t ht l hl a ha;obtain⟨r2,⟨c2,rfl,h2⟩,hw2⟩:=b7K t ht l hl b hb;obtain rfl:=h1.2 hLa;obtain rfl:=h2.2 hLb;refine E7 c18 2 (by simp[X18]) fun Q hR hN=>?_;simp[X18];refine l7 hva ?_;simp[hne];refine l7 hgr ?_;simp;refine l7 hw1 ?_;simp;refine l7 hw2 ?_;simp;refine hR _ _ ?_;simp[X18]
theorem c7V(x:RwT)(hx:∀w∈x.more,w.p.length≤9223372036854775807∧w.c.length≤9223372036854775807)(hxl:x.more.length≤9223372036854775807):
 F0 5 [0] [RwP x] (B true):=by
 obtain⟨rm,⟨t,c,rfl,hc,ht,hsm,hrl⟩,hmf⟩:=b3Z x hx hxl;obtain⟨ad,had,haf⟩:=a8r t ht hsm;obtain⟨rc,hck,hcf⟩:=b3T t ht hsm;refine E7 c5 10 (by simp[X5]) fun Q hR hN=>?_;simp[X5];refine l7 b4t ?_;simp;refine l7 hmf ?_;rcases hc with rfl|⟨es,rfl,hes,hnr⟩
 case' inl=>simp
 case' inr=>
  have hlen:es.length=t.rules.length:=by rw[←I8 (f:=B3),hes,I8]
  have hnr':(∀e∈es,D4 e=true)=True:=eq_true hnr;simp[hnr',hes,hlen]
 all_goals
  refine l7 hcf ?_;rcases hck with⟨rfl,hn⟩|⟨w,a,b,rfl,hwl,ha,hb,hab,hne⟩
  . obtain rfl:ad=true:=had.2 hn;simp;refine l7 haf ?_;simp;refine hR _ _ ?_;simp[X5]
  . obtain rfl:ad=false:=by
     cases ad with
     |true=>exact absurd ⟨_,a,b,ha,hb,hne⟩ (had.1 rfl)
     |false=>rfl
    have hwl2:(w.map UInt8.toNat).length=w.length:=I8 _;have hCL:CL (w.map UInt8.toNat)=.slc (w.map UB):=(by unfold CL;rw[a1f];rfl);obtain⟨qa,sa,qa1,qa2,qa3,qa4⟩:=ha;obtain⟨qb,sb,qb1,qb2,qb3,qb4⟩:=hb;have pa:a1M t a qa:=⟨⟨sa,qa1,qa2⟩,qa4⟩
    have pb:a1M t b qb:=⟨⟨sb,qb1,qb2⟩,qb4⟩
    have la:=a7k ht _ _ _ qa1;have lb:=a7k ht _ _ _ qb1;have oka:=b0D ht qa1;have okb:=b0D ht qb1;rw[qa3,qa4,hwl2]at la;rw[qb3,qb4,hwl2]at lb;rw[qa4]at oka;rw[qb4]at okb;have hLa:M7 t (w.map UInt8.toNat) a:=⟨qa,sa,qa1,qa2,qa3,qa4⟩
    have hLb:M7 t (w.map UInt8.toNat) b:=⟨qb,sb,qb1,qb2,qb3,qb4⟩
    have hpf:=c8E t ht (w.map UInt8.toNat) i9 a b i9 i9 hne hLa hLb;have hbig:((w.map UInt8.toNat).length+1)*((j4 t).length*t.rules.length+5*t.rules.length)<4000000000000:=by have hS:=a7l ht hsm.m2;have h1:(j4 t).length*t.rules.length≤768*10:=a3w hS hsm.r10;have h3:=hsm.r10;have h2:((w.map UInt8.toNat).length+1)*((j4 t).length*t.rules.length+5*t.rules.length)≤260128514*7730:=a3w i9 i9;omega
    obtain⟨L,hL,hN1,htf⟩:=b1U t ht (w.map UInt8.toNat) i9 hbig 64 i9;rw[hCL]at hpf htf;obtain⟨ra,hra,hfa⟩:=b0J t ht a i9 oka;obtain⟨xa,rfl,hxa,hma⟩:=hra.ok ht pa;obtain⟨rb,hrb,hfb⟩:=b0J t ht b i9 okb;obtain⟨xb,rfl,hxb,hmb⟩:=hrb.ok ht pb;have lea:=hma qa pa;have leb:=hmb qb pb;rw[qa3,hwl2]at lea;rw[qb3,hwl2]at leb;have hab':Op.bytesLess a b=true:=hab;have mema:a∈L:=(hL a).2 hLa;have memb:b∈L:=(hL b).2 hLb;simp[hab'];refine l7 hpf ?_;simp;refine l7 haf ?_;simp;by_cases h64:L.length≤64
    . rw[if_pos h64]at htf;refine l7 htf ?_;simp;refine I2 (fun(i:Nat) vs h=>i≤L.length∧
       vs=[.uu,.uu,.uu,B true,.ptr 6 1 0,.ptr 7 1 0,.uu,.own 8 1 L.length 1 0 L.length,I 0,B (decide (a∈L.take i)),B (decide (b∈L.take i)),IN i,.uu,.uu,.uu,.uu,.uu,.uu]∧
       h=[dd,dd,dd,dd,dd,dd,(1,.var [IN t.modes,UN t.accept,.slc (t.rules.map RP)]),(1,.var [.slc (w.map UB),St a,St b]),(1,.arr 1 0 false (L.map St)),dd]) (fun i=>L.length-i) 0 ?_ ?_
      . simp
      . rintro i vs h ⟨y1,rfl,rfl⟩ Q' hK hX hR';by_cases hi:i<L.length
        . have hw:=wk1 i i9;have tk:∀c:By,decide (c∈L.take (i+1))=(decide (c∈L.take i)||decide (L[i]=c)):=fun c=>by
           rw[Bool.eq_iff_iff,J2,l9 hi];simp only[decide_eq_true_eq,a0P,G7,a5P,F7];exact⟨fun h=>h.imp id Eq.symm,fun h=>h.imp id Eq.symm⟩
          obtain⟨va,hva⟩:=p8 (decide (a∈L.take i));obtain⟨vb,hvb⟩:=p8 (decide (b∈L.take i));have n1:(a==b)=false:=beq_eq_false_iff_ne.2 hne;have n2:(b==a)=false:=beq_eq_false_iff_ne.2 (Ne.symm hne);have n3:¬b=a:=Ne.symm hne;rw[←hva,←hvb];obtain⟨x,hx⟩:=p8 (L[i]);cases va<;>cases vb<;>by_cases e1:x=a<;>by_cases e2:x=b<;>(
           simp[hi,hw,←hx,e1,e2,n1,n2];refine hK (i+1) _ _ i9 ?_;simp[tk,←hva,←hvb,←hx,e1,e2,hne,n3];omega)
        . obtain rfl:i=L.length:=i9;simp;refine hX _ _ _ ?_;simp[mema,memb];refine l7 hfa ?_;simp;refine l7 hfb ?_;simp[lea,leb];refine hR _ _ ?_;simp[X5]
    . rw[if_neg h64]at htf;refine l7 htf ?_;simp;refine I2 (fun(_:Unit) vs h=>
       vs=[.uu,.uu,.uu,B true,.ptr 6 1 0,.ptr 7 1 0,.uu,.nils,I 2,B false,B false,I 0,.uu,.uu,.uu,.uu,.uu,.uu]∧
       h=[dd,dd,dd,dd,dd,dd,(1,.var [IN t.modes,UN t.accept,.slc (t.rules.map RP)]),(1,.var [.slc (w.map UB),St a,St b]),dd,dd]) (fun _=>0) () ?_ ?_
      . simp
      . rintro _ vs h ⟨rfl,rfl⟩ Q' hK hX hR';simp;refine hX _ _ _ ?_;simp;refine l7 hfa ?_;simp;refine l7 hfb ?_;simp[lea,leb];refine hR _ _ ?_;simp[X5]
end Go.Proofs.YtbhfgadikmfjdaaGreat.T
