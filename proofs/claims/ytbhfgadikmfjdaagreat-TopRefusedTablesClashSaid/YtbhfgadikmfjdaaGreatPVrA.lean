/-
  RefusedTablesClash: for every input the law's function returns true, and every argument reads behind the call as it read before
-/
import Derived.Test.YtbhfgadikmfjdaaGreatP7
import Derived.Test.YtbhfgadikmfjdaaGreatRows
import Derived.OpenShut
namespace Go.Proofs.YtbhfgadikmfjdaaGreat.refused
set_option linter.unusedSimpArgs false
set_option linter.unusedVariables false
set_option linter.unusedSectionVars false
open Go.ChangeShapes Go.WideShapes Go.ChangeAt Go.RowKit Go.Proofs.YtbhfgadikmfjdaaGreat.Am
theorem own:ownKnob Tryz.prog.godebug=none:=by kernel_rfl
theorem laidOut:laidOutB Tryz.prog=true:=by kernel_rfl
def a0i:Sh:=.agg (.fd (.slc (.int .u8)) (.fd (.slc (.int .u8)) (.fd (.int .u8) (.fd (.int .u8) (.fd (.agg (.fd (.int .u8) (.fd (.int .u8) .en))) .en)))))
def shape:Sh:=(.fd (.agg (.fd (.int .u8) (.fd (.int .u8) (.fd (.slc a0i) .en)))) .en)
def u8(n:Int):UInt8:=UInt8.ofNat n.toNat
theorem a5q{n:Int}(h:(Lit.int .u8 n).wf=true):((u8 n).toNat:Int)=n:=by have:=bounds_u8 h;unfold u8;rw[T.ofNat_toNat i9];omega
theorem a4B{l:List Int}(h:∀x∈l,(Lit.int .u8 x).wf=true):(l.map u8).map T.UB=l.map (PV.int .u8):=by rw[a1f];exact L9 fun x hx=>by show PV.int .u8 ((u8 x).toNat:Int)=_;rw[a5q (h x hx)]
def rw1(x:a0i.T):T.RW:=⟨List.map u8 (show List Int from x.1),List.map u8 (show List Int from x.2.1),u8 x.2.2.1,u8 x.2.2.2.1,u8 x.2.2.2.2.1.1,u8 x.2.2.2.2.1.2.1⟩
theorem a0B{n:Int}(h:(Lit.int .u8 n).wf=true):T.UB (u8 n)=.int .u8 n:=by show PV.int .u8 ((u8 n).toNat:Int)=_;rw[a5q h]
theorem a8w(x:a0i.T)(h:a0i.ok x):T.RWP (rw1 x)=a0i.pv x:=by obtain⟨p,c,l,r,⟨w0,w1,_⟩,_⟩:=x;obtain⟨h1,h2,h3,h4,⟨h5,h6,_⟩,_⟩:=h;show PV.agg [.slc ((List.map u8 p).map T.UB),.slc ((List.map u8 c).map T.UB),T.UB (u8 l),T.UB (u8 r),T.UB (u8 w0),T.UB (u8 w1)]=.agg [.slc (List.map (PV.int .u8) p),.slc (List.map (PV.int .u8) c),.int .u8 l,.int .u8 r,.int .u8 w0,.int .u8 w1];rw[a4B h1.2,a4B h2.2,a0B h3,a0B h4,a0B h5,a0B h6]
theorem all_true:∀y:shape.T,shape.ok y→Am.Fn Tryz.prog 5 [0] (shape.pvs y) (.bool true):=by
 rintro⟨⟨a,b,m,_⟩,_⟩ ⟨⟨h1,h2,h3,_⟩,_⟩;have key:=T.c7V ⟨u8 a,u8 b,List.map rw1 m⟩ (fun w hw=>by
  obtain⟨y,hy,rfl⟩:=E9.1 hw;obtain⟨g1,g2,_⟩:=h3.2 y hy;exact⟨by show(List.map u8 _).length≤_;rw[I8];exact g1.1,by show(List.map u8 _).length≤_;rw[I8];exact g2.1⟩) (by
  show(List.map rw1 m).length≤_;rw[I8];exact h3.1)
 have e1:(List.map rw1 m).map T.RWP=List.map (fun x=>a0i.pv x) m:=by rw[a1f];exact L9 fun x hx=>a8w x (h3.2 x hx)
 have e3:T.RwP ⟨u8 a,u8 b,List.map rw1 m⟩=.agg [.int .u8 a,.int .u8 b,.slc (List.map (fun x=>a0i.pv x) m)]:=by show PV.agg [T.UB (u8 a),T.UB (u8 b),.slc ((List.map rw1 m).map T.RWP)]=_;rw[e1,a0B h1,a0B h2]
 rw[e3]at key;exact key
set_option maxRecDepth 100000 in
theorem lifted(os:Os)(started:os.Started)(H:Type)(enc:TypeId×Value→H):
 ReturnsInHanded {} Tryz.checked os 5 .any (Rows.topRefusedTablesClashSpec.pre6 enc Tryz.prog Tryz.f5 Rows.topRefusedTablesClashRow.domain false) (Rows.topRefusedTablesClashSpec.post enc Tryz.prog Tryz.f5 false true false false):=
 b2c (C:=Tryz.checked) (F:=shape) (n:=8) own started laidOut (by kernel_rfl) Tryz.func5
  (ChangeSpec.witness6 (enc:=enc) (C:=Tryz.checked) false ⟨#[],#[.agg #[.int .u8 0,.int .u8 0,.slice none 0 0]],[]⟩ 8 (by kernel_rfl) (by kernel_rfl) (by kernel_rfl) (by kernel_rfl))
  (by kernel_rfl) (by kernel_rfl) rfl (by kernel_rfl) rfl (fun ds h=>by match ds,h with| [a],_=>rfl) all_true
theorem a8h:Rows.topRefusedTablesClashRow.holds Tryz.pinned (OpenSpec.ofChange Rows.topRefusedTablesClashSpec):=
 OpenClaim.holds_of_wide 5 Tryz.f5 rfl rfl rfl rfl rfl rfl rfl ⟨rfl,rfl,rfl,rfl,rfl⟩ rfl rfl rfl rfl rfl (by kernel_rfl) Tryz.func5 (by kernel_rfl)
  (of_decide_eq_true (by kernel_rfl)) (by unfold Func.isWrapper;first|(rw[if_pos (by decide+kernel)];kernel_rfl)|(rw[if_neg (by decide+kernel)];exact⟨rfl,rfl⟩))
  (fun os started H enc _=>lifted os started H enc)
theorem proved:Rows.TopRefusedTablesClashSaid:=a8h
end Go.Proofs.YtbhfgadikmfjdaaGreat.refused
