/-
  The plain machine, that it is sound, and walks: part 4 (joined and shortened by a program of the prover's).
-/
import Derived.Test.YtbhfgadikmfjdaaGreatP3
import Derived.Test.YtbhfgadikmfjdaaGreatProg
import Derived.KernelRfl
set_option linter.unusedSimpArgs false
set_option linter.unusedVariables false
set_option linter.unusedSectionVars false
namespace Go.Proofs.YtbhfgadikmfjdaaGreat.T
open Go.Proofs.YtbhfgadikmfjdaaGreat.Am
def X43:A0:=
 ⟨45,[0,1,2,3,4,5,6,7,13,20,39],5,[(2,none)],sq [.reg [I0 1 0 0,obc 2],.reg [ofd 46 0 0 0 0 0 0,odx 1 3 0 0 0 0 0,oc 3 1],sq [kl 4 0,.block 0 (.loopS [1,3,4] 5 (sq [sq [ks 4 3 1 8 0 2,C4 8 0],.block 1 (sq [kl 5 0,.block 2 (.loopS [1,3,4,5] 5 (sq [sq [.reg [oa 5,oe 2 1,ob 1 1,ox 2,oaw 9 0 3],C4 9 2],.block 3 (sq [.reg [obx 3 1 2,N1 3 2,N1 4 2,obo 3 1 2 2,odg 3 3 2,N1 5 2,oer 47 0 4 5 0 0 0 0 0 0 0 0 2,⟨.mv (.l 6),none,none,[2]⟩,ocf 7 0 2,ocf 7 1 2,oak 6 2 0 0 0,ol 3 10 8,oc 7 9],.reg [oa 7,oo 0,og 3 1,obj 3 6 1,oba 48 2 3 0 0 1,obm 4 0 1,U9 10 1 5],.cond (.v 10) (.reg [oa 3,ok 3 6,odx 3 3 0 0 0 0 1,I7 4 3 24 1 0 2,oc 3 3]) kd]),kg 5 0 1 5 1]))]),kg 4 0 1 4 1]))],kf 3 2 0,ko]⟩
def X44:A0:=
 ⟨73,[0,1,2,3,4,5,6,7,8,9,10,17,29,33,47,68],6,[(2,none)],sq [.reg [I0 1 0 0,obc 2],.reg [ok 3 1,W4 43 0 1 3,ofa 2 1,oc 3 1,oc 4 2],.G6 [(1,true)] (.G4 3 none 0 0 (sq [sq [kl 5 0,.block 0 (.loopS [1,3,4,5] 6 (sq [sq [ks 5 3 1 11 0 2,C4 11 0],.block 1 (.reg [N1 4 3,ok 3 1,oa 3,oa 5,ot 3 2 3,J0 3 4,Y6 49 1 5 0 0,oq (.mkarr 3 1 [.bool false] [(0,.l 6)]),I7 4 1 1 1 0 7,oc 4 8]),kg 5 0 1 5 1]))],sq [kae 6,.block 2 (.loopS [1,3,4,6] 6 (sq [sq [.reg [odh 12 6],C4 12 2],.block 3 (sq [kj 6,kl 7 0,.block 4 (.loopS [1,3,4,6,7] 6 (sq [sq [ks 7 3 1 13 0 2,C4 13 4],.block 5 (sq [kl 8 0,.block 6 (.loopS [1,3,4,6,7,8] 6 (sq [sq [.reg [oa 8,oe 2 1,ob 1 1,ox 2,obv 0 3,oo 4,og 4 5,og 7 5,oas 1 6 7 5,od 1 8 5,ocs 9 5,U9 14 5 10],C4 14 6],.block 7 (sq [.reg [obx 3 1 5,N1 3 5,N1 7 5,obo 3 1 2 5,odg 3 3 5,N1 8 5,oer 47 0 4 5 0 0 0 0 0 0 0 0 5,⟨.mv (.l 6),none,none,[5]⟩,ocf 7 0 5,ocf 7 1 5,oak 9 5 0 0 0,ol 3 10 8,oc 10 9],.reg [oa 10,oo 0,og 4 1,og 3 1,obj 3 9 1,oba 48 3 4 0 0 1,oas 1 2 5 1,od 1 6 1,U9 15 1 7],.cond (.v 15) (sq [.reg [oa 4,oa 7,ot 1 0 1,oea 1 2],kae 6]) kd]),kg 8 0 1 8 1]))]),kg 7 0 1 7 1]))])]))],kf 4 2 0,ko]))]⟩
def X45:A0:=
 ⟨87,[0,1,2,3,4,5,6,7,8,9,10,11,12,20,35,42,56,77],11,[(2,none)],sq [.reg [I0 1 0 0,obc 2],.reg [ok 3 1,W4 43 0 1 3,ofa 2 1,ofa 3 1,oc 3 1,oc 4 2,oc 5 3],.G6 [(1,true)] (.G4 3 none 0 0 (sq [sq [kl 6 0,.block 0 (.loopS [1,3,4,5,6] 11 (sq [sq [ks 6 3 1 13 0 2,C4 13 0],.block 1 (sq [.reg [oa 4,oq (.mkarr 4 1 [.int .i64 0] [(0,oi (-1))]),I7 5 1 8 1 0 1,oc 4 2],.reg [N1 5 6,ok 3 1,oa 3,oa 6,ot 3 2 3,J0 3 4,Y6 49 1 5 0 0,oq (.mkarr 6 1 [.bool false] [(0,.l 6)]),I7 7 1 1 1 0 7,oc 5 8]]),kg 6 0 1 6 1]))],sq [kae 7,.block 2 (.loopS [1,3,4,5,7] 11 (sq [sq [.reg [odh 14 7],C4 14 2],.block 3 (sq [kj 7,.reg [ofa 8 1,oa 5,I7 8 1 1 2 0 1,oc 8 2],sq [kl 9 0,.block 4 (.loopS [1,3,4,5,7,8,9] 11 (sq [sq [ks 9 3 1 15 0 2,C4 15 4],.block 5 (sq [kl 10 0,.block 6 (.loopS [1,3,4,5,7,8,9,10] 11 (sq [sq [.reg [oa 10,oe 2 1,ob 1 1,ox 2,obv 0 3,oo 4,og 8 5,og 9 5,oas 1 6 7 5,od 1 8 5,ocs 9 5,U9 16 5 10],C4 16 6],.block 7 (sq [.reg [obx 3 1 10,N1 3 10,N1 9 10,obo 3 1 2 10,odg 3 3 10,N1 10 10,oer 47 0 4 5 0 0 0 0 0 0 0 0 10,⟨.mv (.l 6),none,none,[10]⟩,ocf 7 0 10,ocf 7 1 10,oak 11 10 0 0 0,ol 3 10 8,oc 12 9],.reg [oa 12,oo 0,og 5 1,og 3 1,obj 3 11 1,oba 48 3 4 0 0 1,oas 1 2 5 1,od 1 6 1,U9 17 1 7],.cond (.v 17) (sq [.reg [oa 8,oa 9,ot 1 0 1,oea 1 2],.reg [oa 4,oa 9,oa 10,ot 1 0 1,ol 1 3 2],kae 7]) kd]),kg 10 0 1 10 1]))]),kg 9 0 1 9 1]))],kf 8 5 0])]))],kf 4 2 0,ko]))]⟩
def X46:A0:=
 ⟨2,[0],1,[(0,some (true,3))],sq [.reg [oak 0 0 0 0 0],.reg [oq (.build [.int .i64 0,.int .i64 0,.int .u8 0] [(2,1,.c (.int .u8 63))]),K7 3 0 0],ko]⟩
def X47:A0:=
 ⟨87,[0,1,2,3,4,6,7,8,17,36,49,54,72],4,[(5,some (true,3)),(6,none)],sq [.reg [I0 3 0 0,I0 4 1 1,oak 5 2 0 0 0,os 6],sq [.reg [oa 2,ock 0 0,oo 1,N3 2 2,ov 2 3 2,om 1 4 2,obh 5 2,obl 3 6 2,Z8 8 2 7],.cond (.v 8) (kap 0 0 0 3 5 0 6) kd],.reg [oe 2 3,ob 1 0,oa 2,ot 6 1 2,J0 6 3,oav 7 3 0 0 0 0,ol 6 5 4],sq [.reg [oe 4 7,ob 1 0,oe 0 4,ob 1 2,ofi 1 3,oo 4,ov 2 7 5,om 1 6 5,ov 1 4 5,om 1 8 5,⟨.call 85 [.l 7,.l 9] [(0,0)] false,none,some (.l 5,false),[]⟩,oco 10 5,Z8 9 5 11],.cond (.v 9) (kap 0 0 0 3 5 0 6) kd],sq [.reg [oe 0 7,ob 1 0,obr 1,obw 2 0,oo 3,oj 2 4 4,od 1 5 4,oj 3 7 4,od 1 7 4,⟨.bin .and false (.l 6) (.l 8),none,some (.l 4,true),[]⟩,ocw 9 0 4,U9 10 4 10],.cond (.v 10) (kap 0 0 0 3 5 0 6) kd],sq [.reg [oe 0 7,ob 1 0,obr 1,odw 11 2 0],.cond (.v 11) (sq [.reg [oe 5 7,ob 1 0,oe 1 4,ob 1 2,oe 2 4,ob 1 4,oe 3 7,ob 1 6,oq (.bin .and false (.l 5) (.l 7)),oen 0 0 0 0 1 1 1 1 3 2 1 8,K7 3 5 9,obg 6],ko]) kd],sq [.reg [oe 2 4,ob 1 0,oe 0 7,ob 1 2,oee 3 0,oq (.call 86 [.l 4] [(0,0)] true),oq (.call 85 [.l 1,.l 5] [(0,0)] true),obb 12 6],.cond (.v 12) (kap 0 0 0 3 5 0 6) kd],.reg [oe 5 7,ob 1 0,oe 0 7,ob 1 2,oe 0 7,ob 1 4,obr 5,obe 6 1,ofb 3 7,oq (.call 86 [.l 8] [(0,0)] true),oe 3 7,ob 1 10,oen 0 0 0 0 1 1 1 1 9 2 1 11,K7 3 5 12,obg 6],ko]⟩
def X48:A0:=
 ⟨19,[0,1,3,4,5,9,17],1,[(3,none)],sq [.reg [I0 2 0 1,oy 3 0],sq [kl 4 0,.block 0 (.loopS [0,2,4] 1 (sq [sq [ks 4 0 1 5 0 2,C4 5 0],.block 1 (sq [.reg [oa 0,oa 4,ot 3 0 1,J0 3 2,ok 3 2,ow 6 (.eqS false [1,1,1] (.l 3) (.l 4))],.cond (.v 6) (sq [kf 4 3 0,ko]) kd]),kg 4 0 1 4 1]))],.reg [odm 3],ko]⟩
def X49:A0:=
 ⟨27,[0,1,2,3,4],2,[(4,none)],sq [.reg [I0 2 0 0,I0 3 1 1,os 4],.reg [oe 0 3,ob 1 0,ofj 1 0,oo 2,oj 0 3 3,od 1 4 3,oj 0 2 3,od 1 6 3,⟨.bin .lss false (.l 5) (.l 7),none,some (.l 3,true),[]⟩,oh 3 8,oo 9,oj 1 2 10,od 1 11 10,oj 0 3 10,od 1 13 10,oba 85 12 14 0 0 10,oh 10 15,oo 16,oj 2 3 17,od 1 18 17,⟨.call 85 [.l 19,oi 0] [(0,0)] false,none,some (.l 17,true),[]⟩,oh 17 20,oc 4 21],ko]⟩
def X14:A0:=
 ⟨130,[0,1,2,4,5,6,7,8,9,10,11,12,13,14,15,16,17,18,28,43,51,69,76,111],15,[(3,none),(4,none)],sq [.reg [I0 2 0 0,obc 3,os 4],.reg [ok 3 2,W4 43 0 1 3,obx 3 2 1,W4 44 2 2 1,⟨.load true 3 (.v 2),none,none,[1,2]⟩,W4 45 4 3 1,oc 5 1,oc 6 3,oc 7 5],.G6 [(1,true),(2,true),(3,true)] (.G4 5 none 0 0 (.G4 6 none 0 0 (.G4 7 none 0 0 (sq [sq [.reg [oa 6,obz 1 0 0,ob 1 1,obb 18 2],.cond (.v 18) (sq [.reg [ofa 4 1,oc 3 0,os 4],ko]) kd],.reg [ofa 5 1,ofd 46 0 0 0 0 0 0,oak 9 6 0 0 0,oc 8 0,ol 3 2 1,oy 10 0],sq [kl 11 0,.block 0 (.loopS [1,2,5,6,7,8,9,10,11] 15 (sq [sq [.reg [oa 11,oa 1,ox 1,obv 0 2,oo 3,og 11 4,obm 5 10 4,oh 4 6,oo 7,og 10 8,⟨.bin .leq false (.l 9) (oi 10),none,some (.l 8,true),[]⟩,U9 19 8 10],C4 19 0],.block 1 (sq [.reg [ofa 7 1,oc 12 0],sq [kl 13 0,.block 2 (.loopS [1,2,5,6,7,8,9,10,11,12,13] 15 (sq [sq [.reg [oa 13,oe 2 2,ob 1 1,ox 2,oaw 20 0 3],C4 20 2],.block 3 (sq [.reg [ok 3 2,ok 3 9,oa 13,odl 47 0 1 2 0 0 0 0 0 0 0 0,oo 3,oz 4 0,oz 4 1,oak 14 8 0 0 0,ol 3 7 5,oc 15 6],.reg [oa 15,oo 0,og 6 1,og 5 1,obj 3 14 1,oba 48 3 4 0 0 1,oas 1 2 5 1,od 1 6 1,U9 21 1 7],.cond (.v 21) (.reg [oa 12,oa 13,och 9 1 0 0 1,I7 10 1 8 1 0 2,oc 12 3]) kd]),kg 13 0 1 13 1]))],sq [.reg [oa 12,ox 0,odw 22 1 0],kan 22 0],.reg [oa 12,oa 1,oa 11,ot 1 1 2,ob 1 3,oq (.conv .i64 (.l 4)),oa 12,ox 6,oq (.bin .rem false (.l 5) (.l 7)),ot 1 0 8,ob 1 9,oc 16 10],.reg [oa 8,oa 16,och 11 1 0 0 1,I7 12 1 8 1 0 2,oc 8 3],.reg [oa 10,oe 2 2,ob 1 1,oa 16,ot 6 2 3,ou 0 4,ob 1 5,obr 6,obp 0 7,oc 10 8],.reg [ok 3 2,ok 3 9,oa 16,odl 47 0 1 2 0 0 0 0 0 0 0 0,oo 3,oz 4 0,oz 4 1,K7 3 9 5]]),kg 11 0 1 11 1]))],.block 4 (.loopS [2,5,7,8,9] 15 (sq [sq [.reg [ok 3 2,ok 3 9,Y6 49 0 1 0 0,obb 23 2],C4 23 4],.block 5 (sq [.reg [oa 7,oa 5,ok 3 9,Y6 48 1 2 0 0,ot 1 0 3,ob 1 4,oc 17 5],.reg [oa 8,oa 17,och 13 1 0 0 1,I7 14 1 8 1 0 2,oc 8 3],.reg [ok 3 2,ok 3 9,oa 17,odl 47 0 1 2 0 0 0 0 0 0 0 0,oo 3,oz 4 0,oz 4 1,K7 3 9 5]])])),.reg [oa 8,oc 3 0,obg 4],ko]))))]⟩
def X34:A0:=
 ⟨69,[0,1,2,4,5,6,7,8,14,29],5,[(3,some (true,7))],sq [.reg [I0 2 0 0,oci 3 1 0 0 0 0],.reg [ofd 46 0 0 0 0 0 0,oq (.build [.str ⟨#[]⟩,.nils,.int .i64 0,.int .i64 0,.int .i64 0,.int .u8 0,.bool false] [(3,3,.l 0)]),oci 4 2 0 0 0 0,ol 7 2 1],.G4 4 (some 1) 4 1 (sq [sq [kl 5 0,.block 0 (.loopS [1,2,3,4,5] 5 (sq [sq [ks 5 1 1 8 0 2,C4 8 0],.block 1 (sq [.reg [obx 3 2 3,obi 3 4 3,odg 3 1 3,N1 1 3,N1 5 3,obo 1 3 4 3,T5 1 5 3,oer 47 0 2 6 0 0 0 0 0 0 0 0 3,⟨.mv (.l 7),none,none,[3]⟩,ocf 8 0 3,ocf 8 1 3,oak 6 3 0 0 0,ol 3 11 9,oc 7 10],sq [kaa 7 9 0,.cond (.v 9) (sq [.reg [ok 7 4,K7 7 3 0],ko]) kd],.reg [oe 0 4,ob 1 0,oe 2 2,ob 1 2,oa 1,oa 5,ot 1 4 5,ob 1 6,ot 6 3 7,ou 0 8,ob 1 9,obp 1 10,oe 0 4,ol 1 12 11],.reg [oe 1 4,ob 1 0,oe 2 2,ob 1 2,oa 1,oa 5,ot 1 4 5,ob 1 6,ot 6 3 7,ou 1 8,ob 1 9,I7 4 1 1 0 1 10,oe 1 4,ol 1 12 11],.reg [ok 3 6,oe 3 4,ol 3 1 0],.reg [oe 2 4,ob 1 0,oah 1 1,oe 2 4,ol 1 3 2]]),kg 5 0 1 5 1]))],.reg [ok 3 2,oe 3 4,J0 3 1,Y6 49 0 2 0 0,oe 6 4,ol 1 4 3],.reg [ok 7 4,K7 7 3 0],ko])]⟩
def X10:A0:=
 ⟨19,[0,1,2,4,5,6,7],3,[(3,none),(4,none)],sq [.reg [I0 2 0 0,ow 3 (.mv (.c (.str ⟨#[]⟩))),os 4],.reg [ok 3 2,oa 1,ocl 14 0 1 1 1 0 0,oo 2,oz 3 0,oz 3 1,oc 5 4,oc 6 5],.reg [ok 3 2,oa 5,oq (.call 34 [.l 0,.l 1] [(0,0),(2,1),(0,0),(0,0),(0,0),(0,0),(0,0)] false),oq (.field false 0 1 (.l 2)),oa 6,oc 3 3,oc 4 4],ko]⟩
def X85:A0:=
 ⟨18,[0,1,4],0,[(2,none)],sq [kj 2,.reg [oa 1,ofj 0 0,oo 1,og 1 2,obm 3 8 2,oh 2 4,oo 5,og 0 6,og 1 6,⟨.bin .shr false (.l 7) (.l 8),none,some (.l 6,true),[]⟩,oel 9 1 6,ocw 10 1 6,oh 6 11,oc 2 12],ko]⟩
theorem c43:D0 43 X43:=D3
theorem c44:D0 44 X44:=D3
theorem c45:D0 45 X45:=D3
theorem c46:D0 46 X46:=D3
theorem c47:D0 47 X47:=D3
theorem c48:D0 48 X48:=D3
theorem c49:D0 49 X49:=D3
theorem c14:D0 14 X14:=D3
theorem c34:D0 34 X34:=D3
theorem c10:D0 10 X10:=D3
theorem c85:D0 85 X85:=D3
def X28:A0:=
 ⟨121,[0,2,3,4,5,6,7,8,9,16,17,35,50,64,72,90,105],42,[(1,some (true,3))],sq [.reg [ocb 1 0 0 0],.reg [oq (.call 64 [] [(1,6)] false),ofe 0 0 0 1 0 1 1 0,ofe 0 0 0 1 0 1 1 1,ofe 0 0 0 1 1 1 1 1,ofe 0 0 0 1 1 1 1 0,oeh 3 2 0 0,oeh 4 3 0 0,oeh 5 4 0 0,oeh 6 5 0 0,oc 2 0,oq (.storeA 2 (.l 5) (.l 1)),oq (.storeA 2 (.l 6) (.l 2)),oq (.storeA 2 (.l 7) (.l 3)),oq (.storeA 2 (.l 8) (.l 4))],sq [.reg [oa 0,ow 9 (.bin .rem false (.l 0) (.c (.int .u8 8)))],.block 0 (sq [.reg [ocd 9 1,oc 10 0],.cond (.v 10) (sq [.reg [⟨.mv (.v 2),none,none,[6,7,8,9,10]⟩,oet 2 4,oq (.call 65 [.c (.int .u8 60),oi 3,.l 1] [(0,0),(6,1),(0,0),(0,0),(0,0),(0,0)] false),ocy 1 0 0 1 6,oeu 2 5 6,oq (.call 66 [.c (.str ⟨#[49]⟩),.l 3,.l 4] [(0,0),(7,1),(0,0),(0,0),(0,0),(0,0)] false),ode 1 0 0 3 6 7,oeb 2 5 6 7,oq (.call 66 [.c (.str ⟨#[50]⟩),.l 6,.l 7] [(0,0),(8,1),(0,0),(0,0),(0,0),(0,0)] false),⟨.lit 1 [.int .u8 0] [(0,.c (.int .u8 0))],none,none,[6,7,8]⟩,⟨.loadA 2 (.v 6),none,none,[6,7,8]⟩,oq (.call 66 [.c (.str ⟨#[32]⟩),.l 9,.l 10] [(0,0),(9,1),(0,0),(0,0),(0,0),(0,0)] false),oev 10 6 0 0 0 0 0 0 0 0 0 0 0 0 0 0 0 0 0 2 1 5 2 8 3 11,I7 11 6 64 1 0 12,oc 2 13],.G6 [(1,true)] (.reg [oa 2,odr 0 0 0 1 2 1 1 3 2 1 0,K7 3 1 1]),ko]) (sq [.reg [ocd 9 2,oc 11 0],.cond (.v 11) (sq [.reg [⟨.mv (.v 2),none,none,[12,13,14,15]⟩,oet 2 4,oq (.call 65 [.c (.int .u8 32),oi 2,.l 1] [(0,0),(12,1),(0,0),(0,0),(0,0),(0,0)] false),ocy 1 0 0 1 12,oeu 2 6 12,oq (.call 66 [.c (.str ⟨#[65]⟩),.l 3,.l 4] [(0,0),(13,1),(0,0),(0,0),(0,0),(0,0)] false),ode 1 0 0 3 12 13,oeb 2 6 12 13,oq (.call 66 [.c (.str ⟨#[66]⟩),.l 6,.l 7] [(0,0),(14,1),(0,0),(0,0),(0,0),(0,0)] false),oat 15 6 0 0 0 0 0 0 0 0 0 0 0 0 0 2 1 5 2 8,I7 16 6 64 1 0 9,oc 2 10],.G6 [(1,true)] (.reg [oa 2,odr 0 0 0 1 2 1 1 1 2 1 0,K7 3 1 1]),ko]) (sq [.reg [ocd 9 3,oc 12 0],.cond (.v 12) (.reg [⟨.mv (.v 2),none,none,[17,18,19,20]⟩,oq (.lit 1 [.int .u8 0] [(0,.c (.int .u8 7))]),oet 2 3,oq (.call 66 [.c (.str ⟨#[97,98]⟩),.l 1,.l 2] [(0,0),(17,1),(0,0),(0,0),(0,0),(0,0)] false),ocy 1 0 0 15 17,oeu 2 3 17,oq (.call 66 [.c (.str ⟨#[97,98,99]⟩),.l 4,.l 5] [(0,0),(18,1),(0,0),(0,0),(0,0),(0,0)] false),⟨.lit 1 [.int .u8 0,.int .u8 0] [(0,.c (.int .u8 4)),(1,.c (.int .u8 4))],none,none,[17,18]⟩,oeb 2 3 17 18,oq (.call 66 [.c (.str ⟨#[99,97]⟩),.l 7,.l 8] [(0,0),(19,1),(0,0),(0,0),(0,0),(0,0)] false),oat 20 6 0 0 0 0 0 0 0 0 0 0 0 0 0 3 1 6 2 9,I7 21 6 64 1 0 10,oc 2 11]) (sq [.reg [ocd 9 4,oc 13 0],.cond (.v 13) (.reg [oa 2,oq (.lit 1 [.int .u8 0,.int .u8 0] [(0,.c (.int .u8 1)),(1,.c (.int .u8 3))]),oet 2 3,oq (.call 66 [.c (.str ⟨#[45]⟩),.l 1,.l 2] [(0,0),(22,1),(0,0),(0,0),(0,0),(0,0)] false),oei 23 6 0 0 0 0 0 3,I7 24 6 64 1 0 4,oc 2 5]) (sq [.reg [ocd 9 5,oc 14 0],.cond (.v 14) (sq [.reg [ode 1 0 0 44 27 28,oeb 2 3 27 28,⟨.call 66 [.c (.str ⟨#[98]⟩),.l 0,.l 1] [(0,0),(25,1),(0,0),(0,0),(0,0),(0,0)] false,none,none,[27,28]⟩,⟨.lit 1 [.int .u8 0] [(0,.c (.int .u8 44))],none,none,[25,27,28]⟩,⟨.loadA 2 (.v 3),none,none,[25,27,28]⟩,⟨.call 66 [.c (.str ⟨#[99,97,98]⟩),.l 3,.l 4] [(0,0),(26,1),(0,0),(0,0),(0,0),(0,0)] false,none,none,[27,28]⟩,⟨.alloc 27 [.str ⟨#[]⟩,.nils,.int .u8 0,.int .u8 0,.int .i64 0,.int .i64 0],some 7,none,[25,26,28]⟩,⟨.alloc 28 [.str ⟨#[]⟩,.nils,.int .u8 0,.int .u8 0,.int .i64 0,.int .i64 0],some 8,none,[25,26,27]⟩,ol 6 6 2,ol 6 7 5],.reg [oe 2 7,oq (.store 1 (.l 0) (.c (.int .u8 17))),oe 2 8,oq (.store 1 (.l 2) (.c (.int .u8 2)))],.reg [obs 2 29 30,obx 6 7 29,obx 6 8 29,oq (.lit 1 [.int .u8 0] [(0,.c (.int .u8 36))]),oet 2 3,oq (.call 66 [.c (.str ⟨#[45]⟩),.l 3,.l 4] [(0,0),(29,1),(0,0),(0,0),(0,0),(0,0)] false),oat 30 6 0 0 0 0 0 0 0 0 0 0 0 0 0 1 1 2 2 5,I7 31 6 64 1 0 6,oc 2 7]]) (sq [.reg [ocd 9 6,oc 15 0],.cond (.v 15) (sq [.reg [⟨.mv (.v 2),none,none,[32,33,34,35]⟩,oet 2 4,oq (.call 65 [.c (.int .u8 40),oi 1,.l 1] [(0,0),(32,1),(0,0),(0,0),(0,0),(0,0)] false),ocy 1 0 0 1 32,oeu 2 6 32,oq (.call 66 [.c (.str ⟨#[225]⟩),.l 3,.l 4] [(0,0),(33,1),(0,0),(0,0),(0,0),(0,0)] false),ode 1 0 0 3 32 33,oeb 2 6 32 33,oq (.call 66 [.c (.str ⟨#[226]⟩),.l 6,.l 7] [(0,0),(34,1),(0,0),(0,0),(0,0),(0,0)] false),oat 35 6 0 0 0 0 0 0 0 0 0 0 0 0 0 2 1 5 2 8,I7 36 6 64 1 0 9,oc 2 10],.G6 [(1,true)] (.reg [oa 2,odr 0 0 0 1 2 1 1 1 2 1 0,K7 3 1 1]),ko]) (sq [.reg [ocd 9 7,oc 16 0],.cond (.v 16) (.reg [⟨.mv (.v 2),none,none,[37,38,39,40]⟩,oq (.lit 1 [.int .u8 0,.int .u8 0] [(0,.c (.int .u8 1)),(1,.c (.int .u8 5))]),oet 2 3,oq (.call 66 [.c (.str ⟨#[45]⟩),.l 1,.l 2] [(0,0),(37,1),(0,0),(0,0),(0,0),(0,0)] false),⟨.lit 1 [.int .u8 0,.int .u8 0] [(0,.c (.int .u8 5)),(1,.c (.int .u8 5))],none,none,[37]⟩,oeu 2 3 37,oq (.call 66 [.c (.str ⟨#[49]⟩),.l 4,.l 5] [(0,0),(38,1),(0,0),(0,0),(0,0),(0,0)] false),⟨.lit 1 [.int .u8 0,.int .u8 0] [(0,.c (.int .u8 5)),(1,.c (.int .u8 9))],none,none,[37,38]⟩,oeb 2 3 37 38,oq (.call 66 [.c (.str ⟨#[50]⟩),.l 7,.l 8] [(0,0),(39,1),(0,0),(0,0),(0,0),(0,0)] false),oat 40 6 0 0 0 0 0 0 0 0 0 0 0 0 0 3 1 6 2 9,I7 41 6 64 1 0 10,oc 2 11]) kd])])])])])])])],.G6 [(1,true)] (.reg [oa 2,odr 0 0 0 1 1 1 1 1 2 1 0,K7 3 1 1]),ko]⟩
def X8:A0:=
 ⟨77,[0,1,2,3,4,5,6,17,25,43,61,73],10,[(2,some (true,3))],sq [.reg [I0 1 0 0,ocb 2 1 0 0],.reg [oe 0 1,ob 1 0,oq (.call 28 [.l 1] [(0,0),(0,0),(2,6)] false),ocb 3 3 0 0,ol 3 3 2],.reg [oe 2 3,ob 1 0,oc 4 1],.reg [ofa 4 6,oe 2 3,ol 1 1 0],sq [kl 5 0,.block 0 (.loopS [1,2,3,4,5] 10 (sq [sq [ks 5 4 1 7 0 2,C4 7 0],.block 1 (sq [.reg [oe 1 1,ob 1 0,oa 5,oq (.bin .shr false (.l 1) (.l 2)),occ 3 1,oem 8 4 0],.cond (.v 8) (.reg [obi 2 3 5,T5 1 0 5,oa 4,oa 5,ot 6 2 3,J0 6 4,oei 5 6 0 0 0 0 0 5,I7 6 6 64 1 1 6,oe 2 3,ol 1 8 7]) kd]),kg 5 0 1 5 1]))],sq [kl 6 0,.block 2 (.loopS [1,2,3,4,6] 10 (sq [sq [.reg [oa 6,oe 2 1,ob 1 1,ox 2,obv 0 3,oo 4,og 6 5,obm 6 2 5,U9 9 5 7],C4 9 2],.block 3 (sq [.reg [ofc 2 3 7 8,ocq 1 0 7 8,oe 2 1,ob 1 2,oa 6,ot 6 3 4,J0 6 5,oe 0 3,ob 1 7,oq (.call 32 [.l 6,.l 8] [(0,0),(7,1),(0,0),(0,0),(0,0),(0,0)] false),oei 8 6 0 0 0 0 0 9,I7 9 6 64 1 1 10,oe 2 3,ol 1 12 11],.reg [ok 3 3,W4 33 0 0 0,obb 10 1],.cond (.v 10) (.reg [oe 2 3,ob 1 0,oe 2 3,ob 1 2,ox 3,obe 4 1,ocg 6 1 5,oe 2 3,ol 1 7 6]) kd]),kg 6 0 1 6 1]))],sq [.reg [oe 2 3,ob 1 0,ox 1,odw 11 2 0],.cond (.v 11) (.reg [oa 4,oe 2 3,ol 1 1 0]) kd],.reg [ok 3 3,K7 3 2 0],ko]⟩
def X32:A0:=
 ⟨101,[0,1,2,4,5,6,7,8,9,10,11,46,83],8,[(3,some (true,6))],sq [.reg [I0 2 0 0,oav 3 1 0 0 0 0],.reg [oq (.mkarr 2 1 [.int .u8 0,.int .u8 0,.int .u8 0,.int .u8 0,.int .u8 0,.int .u8 0,.int .u8 0,.int .u8 0] [(0,.c (.int .u8 63)),(1,.c (.int .u8 63)),(2,.c (.int .u8 2)),(3,.c (.int .u8 8)),(4,.c (.int .u8 17)),(5,.c (.int .u8 62)),(6,.c (.int .u8 4)),(7,.c (.int .u8 1))]),ow 4 (.mv (.c (.str ⟨#[97,98,99,65,66,49,50,45,46]⟩))),oc 5 0],.reg [N1 5 3,obi 2 2 3,T5 1 1 3,⟨.bin .rem false (.l 2) (.c (.int .u8 8)),none,none,[3]⟩,obo 1 0 3 3,T5 1 4 3,N1 5 3,obi 3 2 3,T5 1 7 3,⟨.bin .rem false (.l 8) (.c (.int .u8 8)),none,none,[3]⟩,obo 1 6 9 3,T5 1 10 3,obi 4 2 3,⟨.indexAddrA 2 1 (.l 12) (oi 0),none,none,[3]⟩,T5 1 13 3,⟨.conv .i64 (.l 14),none,none,[3]⟩,N1 1 3,⟨.bin .rem false (.l 15) (.l 16),none,none,[3]⟩,obi 4 2 3,⟨.indexAddrA 2 1 (.l 18) (oi 1),none,none,[3]⟩,T5 1 19 3,⟨.conv .i64 (.l 20),none,none,[3]⟩,N1 1 3,⟨.bin .rem false (.l 21) (.l 22),none,none,[3]⟩,⟨.build [.str ⟨#[]⟩,.nils,.int .u8 0,.int .u8 0,.int .i64 0,.int .i64 0] [(2,1,.l 5),(3,1,.l 11),(4,1,.l 17),(5,1,.l 23)],none,none,[3]⟩,oav 6 3 0 0 0 0,ol 6 25 24],sq [kl 7 0,.block 0 (.loopS [2,3,4,6,7] 8 (sq [sq [.reg [oa 7,oe 0 2,ob 1 1,ox 2,obv 0 3,oo 4,og 7 5,obm 6 3 5,U9 11 5 7],C4 11 0],.block 1 (sq [.reg [oe 0 2,ob 1 0,oa 7,ot 1 1 2,ob 1 3,oq (.bin .rem false (.l 4) (.c (.int .u8 9))),oq (.conv .i64 (.l 5)),oc 8 6],.reg [oe 0 6,ob 1 0,oa 4,oa 8,oa 8,oah 4 1,oq (.slice true 0 (.l 2) (some (.l 3)) (some (.l 5)) none),obp 1 6,oe 0 6,ol 1 8 7]]),kg 7 0 1 7 1]))],.reg [oq (.mkarr 4 1 [.int .u8 0,.int .u8 0,.int .u8 0,.int .u8 0,.int .u8 0,.int .u8 0,.int .u8 0,.int .u8 0] [(0,.c (.int .u8 1)),(1,.c (.int .u8 3)),(2,.c (.int .u8 9)),(3,.c (.int .u8 5)),(4,.c (.int .u8 7)),(5,.c (.int .u8 32)),(6,.c (.int .u8 44)),(7,.c (.int .u8 60))]),oc 9 0],.reg [oa 9,oe 2 2,ob 1 1,oq (.bin .quo false (.l 2) (.c (.int .u8 8))),oq (.bin .rem false (.l 3) (.c (.int .u8 8))),ot 1 0 4,ob 1 5,ofh 5 1 0 0 6,oe 1 6,ol 1 8 7],sq [kl 10 0,.block 2 (.loopS [2,3,6,9,10] 8 (sq [sq [.reg [oa 10,oe 1 2,ob 1 1,ox 2,obv 0 3,oo 4,og 10 5,obm 6 2 5,U9 12 5 7],C4 12 2],.block 3 (.reg [obi 1 6 6,T5 1 0 6,oa 9,oe 1 2,ob 1 3,oa 10,ot 1 4 5,ob 1 6,oq (.bin .rem false (.l 7) (.c (.int .u8 8))),ot 1 2 8,ob 1 9,ofh 6 1 0 0 10,I7 7 1 1 1 1 11,oe 1 6,ol 1 13 12]),kg 10 0 1 10 1]))],.reg [ok 6 6,K7 6 3 0],ko]⟩
def X33:A0:=
 ⟨12,[0,1,2,4],1,[(2,none)],sq [kag 1 0 0 2,.reg [ok 3 1,odk 68 0 0 0 0 0,oo 1,oz 2 0,oz 2 1,oo 3,oc 3 4],.reg [oa 3,obw 0 0,oc 2 1],ko]⟩
def X68:A0:=
 ⟨74,[0,1,2,3,4,5,39,44,55,59,72],1,[(2,none),(3,none)],sq [.reg [I0 1 0 0,oy 2 0,oy 3 0],sq [.reg [oe 0 1,ob 1 0,ock 1 1,oo 2,ov 0 1 3,om 1 4 3,obu 5 8 3,P5 3 6,oo 7,ov 1 1 8,om 1 9 8,ocv 10 0 8,P5 8 11,oo 12,ov 1 1 13,om 1 14 13,⟨.conv .i64 (.l 15),none,some (.l 13,false),[]⟩,ov 0 1 13,om 1 17 13,⟨.bin .shl false (oi 1) (.l 18),none,some (.l 13,false),[]⟩,obl 16 19 13,P5 13 20,oo 21,ov 2 1 22,om 1 23 22,obh 24 22,oca 25 1 22,P5 22 26,oo 27,ov 2 1 28,om 1 29 28,obh 30 28,obu 31 64 28,Z8 6 28 32],kas 6 2 3 1],sq [kl 4 0,.block 0 (.loopS [1,4] 1 (sq [sq [.reg [oa 4,oe 2 1,ob 1 1,ox 2,oaw 7 0 3],C4 7 0],.block 1 (sq [sq [.reg [oe 2 1,ob 1 0,oa 4,ot 6 1 2,J0 6 3,oe 0 1,ob 1 5,Y6 101 4 6 0 0,obb 8 7],.cond (.v 8) (kav 4 2 0 3 20) kd],kl 5 0,.block 2 (.loopS [1,4,5] 1 (sq [sq [.reg [oa 5,oa 4,oaw 9 0 1],C4 9 2],.block 3 (sq [.reg [oe 2 1,ob 1 0,oa 5,ot 6 1 2,J0 6 3,oe 2 1,ob 1 5,oa 4,ot 6 6 7,J0 6 8,ow 10 (.call 102 [.l 4,.l 9] [(0,0)] false)],.cond (.v 10) (kav 4 2 0 3 20) kd]),kg 5 0 1 5 1]))]),kg 4 0 1 4 1]))],.reg [oy 2 0,oy 3 0],ko]⟩
def U5:A0:=
 ⟨125,[0,1,2,4,5,6,7,8,30,70,75,90,98,109],1,[(3,none)],sq [kag 2 0 0 3,sq [.reg [oe 0 2,ob 1 0,W4 119 1 0 0,oej 2,oo 3,ov 0 2 4,om 1 5 4,⟨.len true (.l 6),none,some (.l 4,false),[]⟩,obu 7 4 4,P5 4 8,oo 9,ov 1 2 10,om 1 11 10,obh 12 10,oca 13 1 10,P5 10 14,oo 15,ov 1 2 16,om 1 17 16,obh 18 16,obu 19 4 16,Z8 8 16 20],.cond (.v 8) (kao 3) kd],sq [.reg [oe 2 2,ob 1 0,oq (.bin .lss false (.l 1) (.c (.int .u8 1))),oo 2,ov 2 2 3,om 1 4 3,ocu 5 63 3,P5 3 6,oo 7,ov 3 2 8,om 1 9 8,⟨.bin .lss false (.l 10) (.c (.int .u8 1)),none,some (.l 8,false),[]⟩,P5 8 11,oo 12,ov 3 2 13,om 1 14 13,ocu 15 63 13,P5 13 16,oo 17,ov 4 2 18,om 1 19 18,oca 20 0 18,P5 18 21,oo 22,ov 4 2 23,om 1 24 23,N3 1 23,obl 25 26 23,P5 23 27,oo 28,ov 5 2 29,om 1 30 29,oca 31 0 29,P5 29 32,oo 33,ov 5 2 34,om 1 35 34,N3 1 34,obl 36 37 34,Z8 9 34 38],.cond (.v 9) (kao 3) kd],.reg [os 4,os 5],sq [kl 6 0,.block 0 (.loopS [2,4,5,6] 1 (sq [sq [.reg [oa 6,oe 0 2,ob 1 1,obr 2,oaw 10 0 3],C4 10 0],.block 1 (.reg [oa 4,oo 0,ov 0 2 1,om 1 2 1,N3 6 1,⟨.indexS (.l 3) (.l 4),none,some (.l 1,false),[]⟩,odd 120 5 0 0 1,P5 1 6,oc 4 7]),kg 6 0 1 6 1]))],sq [kl 7 0,.block 2 (.loopS [2,4,5,7] 1 (sq [sq [.reg [oa 7,oe 1 2,ob 1 1,ox 2,oaw 11 0 3],C4 11 2],.block 3 (sq [sq [.reg [oe 1 2,ob 1 0,oa 7,ot 1 1 2,ob 1 3,ow 12 (.bin .geq false (.l 4) (.c (.int .u8 63)))],.cond (.v 12) (kao 3) kd],.reg [oa 5,oo 0,ov 1 2 1,om 1 2 1,N3 7 1,ocx 1 3 4 1,om 1 5 1,ocv 6 0 1,P5 1 7,oc 5 8]]),kg 7 0 1 7 1]))],sq [kaa 4 13 0,.cond (.v 13) (sq [.reg [oa 5,oej 0,oc 3 1],ko]) kd],.reg [oe 0 2,ob 1 0,obr 1,obw 2 1,oo 3,oj 1 2 4,od 1 5 4,obn 6 4,obq 7 1 4,oh 4 8,oo 9,og 5 10,oh 10 11,oc 3 12],ko]⟩
def a2t:A0:=
 ⟨45,[0,1,2,3,4],2,[(4,none)],sq [.reg [I0 2 0 0,I0 3 1 1,os 4],.reg [oe 0 2,ob 1 0,oe 0 3,ob 1 2,oby 1 3,oo 4,oj 1 2 5,od 1 6 5,oj 1 3 5,od 1 8 5,oba 29 7 9 0 0 5,oh 5 10,oo 11,oj 2 2 12,od 1 13 12,oj 2 3 12,od 1 15 12,oaq 14 16 12,oh 12 17,oo 18,oj 3 2 19,od 1 20 19,oj 3 3 19,od 1 22 19,oaq 21 23 19,oh 19 24,oo 25,oj 4 2 26,od 1 27 26,oj 4 3 26,od 1 29 26,oaq 28 30 26,oh 26 31,oo 32,oj 5 2 33,od 1 34 33,oj 5 3 33,od 1 36 33,oaq 35 37 33,oh 33 38,oc 4 39],ko]⟩
def X29:A0:=
 ⟨26,[0,1,4,5,10,14,25],0,[(2,none)],sq [kj 2,sq [.reg [oa 0,ox 0,oa 1,ox 2,odb 4 1 3],.cond (.v 4) (kao 2) kd],sq [kl 3 0,.block 0 (.loopS [0,1,3] 0 (sq [sq [ks 3 0 1 5 0 2,C4 5 0],.block 1 (sq [.reg [oa 0,oa 3,ot 1 0 1,ob 1 2,oa 1,oa 3,ot 1 4 5,ob 1 6,odb 6 3 7],.cond (.v 6) (kao 2) kd]),kg 3 0 1 3 1]))],kae 2,ko]⟩
def b0e:A0:=
 ⟨12,[0,2,4],0,[(1,none)],sq [kj 1,.reg [oa 0,odk 24 0 0 0 0 0,oo 1,oz 2 0,oz 2 1,oo 3,oc 2 4],.reg [oa 2,obw 0 0,oc 1 1],ko]⟩
def X24:A0:=
 ⟨19,[0,2,3,4,8,15],0,[(1,none),(2,none)],sq [.reg [oy 1 0,oy 2 0],sq [kl 3 0,.block 0 (.loopS [0,3] 0 (sq [sq [.reg [oa 3,oa 0,obr 1,oaw 4 0 2],C4 4 0],.block 1 (sq [.reg [oa 0,oa 3,ofb 0 1,W4 62 2 0 0,obb 5 3],.cond (.v 5) (kav 3 1 0 2 60) kd]),kg 3 0 1 3 1]))],.reg [oa 0,obr 0,oc 1 1,oy 2 0],ko]⟩
def X62:A0:=
 ⟨11,[0,2],0,[(1,none)],sq [kj 1,.reg [oa 0,occ 0 127,oef 1 32,oo 2,og 0 3,oel 4 127 3,obk 5 126 3,oh 3 6,oc 1 7],ko]⟩
def b0o:A0:=
 ⟨6,[0,2],0,[(1,none)],sq [kj 1,.reg [oa 0,occ 0 127,oq (.bin .eql false (.l 1) (.c (.int .u8 32))),oc 1 2],ko]⟩
def X64:A0:=
 ⟨16,[0,1],6,[(0,none)],sq [kw 0,.reg [oq (.build [.int .i64 0,.int .i64 0] []),oeh 1 0 0 0,oq (.storeA 2 (.l 1) (.l 0))],.reg [oq (.lit 1 [.int .u8 0] [(0,.c (.int .u8 1))]),oet 2 1,oq (.call 66 [.c (.str ⟨#[97]⟩),.l 0,.l 1] [(0,0),(1,1),(0,0),(0,0),(0,0),(0,0)] false),ocy 1 0 0 3 1,oeu 2 1 1,oq (.call 66 [.c (.str ⟨#[98]⟩),.l 3,.l 4] [(0,0),(2,1),(0,0),(0,0),(0,0),(0,0)] false),ode 1 0 0 9 1 2,oeb 2 1 1 2,oq (.call 66 [.c (.str ⟨#[99]⟩),.l 6,.l 7] [(0,0),(3,1),(0,0),(0,0),(0,0),(0,0)] false),⟨.lit 1 [.int .u8 0] [(0,.c (.int .u8 0))],none,none,[1,2,3]⟩,⟨.loadA 2 (.v 1),none,none,[1,2,3]⟩,oq (.call 66 [.c (.str ⟨#[32]⟩),.l 9,.l 10] [(0,0),(4,1),(0,0),(0,0),(0,0),(0,0)] false),oev 5 6 0 0 0 0 0 0 0 0 0 0 0 0 0 0 0 0 0 2 1 5 2 8 3 11,oc 0 12],ko]⟩
def X65:A0:=
 ⟨16,[0,1,2,5,6,7],4,[(4,some (true,6))],sq [.reg [ow 3 (.boxA 0 (.v 2)),oav 4 1 0 0 0 0],.reg [oa 0,oq (.lit 1 [.int .u8 0] [(0,.l 0)]),oet 2 3,oq (.call 66 [.c (.str ⟨#[]⟩),.l 1,.l 2] [(0,0),(2,1),(0,0),(0,0),(0,0),(0,0)] false),oav 5 3 0 0 0 0,ol 6 4 3],.reg [oa 1,oq (.bin .shl false (.c (.int .u8 1)) (.l 0)),oe 3 5,ol 1 2 1],.reg [ok 6 5,K7 6 4 0],ko]⟩
def X66:A0:=
 ⟨14,[0,1,2,5,6],2,[(4,some (true,6))],sq [.reg [ow 3 (.boxA 0 (.v 2)),oav 4 1 0 0 0 0],.reg [oa 0,oa 1,oq (.indexAddrA 2 1 (.v 3) (oi 0)),ob 1 2,oq (.indexAddrA 2 1 (.v 3) (oi 1)),ob 1 4,oq (.build [.str ⟨#[]⟩,.nils,.int .u8 0,.int .u8 0,.int .i64 0,.int .i64 0] [(0,1,.l 0),(1,1,.l 1),(2,1,.c (.int .u8 63)),(3,1,.c (.int .u8 63)),(4,1,.l 3),(5,1,.l 5)]),K7 6 4 6],ko]⟩
def X27:A0:=
 ⟨2,[0],2,[(0,some (true,3))],sq [.reg [ocb 0 0 0 0],.reg [oq (.call 28 [.c (.int .u8 0)] [(0,0),(0,0),(1,6)] false),K7 3 0 0],ko]⟩
def X86:A0:=
 ⟨26,[0,2,3,11,17,23,25],0,[(1,none)],sq [kl 1 0,.reg [oa 0,occ 0 127,oc 2 1],sq [.reg [oa 2,oef 0 97,oo 1,og 2 2,obk 3 122 2,U9 3 2 4],kau 3 1 1],sq [.reg [oa 2,oef 0 65,oo 1,og 2 2,obk 3 90 2,U9 4 2 4],kau 4 1 2],sq [.reg [oa 2,oef 0 48,oo 1,og 2 2,obk 3 57 2,U9 5 2 4],kau 5 1 3],sq [.reg [oa 2,oem 6 0 32],kau 6 1 4],kl 1 5,ko]⟩
theorem c28:D0 28 X28:=D3
theorem c8:D0 8 X8:=D3
theorem c32:D0 32 X32:=D3
theorem c33:D0 33 X33:=D3
theorem c68:D0 68 X68:=D3
theorem c101:D0 101 U5:=D3
theorem c102:D0 102 a2t:=D3
theorem c29:D0 29 X29:=D3
theorem c119:D0 119 b0e:=D3
theorem c24:D0 24 X24:=D3
theorem c62:D0 62 X62:=D3
theorem c120:D0 120 b0o:=D3
theorem c64:D0 64 X64:=D3
theorem c65:D0 65 X65:=D3
theorem c66:D0 66 X66:=D3
theorem c27:D0 27 X27:=D3
theorem c86:D0 86 X86:=D3
set_option maxHeartbeats 8000000
theorem b3C:F0 46 [0,0,0] [] (SP start):=by refine E7 c46 1 (by simp[X46]) fun Q hR hN=>?_;simp[X46];refine hR _ _ ?_;simp[X46,start]
theorem b8S(b:UInt8):F0 86 [0] [U b.toNat] (IN (a1n b)):=by
 refine E7 c86 0 (by simp[X86]) fun Q hR hN=>?_;have h:=a9e b;have hc:a1n b=(if 97≤P3 b∧P3 b≤122 then 1 else if 65≤P3 b∧P3 b≤90 then 2 else if 48≤P3 b∧P3 b≤57 then 3 else if P3 b=32 then 4 else 5):=rfl;generalize P3 b=c at h hc;by_cases a1:97≤c∧c≤122
 . rw[if_pos a1]at hc;simp[X86,h,a1];refine hR _ _ ?_;simp[X86,hc]
 rw[if_neg a1]at hc;by_cases a3:65≤c∧c≤90
 . rw[if_pos a3]at hc;have b1:¬97≤c:=i9;simp[X86,h,a3,b1];refine hR _ _ ?_;simp[X86,hc]
 rw[if_neg a3]at hc;by_cases a5:48≤c∧c≤57
 . rw[if_pos a5]at hc;have b1:¬97≤c:=i9;have b2:¬65≤c:=i9;simp[X86,h,a5,b1,b2];refine hR _ _ ?_;simp[X86,hc]
 rw[if_neg a5]at hc;by_cases b1:97≤c<;>by_cases b2:65≤c<;>by_cases b3:48≤c<;>by_cases b4:c=32<;>(try (exfalso;omega))<;>
  (have e1:97≤c→¬c≤122:=i9
   have e2:65≤c→¬c≤90:=i9;have e3:48≤c→¬c≤57:=i9;simp only[b4,if_true,if_false]at hc;simp[X86,h,b1,b2,b3,b4,e1,e2,e3];refine hR _ _ ?_;simp[X86,hc])
theorem b0y(m k:Nat)(hm:m<256)(hk:k≤1000000):F0 85 [0] [UN m,IN k] (B (bit m k)):=by
 refine E7 c85 0 (by simp[X85]) fun Q hR hN=>?_;by_cases h8:k<8
 . have h:=b5Y hm h8;simp[X85,h8,IntKind.bits];simp at h;refine hR _ _ ?_;simp[X85,bit,h8,h]
 . simp[X85,h8];refine hR _ _ ?_;simp[X85,bit,h8]
theorem b1J(t:j9)(s:State)(ht:OkT t)(hs:OkS s):F0 49 [0] [TP t,SP s] (B (B6 t s)):=by
 refine E7 c49 2 (by simp[X49]) fun Q hR hN=>?_;have h1:=b0y t.accept s.mode ht.accept hs.mode;have h2:=b0y s.need 0 hs.need i9;by_cases hm:s.mode<t.modes
 . simp[X49,hm];refine l7 h1 ?_;cases hb:bit t.accept s.mode
   . simp;refine hR _ _ ?_;simp[X49,B6,hb]
   . simp;refine l7 h2 ?_;simp;refine hR _ _ ?_;simp[X49,B6,hb,hm]
 . simp[X49,hm];refine hR _ _ ?_;simp[X49,B6,hm]
theorem a5V(t:j9)(s:State)(k:Nat)(ht:OkT t)(hs:OkS s)(hk:k≤1000000):F0 47 [0,0,0,0] [TP t,SP s,IN k] (a1u (step t s k)):=by
 refine E7 c47 4 (by simp[X47]) fun Q hR hN=>?_;have hlen:=ht.len;by_cases hkl:k<t.rules.length
 . have tk:¬((t.rules.length:Int)≤k):=i9;have hst:step t s k=a5A t.rules[k] s:=(by unfold step;rw[l9 hkl];rfl);have hr:=ht.a1i _ (B7 hkl);simp[X47,hkl,tk];generalize t.rules[k]=r at hr hst;unfold a5A at hst;have hfin:∀(o:Option State) vs h,step t s k=o→fin X47.results [0,0,0,0] (a1u o) vs h→Q .ret vs h:=fun o vs h ho hf=>hR _ _ (by grind);by_cases hs1:r.src=s.mode
   . simp[hs1];refine l7 (b0y r.left s.last hr.left (by have:=hs.last;omega)) ?_;cases hb:bit r.left s.last
     . rw[if_pos (.inr hb)]at hst;simp;refine hfin _ _ _ hst ?_;simp[X47,B9]
     . rw[if_neg (by simp[hs1,hb])]at hst;by_cases hp:r.print=[]
       . rw[if_pos hp]at hst;simp[hp,b3N hs.need hr.right];by_cases hz:s.need&&&r.right=0
         . rw[if_pos hz]at hst;simp[hz];refine hfin _ _ _ hst ?_;simp[X47,B9]
         . rw[if_neg hz]at hst;have hz':¬((s.need&&&r.right:Nat):Int)=0:=i9;simp[hz];refine hfin _ _ _ hst ?_;simp[X47,b3N hs.need hr.right]
       . rw[if_neg hp]at hst;have h0:0<r.print.length:=a2k.2 hp;have hc0:=b8S r.print[0];have hcl:=b8S r.print[r.print.length-1];have e0:r.print.headD 0=r.print[0]:=(by obtain⟨a,l,h⟩:=a9D hp;simp[h]);have el:r.print.getLastD 0=r.print[r.print.length-1]:=(by grind);have hl1:r.print.length-1<r.print.length:=i9;have hlen:=hr.print;have hw:IntKind.i64.wrap ((r.print.length:Int)-1)=((r.print.length-1:Nat):Int):=(by rw[wrap_ok i9 i9];omega);rw[e0,el]at hst;simp[hp,h0];refine l7 hc0 ?_;simp;refine l7 (b0y s.need _ hs.need (by have:=b1p r.print[0];omega)) ?_;cases hb2:bit s.need (a1n r.print[0])
         . rw[if_pos hb2]at hst;simp;refine hfin _ _ _ hst ?_;simp[X47,B9]
         . rw[if_neg (by simp[hb2])]at hst;simp[hw,hl1];refine l7 hcl ?_;simp;refine hfin _ _ _ hst ?_;simp[X47]
   . rw[if_pos (.inl hs1)]at hst;simp[hs1];refine hfin _ _ _ hst ?_;simp[X47,B9]
 . have tk:((t.rules.length:Int)≤k):=i9;have hst:step t s k=none:=(by unfold step;rw[a0f i9];rfl);simp[X47,hkl,tk];refine hR _ _ ?_;simp[X47,B9,hst]
theorem a9u(L:List State)(s:State)(hL:L.length≤1100000000):F0 48 [0] [.slc (F4 L),SP s] (I (match L.idxOf? s with|some n=>(n:Int)|none=> -1)):=by
 refine E7 c48 2 (by simp[X48]) fun Q hR hN=>?_;simp[X48];refine I2 (fun(k:Nat) vs h=>k≤L.length∧(∀j,(hj:j<L.length)→j<k→L[j]≠s)∧vs=[.slc (F4 L),.uu,.ptr 1 1 0,.uu,IN k,.uu,.uu]∧h=[dd,(1,.var [IN s.mode,IN s.last,UN s.need])]) (fun k=>L.length-k) 0 ?_ ?_
 . simp
 . rintro k vs h ⟨g1,g2,rfl,rfl⟩ Q' hK hX hR';by_cases hk:k<L.length
   . have hw:=wk1 k i9;have heq:(L[k]=s)=(L[k].mode=s.mode∧L[k].last=s.last∧L[k].need=s.need):=by
      generalize L[k]=a;cases a;cases s;simp
     by_cases hc:L[k]=s
     . have hi:L.idxOf? s=some k:=by
        rw[List.idxOf?,a1V]
        grind
       simp[hk,hc];refine hR' _ _ ?_;simp;refine hR _ _ ?_;simp[X48,hi]
     . have hc2:(decide (L[k].mode=s.mode)&&(decide (L[k].last=s.last)&&decide (L[k].need=s.need)))=false:=by
        rw[heq]at hc
        grind
       simp[hk,hw,hc2];refine hK (k+1) _ _ i9 ?_;simp
       grind
   . obtain rfl:k=L.length:=i9;have hi:L.idxOf? s=none:=by
      rw[List.idxOf?,b1O];intro x hx;obtain⟨j,hj,rfl⟩:=a1F hx;simpa using g2 j hj hj
     simp;refine hX _ _ _ ?_;simp;refine hR _ _ ?_;simp[X48,hi]
theorem b3a(t:j9)(ht:s5 t):F0 43 [3] [TP t] (.uslc (F4 (j4 t))):=by
 refine E7 c43 9 (by simp[X43]) fun Q hR hN=>?_;have hR64:=ht.l64;simp[X43];refine l7 b3C ?_;simp;refine I2 (fun(p:Nat×Ex) vs h=>a0W t (3073-p.1) p.1 p.2=explore t∧Inv (p.1*64) p.2∧p.1≤p.2.1.length∧
  vs=[.uu,.ptr 5 1 0,.uu,.own 6 1 p.2.1.length 3 0 p.2.1.length,IN p.1,.uu,.uu,.uu,.uu,.uu,.uu]∧
  h=[dd,dd,dd,dd,dd,(1,.var [IN t.modes,UN t.accept,.slc (t.rules.map RP)]),(1,.arr 3 0 false (F4 p.2.1)),dd,dd]) (fun p=>3073-p.1) (0,([start],[[]])) ?_ ?_
 . simp;exact⟨rfl,a7S⟩
 . rintro⟨k,L,F⟩ vs h ⟨g1,g2,g3,rfl,rfl⟩ Q' hK hX hR';dsimp only at g1 g2 g3;have hL:=g2.le;dsimp only at hL;by_cases hk:k<L.length
   . have hw:=wk1 k i9;simp[hk];refine I2 (fun(j:Nat) vs h=>j≤t.rules.length∧
      vs=[.uu,.ptr 5 1 0,.uu,.own 6 1 (X6 t k (L,F) j).1.length 3 0 (X6 t k (L,F) j).1.length,IN k,IN j,.uu,.uu,.uu,.uu,.uu]∧
      h=[dd,dd,dd,dd,dd,(1,.var [IN t.modes,UN t.accept,.slc (t.rules.map RP)]),(1,.arr 3 0 false (F4 (X6 t k (L,F) j).1)),dd,dd]) (fun j=>t.rules.length-j) 0 ?_ ?_
     . simp[X6]
     . rintro j vs h ⟨q1,rfl,rfl⟩ Q2 hK2 hX2 hR2;obtain⟨i1,i2⟩:=a5o ht g2 hk j;have hsu:=b0F t k (L,F) j;by_cases hj:j<t.rules.length
       . have hwj:=wk1 j i9;generalize X6 t k (L,F) j=A at i1 i2 hsu;obtain⟨L',F'⟩:=A;have hk':k<L'.length:=(by grind);have hL':=i1.le;dsimp only at hL';have hst:=a5V t L'[k] j ht.ok (i1.val _ (B7 hk')).ok i9;have hg:L'.getD k B9=L'[k]:=(by grind);unfold a5b at hsu;simp only[hg]at hsu;cases hs:step t L'[k] j with
         |none=>
          simp only[hs]at hsu;simp only[a1u,hs]at hst;simp[hj,hk'];refine l7 hst ?_;simp[hwj];refine hK2 (j+1) _ _ i9 ?_;simp[hsu];omega
         |some nx=>
          have hix:=a9u L' nx i9;simp only[hs]at hsu;simp only[a1u,hs]at hst;cases hn:L'.idxOf? nx with
          |some n=>
           simp only[hn]at hsu hix;have hneg:¬(n:Int)<0:=i9;simp[hj,hk'];refine l7 hst ?_;simp;refine l7 hix ?_;simp[hwj,hneg];refine hK2 (j+1) _ _ i9 ?_;simp[hsu];omega
          |none=>
           simp only[hn]at hsu hix;obtain⟨L2,hL2⟩:=ex1 (L'++[nx]);have e1:F4 L'++[.agg [IN nx.mode,IN nx.last,UN nx.need]]=F4 L2:=(by rw[←hL2];simp);have e2:L'.length+1=L2.length:=(by rw[←hL2];simp);have b1:L2.length*24≤140737488355328:=i9;rw[hL2]at hsu;simp[hj,hk'];refine l7 hst ?_;simp;refine l7 hix ?_;simp[hwj,e1,e2,b1];refine hK2 (j+1) _ _ i9 ?_;simp[hsu];omega
       . obtain rfl:j=t.rules.length:=i9;simp;refine hX2 _ _ _ ?_;simp[hw];refine hK (k+1,X6 t k (L,F) t.rules.length) _ _ i9 ?_;obtain⟨i1,i2⟩:=a5o ht g2 hk t.rules.length;dsimp only at i2;have hex:a0W t (3073-k) k (L,F)=a0W t (3072-k) (k+1) (X6 t k (L,F) t.rules.length):=by
          rw[show 3073-k=(3072-k)+1 by omega];simp only[a0W];rw[if_pos hk]
         rw[hex]at g1;simp;refine⟨g1,⟨i1.nodup,i1.val,i1.len,fun l hl=>by have:=i1.short l hl;omega,i1.pos⟩,i9⟩
   . obtain rfl:k=L.length:=i9;simp;refine hX _ _ _ ?_;simp;refine hR _ _ ?_;have hex:explore t=(L,F):=by
      rw[←g1,show 3073-L.length=(3072-L.length)+1 by omega];simp only[a0W];rw[if_neg i9]
     simp[X43,j4,hex]
structure AR(t:j9)(A:List Bool):Prop where
 len:A.length=(j4 t).length
 live:∀i:Nat,A[i]?=some true→∃s,(j4 t)[i]?=some s∧Live t s
 acc:∀(i:Nat) s,(j4 t)[i]?=some s→B6 t s=true→A[i]?=some true
theorem a0H{t:j9}(ht:s5 t){s:State}(hs:s∈j4 t):∃n,(j4 t).idxOf? s=some n∧(j4 t)[n]?=some s:=by
 cases hn:(j4 t).idxOf? s with
 |none=>
  rw[List.idxOf?,b1O]at hn;have:=hn s hs;simp at this
 |some n=>
  obtain⟨h1,h2,_⟩:=a1V.1 hn;exact⟨n,rfl,by rw[l9 h1];congr 1;simpa using h2⟩
theorem c0a{L:List State}{s:State}{n:Nat}(h:L.idxOf? s=some n):∃hn:n<L.length,L[n]=s:=by
 obtain⟨h1,h2,_⟩:=a1V.1 h
 grind
def a3e(t:j9)(A:List Bool)(i:Nat)(j:Nat):Prop:=∀(hi:i<(j4 t).length),A[i]?=some false→∀k s' n,k<j→step t (j4 t)[i] k=some s'→(j4 t).idxOf? s'=some n→A[n]?=some false
theorem AR.set{t:j9}{A:List Bool}(h:AR t A){i k n:Nat}{s':State}(hi:i<(j4 t).length)(hs:step t (j4 t)[i] k=some s')(hn:(j4 t).idxOf? s'=some n)(ha:A[n]?=some true):AR t (A.set i true):=by
 have hiA:i<A.length:=by rw[h.len];exact hi
 refine⟨by simp[h.len],fun j hj=>?_,fun j s h1 h2=>?_⟩
 . by_cases e:i=j
   . subst e;obtain⟨s,h3,h4⟩:=h.live n ha;obtain⟨h5,h6⟩:=c0a hn;rw[l9 h5,h6]at h3;cases h3;exact⟨_,l9 hi,b9i hs h4⟩
   . rw[D9 e]at hj;exact h.live j hj
 . by_cases e:i=j
   . grind
   . rw[D9 e];exact h.acc j s h1 h2
theorem AR.alive{t:j9}(ht:s5 t){A:List Bool}(h:AR t A)(hc:∀i,a3e t A i t.rules.length):A=L4 t:=by
 classical
 have key:∀(p:List Nat) (i:Nat) (s s':State),(j4 t)[i]?=some s→D8 t s p=some s'→B6 t s'=true→A[i]?=some true:=fun p=>by
  induction p with
  |nil=>intro i s s' h1 h2 h3;cases h2;exact h.acc i s h1 h3
  |cons m p ih=>
   intro i s s' h1 h2 h3;simp only[D8]at h2;obtain⟨s1,h4,h5⟩:=V1.1 h2;obtain⟨hi,rfl⟩:=B4.1 h1;obtain⟨n,h6,h7⟩:=a0H ht (W7 ht (B7 hi) h4);have hiA:i<A.length:=(by rw[h.len];exact hi);rw[l9 hiA];cases ha:A[i]
   . have h8:=hc i hi (by grind) m s1 n (a2o h4) h4 h6
     grind
   . rfl
 refine a0t (by rw[h.len];simp[L4]) fun i h1 h2=>?_;simp only[L4,a1e];have hi:i<(j4 t).length:=by rw[←h.len];exact h1
 cases ha:A[i]
 . symm;rw[decide_eq_false_iff_not];rintro⟨p,s',h3,h4⟩;have:=key p i _ s' (l9 hi) h3 h4;rw[l9 h1,ha]at this;cases this
 . symm;rw[decide_eq_true_iff];obtain⟨s,h3,h4⟩:=h.live i (by grind);rw[l9 hi]at h3;cases h3;exact h4
theorem AR.init(t:j9):AR t ((j4 t).map (B6 t)):=
 ⟨k7,fun i hi=>by rw[H5]at hi;obtain⟨s,h1,h2⟩:=C5.1 hi;exact⟨s,h1,b7f h2⟩,fun i s h1 h2=>by rw[H5,h1];simp[h2]⟩
theorem c1v(t:j9)(ht:s5 t):F0 44 [1] [TP t] (.uslc ((L4 t).map B)):=by
 refine E7 c44 10 (by simp[X44]) fun Q hR hN=>?_;have hst:=b3a t ht;have hle:=a1g ht;have h64:=ht.l64;have hsv:=fun s hs=>(a3o ht (s:=s) hs).ok;simp[X44];refine l7 hst ?_;simp;refine I2 (fun(x:Nat×List Bool) vs h=>x.1≤(j4 t).length∧x.2=((j4 t).take x.1).map (B6 t)∧
  vs=[.uu,.ptr 6 1 0,.uu,.slc (F4 (j4 t)),.own 7 1 x.2.length 1 0 x.2.length,IN x.1,.uu,.uu,.uu,.uu,.uu,.uu,.uu,.uu,.uu,.uu]∧
  h=[dd,dd,dd,dd,dd,dd,(1,.var [IN t.modes,UN t.accept,.slc (t.rules.map RP)]),(1,.arr 1 0 false (x.2.map B)),dd,dd]) (fun x=>(j4 t).length-x.1) (0,[]) ?_ ?_
 . simp
 . rintro⟨i,A⟩ vs h ⟨g1,g2,rfl,rfl⟩ Q' hK hX hR';dsimp only at g1 g2;by_cases hi:i<(j4 t).length
   . have hw:=wk1 i i9;have hac:=b1J t (j4 t)[i] ht.ok (hsv _ (B7 hi));obtain⟨A2,hA2⟩:=ex1 (A++[B6 t (j4 t)[i]]);have e1:A.map B++[B (B6 t (j4 t)[i])]=A2.map B:=(by rw[←hA2];simp);have e2:A.length+1=A2.length:=(by rw[←hA2];simp);have e3:A2=((j4 t).take (i+1)).map (B6 t):=(by rw[←hA2,g2,J2,l9 hi,S8];rfl);have e4:A2.length=i+1:=(by grind);have b1:A2.length≤140737488355328:=i9;simp[hi];refine l7 hac ?_;simp[hw,hi,e1,e2,b1];refine hK (i+1,A2) _ _ i9 ?_;simp;exact⟨i9,by simpa using e3⟩
   . obtain rfl:i=(j4 t).length:=i9;rw[J7]at g2;have hA0:=AR.init t;rw[←g2]at hA0;simp;refine hX _ _ _ ?_;simp;refine I2 (fun(x:List Bool×Bool) vs h=>AR t x.1∧(x.2=false→∀i,a3e t x.1 i t.rules.length)∧
      vs=[.uu,.ptr 6 1 0,.uu,.slc (F4 (j4 t)),.own 7 1 x.1.length 1 0 x.1.length,.uu,B x.2,.uu,.uu,.uu,.uu,.uu,.uu,.uu,.uu,.uu]∧
      h=[dd,dd,dd,dd,dd,dd,(1,.var [IN t.modes,UN t.accept,.slc (t.rules.map RP)]),(1,.arr 1 0 false (x.1.map B)),dd,dd]) (fun x=>2*x.1.count false+x.2.toNat) (A,true) ?_ ?_
     . simp;exact hA0
     . rintro⟨A1,g⟩ vs h ⟨r1,r2,rfl,rfl⟩ Q2 hK2 hX2 hR2;dsimp only at r1 r2;cases g
       . have hA:=r1.alive ht (r2 rfl);simp;refine hX2 _ _ _ ?_;simp;refine hR _ _ ?_;simp[X44,hA]
       . simp;refine I2 (fun(x:Nat×List Bool×Bool) vs h=>x.1≤(j4 t).length∧AR t x.2.1∧(x.2.2=false→x.2.1=A1∧∀i,i<x.1→a3e t A1 i t.rules.length)∧(x.2.2=true→x.2.1.count false<A1.count false)∧
          vs=[.uu,.ptr 6 1 0,.uu,.slc (F4 (j4 t)),.own 7 1 x.2.1.length 1 0 x.2.1.length,.uu,B x.2.2,IN x.1,.uu,.uu,.uu,.uu,.uu,.uu,.uu,.uu]∧
          h=[dd,dd,dd,dd,dd,dd,(1,.var [IN t.modes,UN t.accept,.slc (t.rules.map RP)]),(1,.arr 1 0 false (x.2.1.map B)),dd,dd]) (fun x=>(j4 t).length-x.1) (0,A1,false) ?_ ?_
         . simp;exact r1
         . rintro⟨i,A2,g⟩ vs h ⟨q1,q2,q3,q4,rfl,rfl⟩ Q3 hK3 hX3 hR3;dsimp only at q1 q2 q3 q4;have hlA:=q2.len;by_cases hi:i<(j4 t).length
           . have hw:=wk1 i i9;have hiA:i<A2.length:=i9;simp[hi];refine I2 (fun(x:Nat×List Bool×Bool) vs h=>x.1≤t.rules.length∧AR t x.2.1∧(x.2.2=false→x.2.1=A1∧(∀i',i'<i→a3e t A1 i' t.rules.length)∧a3e t A1 i x.1)∧(x.2.2=true→x.2.1.count false<A1.count false)∧
              vs=[.uu,.ptr 6 1 0,.uu,.slc (F4 (j4 t)),.own 7 1 x.2.1.length 1 0 x.2.1.length,.uu,B x.2.2,IN i,IN x.1,.uu,.uu,.uu,.uu,.uu,.uu,.uu]∧
              h=[dd,dd,dd,dd,dd,dd,(1,.var [IN t.modes,UN t.accept,.slc (t.rules.map RP)]),(1,.arr 1 0 false (x.2.1.map B)),dd,dd]) (fun x=>t.rules.length-x.1) (0,A2,g) ?_ ?_
             . simp;refine⟨q2,fun e=>⟨(q3 e).1,(q3 e).2,fun _ _ k s' n hk=>absurd hk i9⟩,q4⟩
             . rintro⟨k,A3,g3⟩ vs h ⟨p1,p2,p3,p4,rfl,rfl⟩ Q4 hK4 hX4 hR4;dsimp only at p1 p2 p3 p4;have hlA3:=p2.len;have hiA3:i<A3.length:=i9;have hstep:=a5V t (j4 t)[i] k ht.ok (hsv _ (B7 hi)) i9;have hexit:(g3=false→a3e t A1 i t.rules.length)→Q4 (.exit 6) [.uu,.ptr 6 1 0,.uu,.slc (F4 (j4 t)),.own 7 1 A3.length 1 0 A3.length,.uu,B g3,IN i,IN k,.uu,.uu,.uu,.uu,.uu,B false,.uu] [dd,dd,dd,dd,dd,dd,(1,.var [IN t.modes,UN t.accept,.slc (t.rules.map RP)]),(1,.arr 1 0 false (A3.map B)),dd,dd]:=fun hcl=>by
                refine hX4 _ _ _ ?_;simp[hw];refine hK3 (i+1,A3,g3) _ _ i9 ?_;simp;refine⟨i9,p2,fun e=>⟨(p3 e).1,fun i' hi'=>?_⟩,p4⟩;by_cases h2:i'<i
                . exact(p3 e).2.1 i' h2
                . grind
               by_cases hk:k<t.rules.length
               . have hwk:=wk1 k i9;cases hA:A3[i]
                 . cases hs:step t (j4 t)[i] k with
                   |none=>
                    simp only[a1u,hs]at hstep;simp[hk,hiA3,hA,hi];refine l7 hstep ?_;simp[hwk];refine hK4 (k+1,A3,g3) _ _ i9 ?_;simp;refine⟨i9,p2,fun e=>⟨(p3 e).1,(p3 e).2.1,fun h1 h2 k' s' n hk' h3 h4=>?_⟩,p4⟩;by_cases h5:k'<k
                    . exact(p3 e).2.2 h1 h2 k' s' n h5 h3 h4
                    . grind
                   |some s'=>
                    obtain⟨n,hn1,hn2⟩:=a0H ht (W7 ht (B7 hi) hs);have hix:=a9u (j4 t) s' i9;rw[hn1]at hix;have hnl:n<A3.length:=(by grind);simp only[a1u,hs]at hstep;cases hb:A3[n]
                    . simp[hk,hiA3,hA,hi];refine l7 hstep ?_;simp;refine l7 hix ?_;simp[hnl,hb,hwk];refine hK4 (k+1,A3,g3) _ _ i9 ?_;simp;refine⟨i9,p2,fun e=>⟨(p3 e).1,(p3 e).2.1,fun h1 h2 k' s2 n2 hk' h3 h4=>?_⟩,p4⟩;by_cases h5:k'<k
                      . exact(p3 e).2.2 h1 h2 k' s2 n2 h5 h3 h4
                      . grind
                    . have p2':=p2.set hi hs hn1 (by grind);have hcs:=b0h (A:=A3) (i:=i) (by grind);have e1:(A3.map B).set i (.bool true)=(A3.set i true).map B:=(by rw[J8]);have e2:(A3.set i true).length=A3.length:=k7;obtain⟨A4,hA4⟩:=ex1 (A3.set i true);rw[hA4]at e1 e2 p2' hcs;simp[hk,hiA3,hA,hi];refine l7 hstep ?_;simp;refine l7 hix ?_;simp[hnl,hb,hwk,hiA3,e1];refine hK4 (k+1,A4,true) _ _ i9 ?_;simp[e2]
                      grind
                 . simp[hk,hiA3,hA];refine hexit fun e=>?_;obtain⟨h1,_,_⟩:=p3 e;intro _ hf
                   grind
               . obtain rfl:k=t.rules.length:=i9;simp
                 grind
           . obtain rfl:i=(j4 t).length:=i9;simp;refine hX3 _ _ _ ?_;simp;refine hK2 (A2,g) _ _ ?_ ?_
             . dsimp only;cases g
               all_goals grind
             . simp;refine⟨q2,fun e i=>?_⟩;obtain⟨h1,h2⟩:=q3 e;rw[h1];by_cases hi:i<(j4 t).length
               . exact h2 i hi
               . exact fun h=>absurd h hi
set_option maxHeartbeats 16000000
def b4j(t:j9)(N:List Bool)(W:List Int)(i n:Nat):Prop:=∃(s:State) (k:Nat) (s':State),(j4 t)[i]?=some s∧W[i]?=some (k:Int)∧step t s k=some s'∧(j4 t).idxOf? s'=some n∧N[n]?=some true
structure HM(t:j9)(N:List Bool)(W:List Int)(q:Nat):Prop where
 ar:AR t N
 wl:W.length=(j4 t).length
 d:∃d:Nat→Nat,∀i,N[i]?=some true→d i≤q∧((∃s,(j4 t)[i]?=some s∧B6 t s=true)∨∃n,b4j t N W i n∧d n<d i)
structure HR(t:j9)(N:List Bool)(W:List Int)(R:List Bool)(V:List Int):Prop where
 ar:AR t R
 vl:V.length=(j4 t).length
 sub:∀i:Nat,N[i]?=some true→R[i]?=some true∧V[i]?=W[i]?
 new:∀i:Nat,R[i]?=some true→N[i]?=some true∨∃n,b4j t N V i n
theorem HR.start{t:j9}{N:List Bool}{W:List Int}{q:Nat}(h:HM t N W q):HR t N W N W:=⟨h.ar,h.wl,fun _ h=>⟨h,rfl⟩,fun _ h=>.inl h⟩
theorem HR.put{t:j9}{N R:List Bool}{W V:List Int}(h:HR t N W R V){i k n:Nat}{s':State}(hN:AR t N)(hi:i<(j4 t).length)(hR:R[i]?=some false)(hs:step t (j4 t)[i] k=some s')(hn:(j4 t).idxOf? s'=some n)(ha:N[n]?=some true):
 HR t N W (R.set i true) (V.set i (k:Int)):=by
 have hiV:i<V.length:=by rw[h.vl];exact hi
 have hiR:i<R.length:=by grind
 refine⟨h.ar.set hi hs hn (h.sub n ha).1,by simp[h.vl],fun j hj=>?_,fun j hj=>?_⟩
 . have e:i≠j:=fun e=>by
    subst e;rw[(h.sub i hj).1]at hR;cases hR
   rw[D9 e,D9 e];exact h.sub j hj
 . by_cases e:i=j
   . subst e;exact .inr ⟨n,_,k,s',l9 hi,D7 hiV,hs,hn,ha⟩
   . rw[D9 e]at hj;refine(h.new j hj).imp id fun⟨n2,s,k2,s2,a1,a2,a3,a4,a5⟩=>⟨n2,s,k2,s2,a1,by rw[D9 e];exact a2,a3,a4,a5⟩
theorem HR.done{t:j9}{N R:List Bool}{W V:List Int}{q:Nat}(h:HR t N W R V)(hm:HM t N W q):HM t R V (q+1):=by
 classical
 obtain⟨d,hd⟩:=hm.d;refine⟨h.ar,h.vl,fun i=>if N[i]?=some true then d i else q+1,fun i hi=>?_⟩;dsimp only;by_cases hN:N[i]?=some true
 . rw[if_pos hN];obtain⟨h1,h2⟩:=hd i hN;refine⟨i9,h2.imp id fun⟨n,⟨s,k,s',a1,a2,a3,a4,a5⟩,h4⟩=>⟨n,⟨s,k,s',a1,by rw[(h.sub i hN).2];exact a2,a3,a4,(h.sub n a5).1⟩,?_⟩⟩;rw[if_pos a5];exact h4
 . rw[if_neg hN];refine⟨m0 _,.inr ?_⟩;obtain⟨n,s,k,s',a1,a2,a3,a4,a5⟩:=(h.new i hi).resolve_left hN;refine⟨n,⟨s,k,s',a1,a2,a3,a4,(h.sub n a5).1⟩,?_⟩
   grind
structure b3v(t:j9)(W:List Int):Prop where
 wl:W.length=(j4 t).length
 d:∃d:Nat→Nat,∀i,(L4 t)[i]?=some true→d i≤3073∧((∃s,(j4 t)[i]?=some s∧B6 t s=true)∨∃n,b4j t (L4 t) W i n∧d n<d i)
theorem HM.ways{t:j9}(ht:s5 t){N:List Bool}{W:List Int}{q:Nat}(h:HM t N W q)(hq:q≤3073)(hc:∀i,a3e t N i t.rules.length):b3v t W:=by have hA:=h.ar.alive ht hc;obtain⟨d,hd⟩:=h.d;rw[hA]at hd;exact⟨h.wl,d,fun i hi=>⟨S7 (hd i hi).1 hq,(hd i hi).2⟩⟩
theorem c3Y(t:j9)(ht:s5 t):∃W,b3v t W∧F0 45 [1] [TP t] (.uslc (W.map I)):=by
 suffices hh:∃r,(∃W,b3v t W∧r=.uslc (W.map I))∧F0 45 [1] [TP t] r by obtain⟨r,⟨W,h1,rfl⟩,h2⟩:=hh;exact⟨W,h1,h2⟩
 refine a2x mixed (X:=X45) c45 16 (by simp[X45]) (by kernel_rfl) fun Q hR hN=>?_;have hst:=b3a t ht;have hle:=a1g ht;have h64:=ht.l64;have hsv:=fun s hs=>(a3o ht (s:=s) hs).ok;simp[X45];refine l7 hst ?_;simp;refine I2 (fun(x:Nat×List Bool×List Int) vs h=>x.1≤(j4 t).length∧x.2.1=((j4 t).take x.1).map (B6 t)∧x.2.2=List.replicate x.1 (-1)∧
  vs=[.uu,.ptr 11 1 0,.uu,.slc (F4 (j4 t)),.own 12 1 x.2.2.length 1 0 x.2.2.length,.own 13 1 x.2.1.length 1 0 x.2.1.length,IN x.1,.uu,.uu,.uu,.uu,.uu,.uu,.uu,.uu,.uu,.uu,.uu]∧
  h=[dd,dd,dd,dd,dd,dd,dd,dd,dd,dd,dd,(1,.var [IN t.modes,UN t.accept,.slc (t.rules.map RP)]),(1,.arr 1 0 false (x.2.2.map I)),(1,.arr 1 0 false (x.2.1.map B)),dd,dd]) (fun x=>(j4 t).length-x.1) (0,[],[]) ?_ ?_
 . simp
 . rintro⟨i,A,W⟩ vs h ⟨g1,g2,g3,rfl,rfl⟩ Q' hK hX hR';dsimp only at g1 g2 g3;by_cases hi:i<(j4 t).length
   . have hw:=wk1 i i9;have hac:=b1J t (j4 t)[i] ht.ok (hsv _ (B7 hi));obtain⟨A2,hA2⟩:=ex1 (A++[B6 t (j4 t)[i]]);have e1:A.map B++[B (B6 t (j4 t)[i])]=A2.map B:=(by rw[←hA2];simp);have e2:A.length+1=A2.length:=(by rw[←hA2];simp);have e3:A2=((j4 t).take (i+1)).map (B6 t):=(by rw[←hA2,g2,J2,l9 hi,S8];rfl);have e4:A2.length=i+1:=(by grind);have b1:A2.length≤140737488355328:=i9;obtain⟨W2,hW2⟩:=ex1 (W++[-1]);have f1:W.map I++[I (-1)]=W2.map I:=(by rw[←hW2];simp);have f2:W.length+1=W2.length:=(by rw[←hW2];simp);have f3:W2=List.replicate (i+1) (-1):=(by rw[←hW2,g3,List.replicate_succ']);have f4:W2.length*8≤140737488355328:=(by grind);simp[hi,f1,f2,f4];refine l7 hac ?_;simp[hw,hi,e1,e2,b1];refine hK (i+1,A2,W2) _ _ i9 ?_;simp;exact⟨i9,by simpa using e3,f3⟩
   . obtain rfl:i=(j4 t).length:=i9;rw[J7]at g2;have hA0:=AR.init t;rw[←g2]at hA0;simp;refine hX _ _ _ ?_;have hH0:HM t A W 0:=⟨hA0,by rw[g3];simp,fun _=>0,fun i hi=>⟨m0 _,.inl (by
      rw[g2,H5]at hi;obtain⟨s,h1,h2⟩:=C5.1 hi;exact⟨s,h1,h2⟩)⟩⟩
     simp;refine I2 (fun(x:List Bool×List Int×Bool×Nat) vs h=>HM t x.1 x.2.1 x.2.2.2∧(x.2.2.1=false→∀i,a3e t x.1 i t.rules.length)∧x.2.2.2+x.1.count false+x.2.2.1.toNat≤(j4 t).length+1∧
      vs=[.uu,.ptr 11 1 0,.uu,.slc (F4 (j4 t)),.own 12 1 x.2.1.length 1 0 x.2.1.length,.own 13 1 x.1.length 1 0 x.1.length,.uu,B x.2.2.1,.uu,.uu,.uu,.uu,.uu,.uu,.uu,.uu,.uu,.uu]∧
      h=[dd,dd,dd,dd,dd,dd,dd,dd,dd,dd,dd,(1,.var [IN t.modes,UN t.accept,.slc (t.rules.map RP)]),(1,.arr 1 0 false (x.2.1.map I)),(1,.arr 1 0 false (x.1.map B)),dd,dd]) (fun x=>2*x.1.count false+x.2.2.1.toNat) (A,W,true,0) ?_ ?_
     . simp;refine⟨hH0,?_⟩;have:=List.count_le_length (a:=false) (l:=A);have:=hA0.len;omega
     . rintro⟨N,W1,g,q⟩ vs h ⟨r1,r2,r3,rfl,rfl⟩ Q2 hK2 hX2 hR2;dsimp only at r1 r2 r3;cases g
       . have hA:=r1.ways ht i9 (r2 rfl);simp;refine hX2 _ _ _ ?_;simp;refine hR _ _ _ ⟨W1,hA,rfl⟩ ?_;simp[X45]
       . have hNl:=r1.ar.len;have b0:N.length≤140737488355328:=i9;simp[b0];refine I2 (fun(x:Nat×List Bool×List Int×Bool) vs h=>x.1≤(j4 t).length∧HR t N W1 x.2.1 x.2.2.1∧(x.2.2.2=false→x.2.1=N∧∀i,i<x.1→a3e t N i t.rules.length)∧(x.2.2.2=true→x.2.1.count false<N.count false)∧
          vs=[.uu,.ptr 11 1 0,.uu,.slc (F4 (j4 t)),.own 12 1 x.2.2.1.length 1 0 x.2.2.1.length,.own 13 1 N.length 1 0 N.length,.uu,B x.2.2.2,.own 14 1 x.2.1.length 1 0 x.2.1.length,IN x.1,.uu,.uu,.uu,.uu,.uu,.uu,.uu,.uu]∧
          h=[dd,dd,dd,dd,dd,dd,dd,dd,dd,dd,dd,(1,.var [IN t.modes,UN t.accept,.slc (t.rules.map RP)]),(1,.arr 1 0 false (x.2.2.1.map I)),(1,.arr 1 0 false (N.map B)),(1,.arr 1 0 false (x.2.1.map B)),dd]) (fun x=>(j4 t).length-x.1) (0,N,W1,false) ?_ ?_
         . simp;exact HR.start r1
         . rintro⟨i,R,V,g⟩ vs h ⟨q1,q2,q3,q4,rfl,rfl⟩ Q3 hK3 hX3 hR3;dsimp only at q1 q2 q3 q4;have hlR:=q2.ar.len;by_cases hi:i<(j4 t).length
           . have hw:=wk1 i i9;simp[hi];refine I2 (fun(x:Nat×List Bool×List Int×Bool) vs h=>x.1≤t.rules.length∧HR t N W1 x.2.1 x.2.2.1∧(x.2.2.2=false→x.2.1=N∧(∀i',i'<i→a3e t N i' t.rules.length)∧a3e t N i x.1)∧(x.2.2.2=true→x.2.1.count false<N.count false)∧
              vs=[.uu,.ptr 11 1 0,.uu,.slc (F4 (j4 t)),.own 12 1 x.2.2.1.length 1 0 x.2.2.1.length,.own 13 1 N.length 1 0 N.length,.uu,B x.2.2.2,.own 14 1 x.2.1.length 1 0 x.2.1.length,IN i,IN x.1,.uu,.uu,.uu,.uu,.uu,.uu,.uu]∧
              h=[dd,dd,dd,dd,dd,dd,dd,dd,dd,dd,dd,(1,.var [IN t.modes,UN t.accept,.slc (t.rules.map RP)]),(1,.arr 1 0 false (x.2.2.1.map I)),(1,.arr 1 0 false (N.map B)),(1,.arr 1 0 false (x.2.1.map B)),dd]) (fun x=>t.rules.length-x.1) (0,R,V,g) ?_ ?_
             . simp;refine⟨q2,fun e=>⟨(q3 e).1,(q3 e).2,fun _ _ k s' n hk=>absurd hk i9⟩,q4⟩
             . rintro⟨k,R3,V3,g3⟩ vs h ⟨p1,p2,p3,p4,rfl,rfl⟩ Q4 hK4 hX4 hR4;dsimp only at p1 p2 p3 p4;have hlR3:=p2.ar.len;have hlV3:=p2.vl;have hiR3:i<R3.length:=i9;have hiV3:i<V3.length:=i9;have hstep:=a5V t (j4 t)[i] k ht.ok (hsv _ (B7 hi)) i9;have hexit:(g3=false→a3e t N i t.rules.length)→Q4 (.exit 6) [.uu,.ptr 11 1 0,.uu,.slc (F4 (j4 t)),.own 12 1 V3.length 1 0 V3.length,.own 13 1 N.length 1 0 N.length,.uu,B g3,.own 14 1 R3.length 1 0 R3.length,IN i,IN k,.uu,.uu,.uu,.uu,.uu,B false,.uu] [dd,dd,dd,dd,dd,dd,dd,dd,dd,dd,dd,(1,.var [IN t.modes,UN t.accept,.slc (t.rules.map RP)]),(1,.arr 1 0 false (V3.map I)),(1,.arr 1 0 false (N.map B)),(1,.arr 1 0 false (R3.map B)),dd]:=fun hcl=>by
                refine hX4 _ _ _ ?_;simp[hw];refine hK3 (i+1,R3,V3,g3) _ _ i9 ?_;simp;refine⟨i9,p2,fun e=>⟨(p3 e).1,fun i' hi'=>?_⟩,p4⟩;by_cases h2:i'<i
                . exact(p3 e).2.1 i' h2
                . grind
               by_cases hk:k<t.rules.length
               . have hwk:=wk1 k i9;cases hA:R3[i]
                 . cases hs:step t (j4 t)[i] k with
                   |none=>
                    simp only[a1u,hs]at hstep;simp[hk,hiR3,hA,hi];refine l7 hstep ?_;simp[hwk];refine hK4 (k+1,R3,V3,g3) _ _ i9 ?_;simp;refine⟨i9,p2,fun e=>⟨(p3 e).1,(p3 e).2.1,fun h1 h2 k' s' n hk' h3 h4=>?_⟩,p4⟩;by_cases h5:k'<k
                    . exact(p3 e).2.2 h1 h2 k' s' n h5 h3 h4
                    . grind
                   |some s'=>
                    obtain⟨n,hn1,hn2⟩:=a0H ht (W7 ht (B7 hi) hs);have hix:=a9u (j4 t) s' i9;rw[hn1]at hix;have hnl:n<N.length:=(by grind);simp only[a1u,hs]at hstep;cases hb:N[n]
                    . simp[hk,hiR3,hA,hi];refine l7 hstep ?_;simp;refine l7 hix ?_;simp[hnl,hb,hwk];refine hK4 (k+1,R3,V3,g3) _ _ i9 ?_;simp;refine⟨i9,p2,fun e=>⟨(p3 e).1,(p3 e).2.1,fun h1 h2 k' s2 n2 hk' h3 h4=>?_⟩,p4⟩;by_cases h5:k'<k
                      . exact(p3 e).2.2 h1 h2 k' s2 n2 h5 h3 h4
                      . grind
                    . have p2':=p2.put r1.ar hi (by grind) hs hn1 (by grind);have hcs:=b0h (A:=R3) (i:=i) (by grind);have e1:(R3.map B).set i (.bool true)=(R3.set i true).map B:=(by rw[J8]);have e2:(R3.set i true).length=R3.length:=k7;have e3:(V3.map I).set i (IN k)=(V3.set i (k:Int)).map I:=(by rw[J8]);have e4:(V3.set i (k:Int)).length=V3.length:=k7;obtain⟨R4,hR4'⟩:∃R4,R3.set i true=R4:=⟨_,rfl⟩
                      obtain⟨V4,hV4⟩:∃V4,V3.set i (k:Int)=V4:=⟨_,rfl⟩
                      rw[hR4']at e1 e2 p2' hcs;rw[hV4]at e3 e4 p2';simp[hk,hiR3,hA,hi];refine l7 hstep ?_;simp;refine l7 hix ?_;simp[hnl,hb,hwk,hiR3,hiV3,e1,e3];refine hK4 (k+1,R4,V4,true) _ _ i9 ?_;simp[e2,e4]
                      grind
                 . simp[hk,hiR3,hA];refine hexit fun e=>?_;obtain⟨h1,_,_⟩:=p3 e;intro _ hf
                   grind
               . obtain rfl:k=t.rules.length:=i9;simp
                 grind
           . obtain rfl:i=(j4 t).length:=i9;simp;refine hX3 _ _ _ ?_;simp;refine hK2 (R,V,g,q+1) _ _ ?_ ?_
             . dsimp only;cases g
               all_goals grind
             . simp;refine⟨q2.done r1,fun e i=>?_,by
                simp at r3;cases g
                . rw[(q3 rfl).1];simp;omega
                . have:=q4 rfl;simp;omega⟩
               obtain⟨h1,h2⟩:=q3 e;rw[h1];by_cases hi:i<(j4 t).length
               . exact h2 i hi
               . exact fun h=>absurd h hi
structure b4n(t:j9)(p:List Nat):Prop where
 run:∃s,D8 t start p=some s∧B6 t s=true
 len:p.length≤5000
theorem a7O{t:j9}{n:Nat}{s:State}(h:(j4 t)[n]?=some s):(L4 t)[n]?=some true↔Live t s:=by
 classical
 simp only[L4,H5,h,a2U,p9,decide_eq_true_eq]
theorem c7a(t:j9):(L4 t).length=(j4 t).length:=by simp[L4]
open Classical in
noncomputable def a3h(t:j9)(s:State)(k:Nat):Bool:=match step t s k with
 |some nx=>decide (Live t nx)
 |none=>false
noncomputable def a0K(t:j9)(s:State)(k:Nat):List Nat:=(List.range k).filter (a3h t s)
theorem c5F(t:j9)(s:State)(k:Nat):a0K t s (k+1)=if a3h t s k then a0K t s k++[k]else a0K t s k:=by unfold a0K;rw[a2F,b1P,List.filter_cons,List.filter_nil];split<;>simp
theorem b7P(t:j9)(s:State)(k:Nat):(a0K t s k).length≤k:=by have:=List.length_filter_le (a3h t s) (List.range k);simpa[a0K]using this
theorem b7h(t:j9)(ht:s5 t)(l:List Nat)(hl:l.length≤9223372036854775807)(hl8:∀x∈l,x<256):
 ∃p b,(b=true→b4n t p)∧(b=false→p=[]∧¬Live t start)∧F0 14 [1,0] [TP t,CL l] (.tup [.uslc (p.map IN),B b]):=by
 suffices hh:∃r,(∃(p:List Nat) (b:Bool),(b=true→b4n t p)∧(b=false→p=[]∧¬Live t start)∧r=.tup [.uslc (p.map IN),B b])∧F0 14 [1,0] [TP t,CL l] r by obtain⟨r,⟨p,b,h1,h2,rfl⟩,h3⟩:=hh;exact⟨p,b,h1,h2,h3⟩
 refine a2x mixed (X:=X14) c14 20 (by simp[X14]) (by kernel_rfl) fun Q hR hN=>?_;obtain⟨W,hW,hhome⟩:=c3Y t ht;have hle:=a1g ht;have h64:=ht.l64;have hpos:=a1X ht;have hroot:=a1T ht;have hal:=c7a t;have hWl:=hW.wl;have h0:0<(L4 t).length:=i9;have hlive0:(L4 t)[0]=true↔Live t start:=by have:=a7O hroot;rw[l9 h0,p9]at this;exact this
 simp[X14];refine l7 (b3a t ht) ?_;simp;refine l7 (c1v t ht) ?_;simp;refine l7 hhome ?_;simp[h0];cases hb:(L4 t)[0]
 . simp;refine hR _ _ _ ⟨[],false,k7,(fun _=>⟨rfl,fun h=>by rw[hlive0.2 h]at hb;cases hb⟩),rfl⟩ ?_;simp[X14]
 . have hL0:=hlive0.1 hb;simp;refine l7 b3C ?_;simp;refine I2 (fun(x:Nat×List Nat×State×Nat) vs h=>x.1≤10∧x.1≤l.length∧x.2.1.length=x.1∧D8 t start x.2.1=some x.2.2.1∧Live t x.2.2.1∧x.2.2.2≤4*x.1∧
    vs=[.uu,CL l,.ptr 15 1 0,.uu,.uu,.slc (F4 (j4 t)),.slc ((L4 t).map B),.slc (W.map I),.own 16 1 x.2.1.length 1 0 x.2.1.length,.ptr 17 1 0,IN x.2.2.2,IN x.1,.uu,.uu,.uu,.uu,.uu,.uu,.uu,.uu,.uu,.uu,.uu,.uu]∧
    h=[dd,dd,dd,dd,dd,dd,dd,dd,dd,dd,dd,dd,dd,dd,dd,(1,.var [IN t.modes,UN t.accept,.slc (t.rules.map RP)]),(1,.arr 1 0 false (x.2.1.map IN)),(1,.var [IN x.2.2.1.mode,IN x.2.2.1.last,UN x.2.2.1.need]),dd,dd]) (fun x=>10-x.1) (0,[],start,0) ?_ ?_
   . simp;exact⟨rfl,hL0⟩
   . rintro⟨i,p,s,size⟩ vs h ⟨g1,g2,g3,g4,g5,g6,rfl,rfl⟩ Q' hK hX hR';dsimp only at g1 g2 g3 g4 g5 g6;have hsm:=b3k ht (C8 hroot) g4;have hsv:=a3o ht hsm;have hend:∀x12 x13 x19 x20 x22 r18,Q' (.exit 0) [.uu,CL l,.ptr 15 1 0,.uu,.uu,.slc (F4 (j4 t)),.slc ((L4 t).map B),.slc (W.map I),.own 16 1 p.length 1 0 p.length,.ptr 17 1 0,IN size,IN i,x12,x13,.uu,.uu,.uu,.uu,.uu,x19,x20,.uu,x22,.uu]
      [dd,dd,dd,dd,dd,dd,dd,dd,dd,dd,dd,dd,dd,dd,dd,(1,.var [IN t.modes,UN t.accept,.slc (t.rules.map RP)]),(1,.arr 1 0 false (p.map IN)),(1,.var [IN s.mode,IN s.last,UN s.need]),r18,dd]:=fun x12 x13 x19 x20 x22 r18=>by
      refine hX _ _ _ ?_;obtain⟨d,hd⟩:=hW.d;obtain⟨n0,m1,m2⟩:=a0H ht hsm;have hd0:=(hd n0 ((a7O m2).2 g5)).1;simp;refine I2 (fun(x:List Nat×State) vs h=>D8 t start x.1=some x.2∧Live t x.2∧x.1.length+d (((j4 t).idxOf? x.2).getD 0)≤3083∧
       vs=[.uu,.uu,.ptr 15 1 0,.uu,.uu,.slc (F4 (j4 t)),.uu,.slc (W.map I),.own 16 1 x.1.length 1 0 x.1.length,.ptr 17 1 0,.uu,.uu,.uu,.uu,.uu,.uu,.uu,.uu,.uu,.uu,.uu,.uu,.uu,.uu]∧
       h=[dd,dd,dd,dd,dd,dd,dd,dd,dd,dd,dd,dd,dd,dd,dd,(1,.var [IN t.modes,UN t.accept,.slc (t.rules.map RP)]),(1,.arr 1 0 false (x.1.map IN)),(1,.var [IN x.2.mode,IN x.2.last,UN x.2.need]),dd,dd]) (fun x=>d (((j4 t).idxOf? x.2).getD 0)) (p,s) ?_ ?_
      . simp[m1];exact⟨g4,g5,i9⟩
      . rintro⟨p2,s2⟩ vs h ⟨q1,q2,q3,rfl,rfl⟩ Q2 hK2 hX2 hR2;dsimp only at q1 q2 q3;have hsm2:=b3k ht (C8 hroot) q1;have hsv2:=a3o ht hsm2;have hac:=b1J t s2 ht.ok hsv2.ok;obtain⟨n,n1,n2⟩:=a0H ht hsm2;have hix:=a9u (j4 t) s2 i9;rw[n1]at hix q3;simp only[a4I]at q3;cases ha:B6 t s2
        . rw[ha]at hac;obtain⟨_,hdn⟩:=hd n ((a7O n2).2 q2);rcases hdn with⟨s3,h3,h4⟩|⟨n3,⟨s3,k,s4,a1,a2,a3,a4,a5⟩,hlt⟩
          . grind
          . rw[n2]at a1;cases a1;obtain⟨b1,b2⟩:=c0a a4;have hlive:=(a7O (l9 b1)).1 a5;rw[b2]at hlive;have hnW:n<W.length:=(B4.1 a2).1;have hWn:W[n]=(k:Int):=(by grind);have hst:=a5V t s2 k ht.ok hsv2.ok (by have:=a2o a3;omega);simp only[a1u,a3]at hst;obtain⟨p3,hp3⟩:=ex1 (p2++[k]);have e1:p2.map IN++[IN k]=p3.map IN:=(by rw[←hp3];simp);have e2:p2.length+1=p3.length:=(by rw[←hp3];simp);have e3:p3.length*8≤140737488355328:=i9;have e4:D8 t start p3=some s4:=(by rw[←hp3,a4o,q1];simp[D8,a3]);simp;refine l7 hac ?_;simp;refine l7 hix ?_;simp[hnW,hWn,e1,e2,e3];refine l7 hst ?_;simp;refine hK2 (p3,s4) _ _ (by grind) ?_;simp[a4];exact⟨e4,hlive,i9⟩
        . rw[ha]at hac;simp;refine l7 hac ?_;simp;refine hX2 _ _ _ ?_;simp;refine hR _ _ _ ⟨p2,true,fun _=>⟨⟨s2,q1,ha⟩,i9⟩,k7,rfl⟩ ?_;simp[X14]
     by_cases hi:i<l.length
     . by_cases h10:i<10
       . by_cases hsz:size≤10
         . have hwi:=wk1 i i9;simp[hi,h10,hsz];refine I2 (fun(k:Nat) vs h=>k≤t.rules.length∧
            vs=[.uu,CL l,.ptr 15 1 0,.uu,.uu,.slc (F4 (j4 t)),.slc ((L4 t).map B),.slc (W.map I),.own 16 1 p.length 1 0 p.length,.ptr 17 1 0,IN size,IN i,.own 18 1 (a0K t s k).length 1 0 (a0K t s k).length,IN k,.uu,.uu,.uu,.uu,.uu,.uu,.uu,.uu,.uu,.uu]∧
            h=[dd,dd,dd,dd,dd,dd,dd,dd,dd,dd,dd,dd,dd,dd,dd,(1,.var [IN t.modes,UN t.accept,.slc (t.rules.map RP)]),(1,.arr 1 0 false (p.map IN)),(1,.var [IN s.mode,IN s.last,UN s.need]),(1,.arr 1 0 false ((a0K t s k).map IN)),dd]) (fun k=>t.rules.length-k) 0 ?_ ?_
           . simp[a0K]
           . rintro k vs h ⟨q1,rfl,rfl⟩ Q2 hK2 hX2 hR2;by_cases hk:k<t.rules.length
             . have hwk:=wk1 k i9;have hst:=a5V t s k ht.ok hsv.ok i9;have hsu:=c5F t s k;have hfl:=b7P t s k;cases hs:step t s k with
               |none=>
                have hf:a3h t s k=false:=(by simp[a3h,hs]);rw[if_neg (by simp[hf])]at hsu;simp only[a1u,hs]at hst;simp[hk];refine l7 hst ?_;simp[hwk];refine hK2 (k+1) _ _ i9 ?_;simp[hsu];omega
               |some nx=>
                obtain⟨n,n1,n2⟩:=a0H ht (W7 ht hsm hs);have hix:=a9u (j4 t) nx i9;rw[n1]at hix;have hnA:n<(L4 t).length:=(by grind);have haf:=a7O n2;rw[l9 hnA,p9]at haf;simp only[a1u,hs]at hst;cases hb2:(L4 t)[n]
                . have hf:a3h t s k=false:=by
                   simp only[a3h,hs,decide_eq_false_iff_not];intro h;rw[haf.2 h]at hb2;cases hb2
                  rw[if_neg (by simp[hf])]at hsu;simp[hk];refine l7 hst ?_;simp;refine l7 hix ?_;simp[hwk,hnA,hb2];refine hK2 (k+1) _ _ i9 ?_;simp[hsu];omega
                . have hf:a3h t s k=true:=by
                   simp only[a3h,hs,decide_eq_true_eq];exact haf.1 hb2
                  rw[if_pos hf]at hsu;have e1:(a0K t s k).map IN++[IN k]=(a0K t s (k+1)).map IN:=(by rw[hsu];simp);have e2:(a0K t s k).length+1=(a0K t s (k+1)).length:=(by rw[hsu];simp);have e3:(a0K t s (k+1)).length*8≤140737488355328:=i9;simp[hk];refine l7 hst ?_;simp;refine l7 hix ?_;simp[hwk,hnA,hb2,e1,e2,e3];refine hK2 (k+1) _ _ i9 ?_;simp;omega
             . obtain rfl:k=t.rules.length:=i9;simp;refine hX2 _ _ _ ?_;cases hfit:a0K t s t.rules.length with
               |nil=>
                simp;exact hend _ _ _ _ _ _
               |cons f0 fl=>
                rw[←hfit];have hfl0:0<(a0K t s t.rules.length).length:=(by rw[hfit];simp);have hx:=hl8 _ (B7 hi);have hwx:IntKind.i64.wrap (l[i]:Int)=(l[i]:Int):=O5;have htm:((l[i]:Int)).tmod ((a0K t s t.rules.length).length:Int)=((l[i]%(a0K t s t.rules.length).length:Nat):Int):=rfl;have hml:=Nat.mod_lt l[i] hfl0;have hfle:=b7P t s t.rules.length;obtain⟨fit,hF⟩:=ex1 (a0K t s t.rules.length);rw[hF]at hfl0 htm hml hfle⊢;have hne:¬fit=[]:=fun e=>(by rw[e]at hfl0;simp at hfl0);have hne':¬fit.length=0:=i9;obtain⟨m,hm⟩:=ex1 (l[i]%fit.length);rw[hm]at hml htm;obtain⟨y,hy⟩:=ex1 (fit[m]);have hym:y∈fit:=(by grind);have hfy:a3h t s y=true:=by rw[←hF]at hym;exact(a7J.1 hym).2
                obtain⟨s2,hs2,hlv⟩:∃s2,step t s y=some s2∧Live t s2:=by
                 cases hsy:step t s y with
                 |none=>simp[a3h,hsy]at hfy
                 |some s2=>exact⟨s2,rfl,by simpa[a3h,hsy]using hfy⟩
                obtain⟨hyr,hyg⟩:=b2N hs2;have hst:=a5V t s y ht.ok hsv.ok i9;simp only[a1u,hs2]at hst;have hp4:=(ht.snd (B7 hyr)).p4;have hwz:IntKind.i64.wrap ((size:Int)+(t.rules[y].print.length:Nat))=((size+t.rules[y].print.length:Nat):Int):=O5;obtain⟨p3,hp3⟩:=ex1 (p++[y]);have e1:p.map IN++[IN y]=p3.map IN:=(by rw[←hp3];simp);have e2:p.length+1=p3.length:=(by rw[←hp3];simp);have e3:p3.length*8≤140737488355328:=i9;have e4:D8 t start p3=some s2:=(by rw[←hp3,a4o,g4];simp[D8,hs2]);simp[hne,hne',hi,hwx,htm,hml,hy,e1,e2,e3,hyr,hwz];refine l7 hst ?_;simp[hwi];refine hK (i+1,p3,s2,size+t.rules[y].print.length) _ _ i9 ?_;simp;exact⟨i9,i9,i9,e4,hlv,i9⟩
         . simp[hi,h10,hsz];exact hend _ _ _ _ _ _
       . simp[hi,h10];exact hend _ _ _ _ _ _
     . simp[hi];exact hend _ _ _ _ _ _
set_option maxHeartbeats 8000000
theorem c9I(t:j9)(ht:s5 t)(p:List Nat)(s:State)(hp:p.length≤1000000)(hr:D8 t start p=some s):F0 34 [0,1,0,0,0,0,0] [TP t,.slc (p.map IN)] (TrP (F5 t p) (A9 t p) p.length s (B6 t s)):=by
 refine E7 c34 11 (by simp[X34]) fun Q hR hN=>?_;simp[X34];refine l7 b3C ?_;simp;refine I2 (fun(x:Nat×State) vs h=>x.1≤p.length∧D8 t start (p.take x.1)=some x.2∧
  vs=[.uu,.slc (p.map IN),.ptr 5 1 0,.ptr 6 1 0,.ptr 7 1 0,IN x.1,.uu,.uu,.uu,.uu]∧
  h=[dd,dd,dd,dd,dd,(1,.var [IN t.modes,UN t.accept,.slc (t.rules.map RP)]),(1,.var [St [],.nils,I 0,I 0,I 0,U 0,B false]),(1,.var [St (F5 t (p.take x.1)),.own 8 1 (A9 t (p.take x.1)).length 1 0 (A9 t (p.take x.1)).length,IN x.1,IN x.2.mode,IN x.2.last,UN x.2.need,B false]),(1,.arr 1 0 false ((A9 t (p.take x.1)).map UN)),dd,dd])
  (fun x=>p.length-x.1) (0,start) ?_ ?_
 . simp[F5,A9,D8]
 . rintro⟨i,si⟩ vs h ⟨g1,g2,rfl,rfl⟩ Q' hK hX hR';dsimp only at g1 g2;by_cases hi:i<p.length
   . have hw:=wk1 i i9;obtain⟨sj,h1,h2⟩:=b5B hr (i+1);have hpi:p.take (i+1)=p.take i++[p[i]]:=(by rw[J2,l9 hi];rfl);have hstep:step t si p[i]=some sj:=by
      rw[hpi,a4o,g2]at h1;simp only[a5e,D8]at h1;obtain⟨s2,h3,h4⟩:=V1.1 h1;cases h4;exact h3
     obtain⟨hrl,hrg⟩:=b2N hstep;have hsv:a1x si:=a7T ht a7Y g2;have hst:=a5V t si p[i] ht.ok hsv.ok (by have:=ht.l64;omega);simp only[a1u,hstep]at hst;have et:F5 t (p.take (i+1))=F5 t (p.take i)++t.rules[p[i]].print:=(by rw[hpi,b0W];simp only[F5,a2C,a9A,a0E,hrg]);have ec:A9 t (p.take (i+1))=A9 t (p.take i)++t.rules[p[i]].cells:=(by rw[hpi,a7a];simp only[A9,a2C,a9A,a0E,hrg]);have bt:=b0K ht (p.take (i+1));have bc:=a7U ht (p.take (i+1));simp only[a1G]at bt bc;obtain⟨T2,hT2⟩:=ex1 (F5 t (p.take (i+1)));obtain⟨C2,hC2⟩:=ex1 (A9 t (p.take (i+1)));rw[hT2]at et bt;rw[hC2]at ec bc;have e2:(F5 t (p.take i)).length+t.rules[p[i]].print.length=T2.length:=(by grind);have e3:(A9 t (p.take i)).map UN++t.rules[p[i]].cells.map UN=C2.map UN:=(by grind);have e4:(A9 t (p.take i)).length+t.rules[p[i]].cells.length=C2.length:=(by grind);have b1:¬9223372036854775807<T2.length:=i9;have b2:C2.length≤140737488355328:=i9;simp[hi];refine l7 hst ?_;simp[hi,hw,hrl,e2,e3,e4,b1,b2,←et];refine hK (i+1,sj) _ _ i9 ?_;simp[hT2,hC2,h1];omega
   . obtain rfl:i=p.length:=i9;simp;refine hX _ _ _ ?_;rw[J7]at g2;rw[hr]at g2;cases g2;have hsv:a1x s:=a7T ht a7Y hr;have hac:=b1J t s ht.ok hsv.ok;simp;refine l7 hac ?_;simp;refine hR _ _ ?_;simp[X34]
theorem c7U(t:j9)(ht:s5 t)(l:List Nat)(hl:l.length≤9223372036854775807)(hl8:∀x∈l,x<256):
 ∃p b,(b=true→b4n t p)∧(b=false→p=[]∧¬Live t start)∧F0 10 [0,0] [TP t,CL l] (.tup [St (F5 t p),B b]):=by
 obtain⟨p,b,h1,h2,h3⟩:=b7h t ht l hl hl8;refine⟨p,b,h1,h2,?_⟩;have hrun:∃s,D8 t start p=some s∧p.length≤1000000:=by
  cases b
  . rw[(h2 rfl).1];exact⟨start,rfl,k7⟩
  . obtain⟨s,h4,_⟩:=(h1 rfl).run;exact⟨s,h4,by have:=(h1 rfl).len;omega⟩
 obtain⟨s,h4,h5⟩:=hrun;have hrr:=c9I t ht p s h5 h4;refine E7 c10 3 (by simp[X10]) fun Q hR hN=>?_;simp[X10];refine l7 h3 ?_;simp;refine l7 hrr ?_;simp;refine hR _ _ ?_;simp[X10]
section
variable{t:j9}{s:State}{k:Nat}
def P7(t:j9)(s:State):Nat:=((j4 t).idxOf? s).getD 0
def a0p(t:j9)(s:State)(n:Nat):List (Nat×Nat):=(List.range n).filterMap fun k=>(step t s k).map fun s'=>(k,P7 t s')
def C0(t:j9):List (List (Nat×Nat)):=(j4 t).map fun s=>a0p t s t.rules.length
def U7(t:j9)(k j:Nat):List (List (Nat×Nat)):=(List.range (j4 t).length).map fun i=>if i<k then a0p t ((j4 t).getD i B9) t.rules.length else if i=k then a0p t ((j4 t).getD i B9) j else []
theorem b8e(t:j9)(s:State):a0p t s 0=[]:=rfl
theorem c0y(t:j9)(s:State)(n:Nat):a0p t s (n+1)=a0p t s n++((step t s n).map fun s'=>(n,P7 t s')).toList:=by unfold a0p;rw[a2F,b4J];cases h:step t s n<;>simp[h]
theorem b0Z(t:j9)(s:State)(n:Nat):(a0p t s n).length≤n:=by have:=List.length_filterMap_le (fun k=>(step t s k).map fun s'=>(k,P7 t s')) (List.range n);simpa[a0p]using this
theorem b3F(t:j9)(k j:Nat):(U7 t k j).length=(j4 t).length:=by simp[U7]
theorem c1Z(t:j9):U7 t 0 0=List.replicate (j4 t).length []:=by refine a7M.2 ⟨b3F t 0 0,fun b hb=>?_⟩;obtain⟨i,_,rfl⟩:=E9.1 hb;simp[b8e]
theorem c8A(t:j9)(k:Nat):U7 t k t.rules.length=U7 t (k+1) 0:=by
 unfold U7;refine L9 fun i _=>?_;by_cases h1:i<k
 . simp[h1,show i<k+1 by omega]
 . by_cases h2:i=k
   . subst h2;simp
   . simp[h1,h2,show¬i<k+1 by omega,b8e]
theorem b7s(t:j9):U7 t (j4 t).length 0=C0 t:=by
 apply a0t (by simp[U7,C0]);intro i h1 h2;have h3:i<(j4 t).length:=by simpa[C0]using h2
 simp[U7,C0,h3]
theorem c0E(hk:k<(j4 t).length)(j:Nat):(U7 t k j)[k]'(by rw[b3F];exact hk)=a0p t (j4 t)[k] j:=by simp[U7,hk]
theorem b5y(hk:k<(j4 t).length)(j:Nat):U7 t k (j+1)=(U7 t k j).set k (a0p t (j4 t)[k] (j+1)):=by
 apply a0t (by simp[U7]);intro i h1 h2;have h3:i<(j4 t).length:=by simpa[U7]using h1
 rw[a4a];by_cases h:i=k
 . subst h;simp[U7,h3]
 . have h':¬k=i:=fun e=>h e.symm;simp[U7,h,h']
theorem c9j(hk:k<(j4 t).length){j:Nat}(h:step t (j4 t)[k] j=none):U7 t k (j+1)=U7 t k j:=by rw[b5y hk,c0y,h,←c0E hk j];simp
theorem c8x{L:List State}(h:s∉L):L.idxOf? s=none:=a2j.2 h
theorem b2o{L:List State}(hn:L.Nodup){i:Nat}(hi:i<L.length):(L.take i).idxOf? L[i]=none:=by
 refine c8x fun hm=>?_;obtain⟨j,hj,he⟩:=a1F hm;rw[List.getElem_take]at he;have hj':j<i:=by simp at hj;omega
 exact a5N.1 (a5O.1 hn) j i i9 hi hj' he
theorem a8N(h:s∈j4 t):(j4 t).idxOf? s=some (P7 t s):=by
 unfold P7;cases hx:(j4 t).idxOf? s with
 |none=>exact absurd h (a2j.1 hx)
 |some n=>rfl
theorem a3l(h:s∈j4 t):P7 t s<(j4 t).length:=by have:=a8N h;obtain⟨h1,_⟩:=a1V.1 this;exact h1
theorem b9U(h:s∈j4 t):(j4 t)[P7 t s]?=some s:=by have:=a8N h;obtain⟨h1,h2,_⟩:=a1V.1 this;rw[l9 h1];simpa using h2
end
def X37:A0:=
 ⟨100,[0,1,2,4,5,6,7,8,9,10,11,12,13,33,34,35,36,56,57,58,59,65,66,67,76],15,[(3,none)],sq [.reg [I0 2 4 0,odn 3],.reg [⟨.load true 3 (.v 2),none,none,[5,6]⟩,obs 1 5 6,obx 3 2 6,⟨.call 71 [.l 2] [(5,3)] false,none,none,[6]⟩,N1 1 5,⟨.len true (.l 4),none,none,[5]⟩,⟨.bin .add false (.l 5) (oi 1),none,none,[5]⟩,⟨.makeSlice 6 2 48 (.agg [.nils,.nils]) (.l 6) (.l 6),none,none,[5]⟩,oq (.build [.int .i64 0,.int .u8 0,.nils,.str ⟨#[]⟩,.nils,.nils,.nils,.int .i64 0] [(0,3,.l 0),(3,1,.l 1),(4,1,.l 3),(6,1,.l 7)]),oq (.box 7 (.l 8)),oc 4 9],.reg [oa 4,D5 0,ou 4 1,ob 1 2,ox 3,oq (.makeMap 8 (some (.l 4))),oc 5 5],sq [.reg [oa 4,D5 0,ou 4 1,Z2 13 1 2,N0 14 3,oy 15 0],.block 0 (.loop (sq [kh 16 15 14,C4 16 0,.block 1 (sq [.reg [oa 15,N4 3 13 15,J0 3 1,oak 7 9 0 0 0,oc 6 0,ol 3 3 2],.reg [oa 5,ok 3 7,oa 6,odt 46 0 1 2]]),kc 15 1 15 0]))],.reg [oa 4,oa 4,D5 1,ou 4 2,ob 1 3,ox 4,oq (.makeSlice 10 1 24 .nils (.l 5) (.l 5)),D5 0,ou 5 7,ol 1 8 6],sq [.reg [oa 4,D5 0,ou 4 1,Z2 17 1 2,N0 18 3,oy 19 0],.block 2 (.loop (sq [kh 20 19 18,C4 20 2,.block 3 (sq [.reg [oa 19,N4 3 17 19,J0 3 1,oak 9 11 0 0 0,oc 8 0,ol 3 3 2],.reg [oe 2 2,ob 1 0,N0 21 1,oy 22 0],.block 4 (.loop (sq [kh 23 22 21,C4 23 4,.block 5 (sq [kf 22 10 0,.reg [ok 3 2,ok 3 9,oa 10,odl 50 0 1 2 0 0 0 0 0 0 0 0,oo 3,oz 4 0,oz 4 1,oak 11 12 0 0 0,ol 3 7 5,oc 12 6],.reg [odh 24 12],.cond (.v 24) (.G4 8 none 30022 0 (.reg [obs 4 13 14,odu 0 13 14,ocj 5 1 13 14,oey 1 2 13 14,obs 8 13 14,N1 4 13,odo 5 13,ocr 5 6 13,T5 1 7 13,N1 8 13,obo 1 8 9 13,T5 1 10 13,oa 10,oa 5,ok 3 11,oq (.lookup 46 false (.int .i64 0) (.l 13) (.l 14)),off 0 0 0 1 12 1 1 15,oq (.mkarr 13 2 [.agg [.int .i64 0,.int .i64 0]] [(0,.l 16)]),I7 14 2 16 1 11 17,ot 1 3 4,ol 1 19 18])) kd]),kc 22 1 22 0]))]),kc 19 1 19 0]))],.G6 [(10,true),(5,true)] (kf 4 3 0),ko]⟩
def X72:A0:=
 ⟨37,[0,1,2,3,6,15],21,[],sq [.reg [oa 0,ofk 0 5,oex 5 1 2 1,ob 1 2,oc 4 3],.reg [oa 4,oa 1,ot 1 0 1,ob 1 2,obb 5 3],.cond (.v 5) (sq [.reg [oa 4,oa 1,ot 1 0 1,oea 1 2],.G4 0 none 52014 0 (.reg [⟨.loadV false 1 (.v 3),none,none,[19,20]⟩,odu 0 19 20,ocj 6 1 19 20,oey 1 2 19 20,obs 0 19 20,ody 1 3 19,odo 5 19,ocr 6 6 19,T5 1 7 19,N1 0 19,obo 2 8 9 19,ocr 0 10 19,T5 1 11 19,oa 1,och 19 1 0 0 13,I7 20 1 8 1 12 14,ot 2 3 4,ou 0 16,ol 1 17 15])]) kd]⟩
def X38:A0:=
 ⟨131,[0,1,2,3,4,5,6,7,8,10,11,12,13,14,32,33,34,42,60,85,96,97,98,99,110],19,[],sq [.reg [I0 1 15 0],.reg [ow 2 (.allocA 16 [.slc [],.slc [],.slc [],.slc [],.slc []])],sq [kl 12 0,.block 0 (.loop (sq [.reg [ow 13 (.bin .lss false (.v 12) (oi 5))],C4 13 0,.block 1 (sq [kf 12 3 0,.reg [oa 3,F6 1 1,D5 1,ou 4 2,ob 1 3,ox 4,oq (.makeSlice 17 1 1 (.bool false) (.l 5) (.l 5)),oex 5 1 2 0,ol 1 7 6]]),kc 12 1 12 0]))],.reg [oq (.mkfn (.func 72) [] [.v 2,.v 1]),oc 4 0],.reg [oa 4,oq (.cally (.l 0) [oi 0,oi 0])],.reg [F6 1 1,D5 0,ou 6 1,ob 1 2,N0 14 3,oy 15 0],.block 2 (.loop (sq [kh 16 15 14,C4 16 2,.block 3 (sq [kf 15 5 0,kl 6 0,sq [.reg [oa 5,F6 1 1,D5 1,ou 3 2,ob 1 3,obr 4,oaw 17 0 5],.cond (.v 17) (.reg [F6 1 1,D5 0,ou 3 1,ob 1 2,oa 5,ofb 3 4,W4 73 5 0 0,oc 6 6]) kd],sq [kl 7 0,.block 4 (.loop (sq [sq [.reg [oa 7,F6 1 1,D5 1,ou 6 2,ob 1 3,oa 5,ot 2 4 5,ou 0 6,ob 1 7,ox 8,oaw 18 0 9],C4 18 4],.block 5 (sq [.reg [F6 1 1,D5 0,ou 6 1,ob 1 2,oa 5,ot 2 3 4,ou 0 5,ob 1 6,oa 7,ot 1 7 8,ob 1 9,oc 8 10],sq [.reg [F6 1 1,D5 0,ou 4 1,ob 1 2,oa 8,ot 3 3 4,ou 2 5,ob 1 6,oa 6,oq (.bin .shr false (.l 7) (.l 8)),occ 9 1,oem 19 10 1],.cond (.v 19) (.reg [F6 1 1,oa 5,D5 0,ou 7 2,ol 1 3 1]) kd],.reg [F6 1 1,D5 0,ou 5 1,ob 1 2,oa 8,ot 1 3 4,Z2 20 1 5,N0 21 6,oy 22 0],.block 6 (.loop (sq [kh 23 22 21,C4 23 6,.block 7 (sq [.reg [N4 2 20 22,J0 2 0,odp 9 18 0 0,ol 2 2 1],.reg [F6 1 1,oa 5,oe 0 9,ob 1 2,oq (.call 74 [.l 0,.l 1,.l 3] [(0,0),(0,0)] false),oo 4,oz 5 0,oz 5 1,oc 10 6,oc 11 7],.reg [odh 24 11],.cond (.v 24) (.reg [oa 4,oa 10,oe 1 9,ob 1 2,oq (.cally (.l 0) [.l 1,.l 3])]) kd]),kc 22 1 22 0]))]),kg 7 0 1 7 1]))],.G4 5 none 52014 0 (.reg [F6 1 1,D5 0,ou 6 1,ob 1 2,oa 5,ot 2 3 4,ou 0 5,ob 1 6,oce 75 7]),.G4 5 none 52015 0 (.reg [oa 5,ofk 0 5,oex 5 1 2 1,ob 1 2,oq (.clearS (.bool false) (.l 3))])]),kc 15 1 15 0]))]⟩
theorem c37:S0 Tryz.prog 37 4=some {X37 with body:=strip X37.body}:=by kernel_rfl
theorem c72:S0 Tryz.prog 72 19=some {X72 with body:=strip X72.body}:=by kernel_rfl
theorem c38:S0 Tryz.prog 38 15=some {X38 with body:=strip X38.body}:=by kernel_rfl
abbrev ARw(a:Nat×Nat):PV:=.agg [IN a.1,IN a.2]
abbrev FA(l:List (Nat×Nat)):PV:=if l=[]then .nils else .uslc (l.map ARw)
@[simp] theorem d1j:FA []=.nils:=rfl
@[simp] theorem d2z(a:Nat×Nat)(l:List (Nat×Nat)):FA (a::l)=.uslc (ARw a::l.map ARw):=rfl
@[simp] theorem d1M(l:List (Nat×Nat)):List.map (B3∘ARw) l=l.map ARw:=L9 fun _ _=>rfl
abbrev SA(l:List (Nat×Nat)):PV:=.slc (l.map ARw)
def V8(t:j9)(i:Nat):List State:=(j4 t).take i
abbrev TC(t:j9):List PV:=[IN t.modes,UN t.accept,.slc (t.rules.map RP)]
theorem a3L{P:Program}{φ:PV→List (Nat×Row)→Prop}(hm:P.follows .mixedOrders=true){f:FuncId}{off s0:Nat}{X:A0}(hc:S0 P f off=some {X with sites:=s0,body:=strip X.body})(hns:a1W X.body=true){first args cap:List PV}{h0:l5}(hlen:(first++args++cap).length≤X.ntmps)(ho:(first.all one&&cap.all one)=true)
 (hnx:noX X.body=true) (h:∀Q:I9,(∀r ws vs h,φ r ws→P6 X.results r h0 ws vs h→Q .ret vs h)→(∀r ws vs h,φ r ws→P6 X.results r h0 ws vs h→Q .normal vs h)→Xw (fns P) X.body Q (X.vars.map fun s=>(first++args++cap).getD s .uu) h0):∃r ws,φ r ws∧FI P (.fn (.func f) first cap) args h0 r ws:=by
 have hh:=h (fun e vs h=>∃r ws,φ r ws∧b3g X.results r h0 ws e vs h) (fun r ws vs h h1 h2=>⟨r,ws,h1,trivial,h2⟩) (fun r ws vs h h1 h2=>⟨r,ws,h1,trivial,h2⟩);rw[a0L]at hh;obtain⟨e,vs',h',h1,r,ws,h2,h3⟩:=b6b hnx hh;exact⟨r,ws,h2,c0r hm hc hns hlen ho (a5w (fun e v p hx=>by obtain⟨rfl,rfl,rfl⟩:=hx;exact h3) h1)⟩
theorem c5Z(t:j9)(ht:s5 t)(s:By)(hs:s.length≤1100000000)(r0 r1 r2 r3:Row):
 ∃r ws,(∃va R8 R9 R11 R12 R13 R14 g15,r=.ptr 7 1 0∧ws=[(4,(1,.var (TC t))),(5,(1,.arr 3 1 true (F4 (j4 t)))),(6,(1,.arr 2 0 false (List.replicate (s.length+1) (.agg [.nils,.nils])))),
  (7,(1,.var (TC t++[St s,.own 5 1 (j4 t).length 3 0 (j4 t).length,.own 10 1 (j4 t).length 1 0 (j4 t).length,.own 6 1 (s.length+1) 2 0 (s.length+1),I 0]))),
  (8,R8),(9,R9),(10,(1,.arr 1 va true ((C0 t).map SA))),(11,R11),(12,R12),(13,R13),(14,R14),(15,(g15,.dead))])∧
 FI Tryz.prog (.fn (.func 37) [] []) [TP t,St s] [r0,r1,r2,r3,dd,dd,dd,dd,dd,dd,dd,dd,dd,dd,dd,dd,dd,dd,dd,dd,dd,dd,dd,dd,dd,dd,dd] r ws:=by
 have hN:=a1g ht;have hpos:=a1X ht;have b1:(j4 t).length≤140737488355328:=i9;have b2:(j4 t).length≤9223372036854775807:=i9;have q1:0≤(s.length:Int)+1:=i9;have q2:((s.length:Int)+1)*48≤140737488355328:=i9;have q3:(s.length:Int)+1≤9223372036854775807:=i9;have q4:((s.length:Int)+1).toNat=s.length+1:=i9;have hw0:IntKind.i64.wrap ((s.length:Int)+1)=(s.length:Int)+1:=O5;refine a3L mixed (X:=X37) c37 (by rfl) (by simp[X37]) k7 (by kernel_rfl) fun Q hR hN=>?_;simp[X37];refine l7 (b3y t ht) ?_;simp[b1,b2,hw0,q1,q2,q3,q4];refine E3 (fun(p:Nat×PV×PV×PV×Row) vs h=>p.1≤(j4 t).length∧
  vs=[TP t,St s,.ptr 4 1 0,.lit (.pointer none),.ptr 7 1 0,.mapv 8 1,p.2.1,p.2.2.1,.uu,.uu,.uu,.uu,.uu,.own 5 1 (j4 t).length 3 0 (j4 t).length,IN (j4 t).length,IN p.1,p.2.2.2.1,.uu,.uu,.uu,.uu,.uu,.uu,.uu,.uu]∧
  h=[r0,r1,r2,r3,(1,.var (TC t)),(1,.arr 3 0 false (F4 (j4 t))),(1,.arr 2 0 false (List.replicate (s.length+1) (.agg [.nils,.nils]))),(1,.var (TC t++[St s,.own 5 1 (j4 t).length 3 0 (j4 t).length,.nils,.own 6 1 (s.length+1) 2 0 (s.length+1),I 0])),
   (1,.mp false (F4 (V8 t p.1)) ((List.range p.1).map IN)),p.2.2.2.2,dd,dd,dd,dd,dd,dd,dd,dd,dd,dd,dd,dd,dd,dd,dd,dd,dd]) (fun p=>(j4 t).length-p.1) (0,.uu,.uu,.uu,dd) ?_ ?_
 . simp[V8]
 . rintro⟨i,v6,v7,v16,R9⟩ vs h ⟨g1,rfl,rfl⟩ Q' hK hX hR';dsimp only at g1;by_cases hi:i<(j4 t).length
   . have hw:=wk1 i i9;have hf:(V8 t i).idxOf? (j4 t)[i]=none:=b2o (b0Q ht) hi;have e1:F4 (V8 t i)++[.agg [IN (j4 t)[i].mode,IN (j4 t)[i].last,UN (j4 t)[i].need]]=F4 (V8 t (i+1)):=(by rw[show V8 t (i+1)=V8 t i++[(j4 t)[i]]by unfold V8;rw[List.take_append_getElem]];simp);have e3:List.map IN (List.range i)++[IN i]=List.map IN (List.range (i+1)):=(by rw[a2F];simp);simp[hi,hw,hf,e1,e3];exact hK (i+1,_,_,_,_) _ _ i9 ⟨m7,rfl,rfl⟩
   . obtain rfl:i=(j4 t).length:=i9;have b3:((j4 t).length:Int)*24≤140737488355328:=i9;have hall:V8 t (j4 t).length=j4 t:=J7;simp;refine hX _ _ _ ?_;simp[b2,b3,hall];refine E3 (fun(p:Nat×PV×PV×PV×PV×PV×PV×PV×PV×PV×PV×Nat×Row×Row×Nat×Nat×Nat) vs h=>p.1≤(j4 t).length∧
      vs=[TP t,St s,.ptr 4 1 0,.lit (.pointer none),.ptr 7 1 0,.mapv 8 1,v6,v7,p.2.1,p.2.2.1,p.2.2.2.1,p.2.2.2.2.1,p.2.2.2.2.2.1,.own 5 1 (j4 t).length 3 0 (j4 t).length,IN (j4 t).length,IN (j4 t).length,.bool false,.own 5 1 (j4 t).length 3 0 (j4 t).length,IN (j4 t).length,IN p.1,p.2.2.2.2.2.2.1,p.2.2.2.2.2.2.2.1,p.2.2.2.2.2.2.2.2.1,p.2.2.2.2.2.2.2.2.2.1,p.2.2.2.2.2.2.2.2.2.2.1]∧
      h=[r0,r1,r2,r3,(1,.var (TC t)),(1,.arr 3 0 false (F4 (j4 t))),(1,.arr 2 0 false (List.replicate (s.length+1) (.agg [.nils,.nils]))),(1,.var (TC t++[St s,.own 5 1 (j4 t).length 3 0 (j4 t).length,.own 10 1 (j4 t).length 1 0 (j4 t).length,.own 6 1 (s.length+1) 2 0 (s.length+1),I 0])),
       (1,.mp false (F4 (j4 t)) ((List.range (j4 t).length).map IN)),R9,(1,.arr 1 p.2.2.2.2.2.2.2.2.2.2.2.1 false ((U7 t p.1 0).map FA)),p.2.2.2.2.2.2.2.2.2.2.2.2.1,p.2.2.2.2.2.2.2.2.2.2.2.2.2.1,(p.2.2.2.2.2.2.2.2.2.2.2.2.2.2.1,.dead),(p.2.2.2.2.2.2.2.2.2.2.2.2.2.2.2.1,.dead),(p.2.2.2.2.2.2.2.2.2.2.2.2.2.2.2.2,.dead),dd,dd,dd,dd,dd,dd,dd,dd,dd,dd,dd]) (fun p=>(j4 t).length-p.1) (0,.uu,.uu,.uu,.uu,.uu,.uu,.uu,.uu,.uu,.uu,0,dd,dd,0,0,0) ?_ ?_
     . simp[c1Z]
     . rintro⟨k,v8,v9,v10,v11,v12,v20,v21,v22,v23,v24,ver,R11,R12,g13,g14,g15⟩ vs h ⟨g2,rfl,rfl⟩ Q2 hK2 hX2 hR2;dsimp only at g2;by_cases hk:k<(j4 t).length
       . have hwk:=wk1 k i9;simp[hk];refine E3 (fun(p:Nat×PV×PV×PV×PV×PV×Nat×Row×Nat×Nat×Nat) vs h=>p.1≤t.rules.length∧
          vs=[TP t,St s,.ptr 4 1 0,.lit (.pointer none),.ptr 7 1 0,.mapv 8 1,v6,v7,IN k,.ptr 11 (R11.1+1) 0,p.2.1,p.2.2.1,p.2.2.2.1,.own 5 1 (j4 t).length 3 0 (j4 t).length,IN (j4 t).length,IN (j4 t).length,.bool false,.own 5 1 (j4 t).length 3 0 (j4 t).length,IN (j4 t).length,IN k,.bool true,IN t.rules.length,IN p.1,p.2.2.2.2.1,p.2.2.2.2.2.1]∧
          h=[r0,r1,r2,r3,(1,.var (TC t)),(1,.arr 3 0 false (F4 (j4 t))),(1,.arr 2 0 false (List.replicate (s.length+1) (.agg [.nils,.nils]))),(1,.var (TC t++[St s,.own 5 1 (j4 t).length 3 0 (j4 t).length,.own 10 1 (j4 t).length 1 0 (j4 t).length,.own 6 1 (s.length+1) 2 0 (s.length+1),I 0])),
           (1,.mp false (F4 (j4 t)) ((List.range (j4 t).length).map IN)),R9,(1,.arr 1 p.2.2.2.2.2.2.1 false ((U7 t k p.1).map FA)),(R11.1+1,.var [IN (j4 t)[k].mode,IN (j4 t)[k].last,UN (j4 t)[k].need]),p.2.2.2.2.2.2.2.1,(p.2.2.2.2.2.2.2.2.1,.dead),(p.2.2.2.2.2.2.2.2.2.1,.dead),(p.2.2.2.2.2.2.2.2.2.2,.dead),dd,dd,dd,dd,dd,dd,dd,dd,dd,dd,dd]) (fun p=>t.rules.length-p.1) (0,v10,v11,v12,v23,v24,ver,R12,g13,g14,g15) ?_ ?_
         . simp
         . rintro⟨j,v10,v11,v12,v23,v24,ver,R12,g13,g14,g15⟩ vs h ⟨g3,rfl,rfl⟩ Q3 hK3 hX3 hR3;dsimp only at g3;by_cases hj:j<t.rules.length
           . have h64:=ht.l64;have hwj:=wk1 j i9;have hsv:=a3o ht (B7 hk);have hst:=a8J t (j4 t)[k] j ht.ok hsv.ok i9;have hUl:=b3F t k j;simp[hj];refine l7 hst ?_;cases hs:step t (j4 t)[k] j with
             |none=>
              have hU:=c9j hk hs;simp[hwj];exact hK3 (j+1,_,_,_,_,_,_,_,_,_,_) _ _ i9 ⟨m7,rfl,by rw[hU];rfl⟩
             |some nx=>
              have hnx:=W7 ht (B7 hk) hs;have hn:=a8N hnx;have hm:=a3l hnx;have hg:=c0E hk j;have hU:=b5y hk j;rw[c0y,hs]at hU;have hkU:k<(U7 t k j).length:=i9;by_cases hf:a0p t (j4 t)[k] j=[]
              . rw[hf]at hU hg;have hE:FA (U7 t k j)[k]=.nils:=(by rw[hg];rfl);have e6:(List.map FA (U7 t k j)).set k (.uslc [.agg [IN j,IN (P7 t nx)]])=List.map FA (U7 t k (j+1)):=(by rw[hU,J8];rfl);simp[hk,hUl,hwj,hn,hm,hkU,hE,e6,hg];exact hK3 (j+1,_,_,_,_,_,_,_,_,_,_) _ _ i9 ⟨m7,rfl,rfl⟩
              . obtain⟨a,l,hal⟩:=a9D hf;rw[hal]at hU hg;have hE:FA (U7 t k j)[k]=.uslc (ARw a::l.map ARw):=(by rw[hg];rfl);have e6:(List.map FA (U7 t k j)).set k (.uslc (ARw a::(l.map ARw++[.agg [IN j,IN (P7 t nx)]])))=List.map FA (U7 t k (j+1)):=(by rw[hU,J8];simp);have hle:=b0Z t (j4 t)[k] j;rw[hal]at hle;have b4:(l.length+1+1)*16≤140737488355328:=(by grind);simp[hk,hUl,hwj,hn,hm,hkU,hE,e6,hg,b4];exact hK3 (j+1,_,_,_,_,_,_,_,_,_,_) _ _ i9 ⟨m7,rfl,rfl⟩
           . obtain rfl:j=t.rules.length:=i9;simp;refine hX3 _ _ _ ?_;simp[hwk];exact hK2 (k+1,_,_,_,_,_,_,_,_,_,_,_,_,_,_,_,_) _ _ i9 ⟨m7,rfl,by rw[←c8A];rfl⟩
       . obtain rfl:k=(j4 t).length:=i9;have hnr:(∀(x:List (Nat×Nat)),x∈C0 t→D4 (FA x)=true):=fun x _=>(by unfold FA;split<;>rfl);have hfz:List.map (B3∘FA) (C0 t)=(C0 t).map SA:=by
          refine L9 fun l _=>?_;cases l with
          |nil=>rfl
          |cons a l=>simp[B3,M1]
         simp[b7s];refine hX2 _ _ _ ?_;simp[b7s,hnr,hfz];refine hR (.ptr 7 1 0) [(4,(1,.var (TC t))),(5,(1,.arr 3 1 true (F4 (j4 t)))),(6,(1,.arr 2 0 false (List.replicate (s.length+1) (.agg [.nils,.nils])))),
          (7,(1,.var (TC t++[St s,.own 5 1 (j4 t).length 3 0 (j4 t).length,.own 10 1 (j4 t).length 1 0 (j4 t).length,.own 6 1 (s.length+1) 2 0 (s.length+1),I 0]))),
          (8,(1,.mp false (F4 (j4 t)) ((List.range (j4 t).length).map IN))),(9,R9),(10,(1,.arr 1 (ver+1) true ((C0 t).map SA))),(11,R11),(12,R12),(13,(g13,.dead)),(14,(g14,.dead)),(15,(g15,.dead))] _ _ ⟨ver+1,_,R9,R11,R12,_,_,g15,rfl,rfl⟩ ?_
         simp[P6,X37];exact hnr
def X11:A0:=
 ⟨50,[0,1,2,4,5,6,7,8,9,16,22,40],4,[(3,some (true,2)),(4,none),(5,none)],sq [.reg [I0 2 0 0,odv 3 1,oy 4 0,oy 5 0],sq [.reg [oa 1,odk 35 0 0 0 0 0,oo 1,oz 2 0,oz 2 1,oc 6 3,oc 7 4],.reg [oa 7,ow 9 (.bin .neq false (.l 0) (oi 0))],.cond (.v 9) (sq [.reg [oq (.build [.nils,.nils] []),oa 6,oa 7,K7 2 3 0,oc 4 1,oc 5 2],ko]) kd],sq [.reg [ok 3 2,W4 36 0 0 0,obb 10 1],.cond (.v 10) (sq [.reg [oq (.build [.nils,.nils] []),K7 2 3 0,oy 4 0,oy 5 61],ko]) kd],.reg [ok 3 2,oa 1,ocz 37 0 1,oc 8 2],.reg [oa 8,oce 38 0],.reg [oa 8,oce 39 0],sq [.reg [oa 8,D5 0,ou 6 1,ob 1 2,obz 2 3 0,ou 1 4,ob 1 5,obz 1 6 0,ob 1 7,ow 11 (.bin .lss false (.l 8) (oi 0))],.cond (.v 11) (sq [.reg [oq (.build [.nils,.nils] []),oa 8,D5 1,ou 7 2,ob 1 3,oq (.storeN 2 (.v 3) (.l 0) [3]),oc 4 4,oy 5 61],ko]) kd],.reg [oa 8,odk 40 0 2 1 3 1,oa 1,obr 2,K7 2 3 1,oc 4 3,oy 5 0],ko]⟩
def X13:A0:=
 ⟨20,[0,1,2,4,5,7,16],4,[(3,none)],sq [.reg [I0 2 0 0,oy 3 0],.reg [ok 3 2,oa 1,oq (.call 11 [.l 0,.l 1] [(1,1),(2,1),(0,0),(0,0)] false),oo 2,oz 3 0,oz 3 1,oz 3 2,odv 4 3,ol 2 7 4,oo 5,oc 5 6],sq [.reg [oa 5,ow 6 (.bin .neq false (.l 0) (oi 0))],.cond (.v 6) (sq [.reg [odm 3],ko]) kd],.reg [oe 0 4,ob 1 0,ox 1,oc 3 2],ko]⟩
def X40:A0:=
 ⟨93,[0,2,3,4,5,6,8,9,10,11,12,20,27,28,29,30,42,71],6,[(1,some (true,2))],sq [.reg [odv 1 0],.reg [odv 2 1],.G4 2 (some 0) 3 1 (.G4 2 (some 1) 5 1 (sq [.reg [oy 3 0,oy 4 0],kd,sq [.reg [oa 0,D5 0,ou 6 1,ob 1 2,obz 2 3 0,oq (.call 77 [.l 4,oi 0] [(0,0)] false),oc 5 5],.block 0 (.loopS [0,1,2,3,4,5] 6 (sq [sq [.reg [oa 5,odc 11 0 0],C4 11 0],.block 1 (sq [sq [.reg [oa 0,D5 0,ou 5 1,ob 1 2,oa 4,ot 1 3 4,Z2 12 1 5,N0 13 6,oy 14 0],.block 2 (.loopS [0,1,2,3,5,12,13,14] 6 (sq [kh 15 14 13,C4 15 2,.block 3 (sq [.reg [N4 2 12 14,J0 2 0,odp 6 2 0 0,ol 2 2 1],.reg [oa 0,oa 3,oe 0 6,ob 1 2,oq (.call 74 [.l 0,.l 1,.l 3] [(0,0),(0,0)] false),oo 4,oz 5 0,oz 5 1,oc 7 6,oc 8 7],sq [kaa 8 16 0,kan 16 3],.reg [oa 0,D5 0,ou 0 1,ou 2 2,ob 1 3,oe 0 6,ob 1 5,ot 6 4 6,ou 1 7,ob 1 8,oc 9 9],sq [.reg [oa 0,D5 0,ou 6 1,ob 1 2,oa 7,ot 2 3 4,oe 1 6,ob 1 6,Y6 77 5 7 0 0,oc 10 8],.reg [oa 10,ock 0 0,oo 1,N3 10 2,N3 5 2,N3 9 2,obh 5 2,⟨.bin .sub false (.l 4) (.l 6),none,some (.l 2,false),[]⟩,⟨.bin .neq false (.l 3) (.l 7),none,some (.l 2,false),[]⟩,Z8 17 2 8],kan 17 3],.reg [oe 0 2,ob 1 0,oa 9,I7 3 1 1 0 1 2,oe 0 2,ol 1 4 3],.reg [oe 1 2,ob 1 0,oe 0 6,ob 1 2,och 4 1 0 0 3,I7 5 1 8 1 1 4,oe 1 2,ol 1 6 5],.reg [oa 7,oe 1 6,ob 1 1,oa 5,oa 9,ox 4,oq (.bin .sub false (.l 3) (.l 5)),oc 3 0,oc 4 2,oc 5 6],km 1]),kc 14 1 14 0]))],km 0])]))],.reg [ok 2 2,K7 2 1 0],ko]))]⟩
def X74:A0:=
 ⟨30,[0,1,2,6,7,8],0,[(3,none),(4,none)],sq [.reg [oy 3 0,os 4],.reg [oa 0,D5 0,ou 0 1,ou 2 2,ob 1 3,oa 2,ot 6 4 5,ou 0 6,ob 1 7,oc 5 8],.reg [oa 1,oa 5,obr 1,obp 0 2,oa 0,D5 4,ou 3 5,ob 1 6,oa 1,oq (.slice true 0 (.l 7) (some (.l 8)) none none),oa 5,Y6 95 9 10 0 0,oc 3 3,oc 4 11],ko]⟩
def X77:A0:=
 ⟨25,[0,1,4,5,6,17],0,[(2,none)],sq [kl 2 0,.reg [oa 0,D5 0,ou 0 1,ob 1 2,oa 1,ocl 108 3 4 0 0 0 0,oo 5,oz 6 0,oz 6 1,oc 3 7,oc 4 8],sq [kaa 4 5 0,.cond (.v 5) (sq [.reg [odm 2],ko]) kd],.reg [oa 0,D5 0,ou 1 1,ob 1 2,oa 3,ot 1 3 4,ob 1 5,oc 2 6],ko]⟩
def a6q:A0:=
 ⟨54,[0,1,4,5,6,7,8,9,15,27],0,[(2,none),(3,none)],sq [.reg [oy 2 0,os 3],.reg [oa 0,ox 0,oc 4 1],.reg [oa 4,oy 5 0,oc 6 0],.block 0 (.loopS [0,1,4,5,6] 0 (sq [sq [.reg [oa 5,oa 6,oaw 8 0 1],C4 8 0],.block 1 (sq [.reg [oa 5,oa 6,obp 0 1,oq (.conv .u64 (.l 2)),oq (.bin .shr false (.l 3) (.c (.int .u64 1))),oq (.conv .i64 (.l 4)),oc 7 5],.reg [oa 0,oa 7,ot 1 0 1,ob 1 2,oa 1,ow 9 (.call 130 [.l 3,.l 4] [(0,0)] false)],.cond (.v 9) (kg 7 0 1 5 1) (kf 7 6 0)])])),.reg [oa 5,oa 5,oa 4,obv 1 2,oo 3,og 0 4,og 5 4,oas 1 5 6 4,od 1 7 4,og 1 4,oaq 8 9 4,⟨.mv (.l 10),none,some (.l 4,true),[]⟩,N3 0 11,N3 5 11,ocx 1 12 13 11,om 1 14 11,odd 135 15 0 0 11,⟨.mv (.l 16),none,some (.l 11,false),[]⟩,og 1 17,oeo 135 18 0 0 17,oep 17 19 11,oew 11 20 4,oh 4 21,oc 2 0,oc 3 22],ko]⟩
def X95:A0:=
 ⟨8,[0,1,4],0,[(2,none)],sq [kj 2,.reg [oa 0,oa 1,Y6 118 0 1 0 0,oc 2 2],ko]⟩
def a7u:A0:=
 ⟨18,[0,1,4],0,[(2,none)],sq [kj 2,.reg [oa 0,obr 0,oa 1,obr 2,oq (.bin .geq false (.l 1) (.l 3)),oo 4,og 0 5,og 1 5,⟨.len true (.l 7),none,some (.l 5,true),[]⟩,⟨.slice true 0 (.l 6) none (some (.l 8)) none,none,some (.l 5,true),[]⟩,og 1 5,oaq 9 10 5,oh 5 11,oc 2 12],ko]⟩
def b1I:A0:=
 ⟨17,[0,1,4],0,[(2,none)],sq [kj 2,.reg [oa 0,W4 142 0 0 0,oo 1,og 1 2,oeo 142 3 0 0 2,ocs 4 2,oh 2 5,oo 6,N3 0 7,N3 1 7,odq 8 9 7,P5 7 10,oc 2 11],ko]⟩
def b0i:A0:=
 ⟨6,[0,2],0,[(1,none)],sq [kj 1,.reg [oa 0,oa 0,ofi 0 1,oc 1 2],ko]⟩
def b0t:A0:=
 ⟨6,[0,2],0,[(1,none)],sq [kj 1,.reg [oa 0,oa 0,ofi 0 1,oc 1 2],ko]⟩
theorem K4:D0 11 X11:=D3
theorem J6:D0 13 X13:=D3
theorem c40:D0 40 X40:=D3
theorem c74:D0 74 X74:=D3
theorem c77:D0 77 X77:=D3
theorem c108:D0 108 a6q:=D3
theorem c95:D0 95 X95:=D3
theorem c118:D0 118 a7u:=D3
theorem c130:D0 130 b1I:=D3
theorem c142:D0 142 b0i:=D3
theorem c135:D0 135 b0t:=D3
def a5H(kn:List (List Bool))(p s:Nat):List (List Bool):=kn.set (p%5) ((kn.getD (p%5) []).set s true)
def P9(l:List Nat):List Nat:=l.mergeSort fun x y=>decide (x≤y)
theorem a9I(l:List Nat):(P9 l).Perm l:=List.mergeSort_perm l _
theorem c7f{l:List Nat}{x:Nat}:x∈P9 l↔x∈l:=(a9I l).mem_iff
theorem b1L(l:List Nat):(P9 l).length=l.length:=(a9I l).length_eq
theorem c5S{l:List Nat}(h:l.Nodup):(P9 l).Pairwise (· < ·):=by have h1:(P9 l).Pairwise (fun a b=>(decide (a≤b))=true):=List.pairwise_mergeSort (fun a b c=>by simp;omega) (fun a b=>by simp;omega) l;have h2:(P9 l).Nodup:=(a9I l).nodup_iff.2 h;have:=h1.and (a5O.1 h2);exact this.imp fun h=>by have:=h.1;have:=h.2;simp at*;omega
def M6(t:j9)(s:By)(p k:Nat):Bool:=((t.rules.getD k default).print).isPrefixOf (s.drop p)
def A7(t:j9)(k:Nat):Nat:=(t.rules.getD k default).print.length
def Cl(t:j9)(s:By)(i x m:Nat)(a2G:List (List Nat)):Prop:=∀a∈((C0 t).getD x []).take m,M6 t s i a.1=true→a.2∈a2G.getD (i+A7 t a.1) []
structure RI(t:j9)(s:By)(p e:Nat)(a2G:List (List Nat))(kn:List (List Bool)):Prop where
 len:a2G.length=s.length+1
 kl:kn.length=5
 klen:∀q,q<5→(kn.getD q []).length=(j4 t).length
 lt:∀i x,x∈a2G.getD i []→x<(j4 t).length
 nodup:∀i,(a2G.getD i []).Nodup
 win:∀i,p≤i→i<p+5→i≤s.length→∀x,x<(j4 t).length→((kn.getD (i%5) [])[x]?=some true↔x∈a2G.getD i [])
 root:0∈a2G.getD 0 []
 sorted:∀i,i<p→(a2G.getD i []).Pairwise (· < ·)
 done:∀i,i<p→∀x∈a2G.getD i [],Cl t s i x ((C0 t).getD x []).length a2G
 far:∀i,p+4+e≤i→a2G.getD i []=[]
theorem U0{α:Type}(l:List α)(i j:Nat)(a d:α):(l.set i a).getD j d=if j=i∧i<l.length then a else l.getD j d:=by grind
theorem Cl.mono{t:j9}{s:By}{i x m:Nat}{c c':List (List Nat)}(h:∀j y,y∈c.getD j []→y∈c'.getD j [])(hc:Cl t s i x m c):Cl t s i x m c':=fun a ha hg=>h _ _ (hc a ha hg)
theorem b4o(c:List (List Nat))(i x:Nat):∀j y,y∈c.getD j []→y∈(c.set i (c.getD i []++[x])).getD j []:=by grind
theorem RI.add{t:j9}{s:By}{p i x:Nat}{c:List (List Nat)}{kn:List (List Bool)}(h:RI t s p 1 c kn)(h1:p≤i)(h2:i≤p+4)(h3:i≤s.length)(hx:x<(j4 t).length)(hk:(kn.getD (i%5) [])[x]?=some false):
 RI t s p 1 (c.set i (c.getD i []++[x])) (a5H kn i x):=by
 have hil:i<c.length:=by have:=h.len;omega
 have hnot:x∉c.getD i []:=fun hm=>by have:=(h.win i h1 i9 h3 x hx).2 hm;rw[this]at hk;cases hk
 have hq5:i%5<kn.length:=by grind
 refine⟨by simp[h.len],by simp[a5H,h.kl],fun q hq=>?_,fun j y hy=>?_,fun j=>?_,fun j j1 j2 j3 y hy=>?_,b4o c i x 0 0 h.root,fun j hj=>?_,fun j hj y hy=>?_,fun j hj=>?_⟩
 . unfold a5H;rw[U0];split
   . rename_i hh;rw[a2T];exact h.klen _ i9
   . exact h.klen q hq
 . rw[U0]at hy;split at hy
   . rcases G7.1 hy with hy|hy
     . exact h.lt i y hy
     . rw[F7]at hy;omega
   . exact h.lt j y hy
 . rw[U0];split
   . rw[a3Z];refine⟨h.nodup i,k7,fun a ha b hb=>?_⟩;rw[F7]at hb;intro e;subst e;subst hb;exact hnot ha
   . exact h.nodup j
 . unfold a5H;rw[U0,U0];by_cases hj:j=i
   . subst hj;rw[if_pos ⟨rfl,hq5⟩,if_pos ⟨rfl,hil⟩];have hl:=h.klen (j%5) i9;rw[a6D];by_cases hxy:x=y
     . grind
     . have:=h.win j h1 i9 h3 y hy;have hyx:¬y=x:=fun e=>hxy e.symm;rw[if_neg hxy];exact⟨fun e=>a2D _ (this.1 e),fun e=>this.2 ((G7.1 e).elim id fun e=>absurd (F7.1 e) hyx)⟩
   . have hmod:¬j%5=i%5:=i9;simp only[hmod,hj,false_and,if_false];exact h.win j j1 j2 j3 y hy
 . rw[U0,if_neg i9];exact h.sorted j hj
 . rw[U0,if_neg i9]at hy;exact(h.done j hj y hy).mono (b4o c i x)
 . rw[U0,if_neg i9];exact h.far j hj
theorem RI.next{t:j9}{s:By}{p:Nat}{c:List (List Nat)}{kn:List (List Bool)}(h:RI t s p 1 c kn)(hp:p≤s.length)(hc:∀x∈c.getD p [],Cl t s p x ((C0 t).getD x []).length c):
 RI t s (p+1) 0 (c.set p (P9 (c.getD p []))) (kn.set (p%5) (List.replicate (j4 t).length false)):=by
 have hil:p<c.length:=by have:=h.len;omega
 have hq5:p%5<kn.length:=by have:=h.kl;omega
 have hmem:∀j y,y∈(c.set p (P9 (c.getD p []))).getD j []↔y∈c.getD j []:=fun j y=>by
  rw[U0];split
  . rename_i hh;rw[hh.1];exact c7f
  . exact Iff.rfl
 have hm1:∀j y,y∈c.getD j []→y∈(c.set p (P9 (c.getD p []))).getD j []:=fun j y=>(hmem j y).2;refine⟨by simp[h.len],by simp[h.kl],fun q hq=>?_,fun j y hy=>h.lt j y ((hmem j y).1 hy),fun j=>?_,fun j j1 j2 j3 y hy=>?_,hm1 0 0 h.root,fun j hj=>?_,fun j hj y hy=>?_,fun j hj=>?_⟩
 . rw[U0];split
   . simp
   . exact h.klen q hq
 . rw[U0];split
   . exact(a9I _).nodup_iff.2 (h.nodup p)
   . exact h.nodup j
 . rw[hmem,U0];by_cases hj:j%5=p%5
   . have:j=p+5:=i9;subst this;rw[if_pos ⟨hj,hq5⟩,h.far (p+5) i9];simp[hy]
   . rw[if_neg (fun e=>hj e.1)];exact h.win j i9 i9 j3 y hy
 . by_cases hjp:j=p
   . subst hjp;rw[U0,if_pos ⟨rfl,hil⟩];exact c5S (h.nodup j)
   . rw[U0,if_neg (fun e=>hjp e.1)];exact h.sorted j i9
 . have hy':=(hmem j y).1 hy;by_cases hjp:j=p
   . subst hjp;exact(hc y hy').mono hm1
   . exact(h.done j i9 y hy').mono hm1
 . have hjp:¬j=p:=i9;rw[U0,if_neg (fun e=>hjp e.1)];exact h.far j i9
theorem RI.enter{t:j9}{s:By}{p:Nat}{c:List (List Nat)}{kn:List (List Bool)}(h:RI t s p 0 c kn):RI t s p 1 c kn:=⟨h.len,h.kl,h.klen,h.lt,h.nodup,h.win,h.root,h.sorted,h.done,fun j hj=>h.far j i9⟩
theorem RI.start{t:j9}{s:By}(hN:1≤(j4 t).length):RI t s 0 0 ((List.replicate (s.length+1) []).set 0 [0]) ((List.replicate 5 (List.replicate (j4 t).length false)).set 0 ((List.replicate (j4 t).length false).set 0 true)):=by
 refine⟨k7,k7,fun q hq=>?_,fun j y hy=>?_,fun j=>?_,fun j j1 j2 j3 y hy=>?_,k7,fun j hj=>i9,fun j hj=>i9,fun j hj=>?_⟩
 . grind
 . grind
 . grind
 . grind
 . grind
theorem a4O{t:j9}{s:By}{p k:Nat}(h:M6 t s p k=true):A7 t k≤s.length-p:=by unfold M6 at h;have:=(b4K.1 h).length_le;simpa[A7]using this
def S9(L:List Nat)(C:List Int)(x:Nat):Int:=if x∈L then C.getD (L.idxOf x) (-1)else-1
def s7(t:j9)(k:Nat):Nat:=(t.rules.getD k default).cells.length
def I1(t:j9)(p:Nat)(L:List Nat)(c:Nat→List Nat)(C:Nat→List Int)(D:List Int)(a:Nat×Nat):Int:=
 if A7 t a.1=0 then S9 L D a.2 else S9 (c (p+A7 t a.1)) (C (p+A7 t a.1)) a.2
def L8(t:j9)(s:By)(p:Nat)(L:List Nat)(c:Nat→List Nat)(C:Nat→List Int)(i:Nat)(silent:Bool)(st:List Int×Bool)(a:Nat×Nat):List Int×Bool:=
 if M6 t s p a.1=true∧decide (A7 t a.1=0)=silent then
  (if 0≤I1 t p L c C st.1 a∧(st.1.getD i 0<0∨I1 t p L c C st.1 a+s7 t a.1<st.1.getD i 0)then(st.1.set i (I1 t p L c C st.1 a+s7 t a.1),true)else st)
 else st
def T4(t:j9)(s:By)(p:Nat)(L:List Nat)(c:Nat→List Nat)(C:Nat→List Int)(i:Nat)(silent:Bool)(D:List Int)(A:List (Nat×Nat)):List Int×Bool:=A.foldl (L8 t s p L c C i silent) (D,false)
theorem b2a{t:j9}{s:By}{p:Nat}{L:List Nat}{c:Nat→List Nat}{C:Nat→List Int}{i:Nat}{silent:Bool}(st:List Int×Bool)(a:Nat×Nat):(L8 t s p L c C i silent st a).1.length=st.1.length:=by
 unfold L8;split
 . split
   . simp
   . rfl
 . rfl
theorem b6w{t:j9}{s:By}{p:Nat}{L:List Nat}{c:Nat→List Nat}{C:Nat→List Int}{i:Nat}{silent:Bool}(A:List (Nat×Nat)):∀(D:List Int),(T4 t s p L c C i silent D A).1.length=D.length:=by
 have key:∀(A:List (Nat×Nat)) (st:List Int×Bool),(A.foldl (L8 t s p L c C i silent) st).1.length=st.1.length:=by
  intro A
  induction A with
  |nil=>intro st;rfl
  |cons a A ih=>intro st;rw[a2B,ih,b2a]
 intro D;exact key A (D,false)
theorem a5Z{L:List Nat}{C:List Int}{M:Int}(h:∀x∈C,x≤M)(hM: -1≤M)(x:Nat):S9 L C x≤M:=by
 unfold S9;split
 . rw[u9];cases hc:C[L.idxOf x]? with
   |none=>exact hM
   |some y=>exact h y (C8 hc)
 . exact hM
theorem c2t(a b:By):F0 118 [0] [St a,St b] (B (decide (b.length≤a.length)&&decide (a.take b.length=b))):=by
 refine E7 c118 0 (by simp[a7u]) fun Q hR hN=>?_;by_cases h:b.length≤a.length
 . simp[a7u,h];refine hR _ _ ?_;simp[a7u,h];rw[Bool.eq_iff_iff];simp
 . simp[a7u,h];refine hR _ _ ?_;simp[a7u,h]
theorem c8w(a b:By):(decide (b.length≤a.length)&&decide (a.take b.length=b))=b.isPrefixOf a:=by
 rw[Bool.eq_iff_iff];simp only[E6,decide_eq_true_eq,b4K];constructor
 . grind
 . intro h;exact⟨h.length_le,(List.prefix_iff_eq_take.1 h).symm⟩
theorem c0b(a b:By):F0 95 [0] [St a,St b] (B (b.isPrefixOf a)):=by refine E7 c95 0 (by simp[X95]) fun Q hR hN=>?_;have h:=c2t a b;rw[c8w]at h;simp[X95];refine l7 h ?_;simp;refine hR _ _ ?_;simp[X95]
theorem b1x(t:j9)(s:By)(x4 x5 x6 x7:PV)(p k:Nat)(hp:p≤s.length)(hs:s.length≤1100000000)(ht:OkT t)(hk:k<t.rules.length):F0 74 [0,0] [.fptr [IN t.modes,UN t.accept,.slc (t.rules.map RP),St s,x4,x5,x6,x7],IN p,IN k] (.tup [IN (p+(t.rules[k]).print.length),B ((t.rules[k]).print.isPrefixOf (s.drop p))]):=by refine E7 c74 0 (by simp[X74]) fun Q hR hN=>?_;have h:=c0b (s.drop p) (t.rules[k]).print;have hr:=(ht.a1i _ (B7 hk)).print;have hw:IntKind.i64.wrap ((p:Int)+((t.rules[k]).print.length:Int))=((p+(t.rules[k]).print.length:Nat):Int):=O5;have hd:List.take (s.length-p) (List.drop p s)=s.drop p:=U4 k7;simp[X74,hk,hw,hp,hd];refine l7 h ?_;simp;refine hR _ _ ?_;simp[X74]
theorem c4N(n:Nat):F0 142 [0] [IN n] (B false):=by refine E7 c142 0 (by simp[b0i]) fun Q hR hN=>?_;simp[b0i];refine hR _ _ ?_;simp[b0i]
theorem c6A(n:Nat):F0 135 [0] [IN n] (B false):=by refine E7 c135 0 (by simp[b0t]) fun Q hR hN=>?_;simp[b0t];refine hR _ _ ?_;simp[b0t]
theorem c5g(a b:Nat):F0 130 [0] [IN a,IN b] (B (decide (a<b))):=by refine E7 c130 0 (by simp[b1I]) fun Q hR hN=>?_;simp[b1I];refine l7 (c4N a) ?_;simp;refine hR _ _ ?_;simp[b1I]
theorem c1o(L:List Nat)(x:Nat)(hL:L.Pairwise (· < ·))(hl:L.length≤1100000000):∃r,(∃i,r=.tup [IN i,B (decide (x∈L))]∧(x∈L→L[i]?=some x))∧F0 108 [0,0] [.slc (L.map IN),IN x] r:=by
 refine a2x mixed (X:=a6q) c108 0 (by simp[a6q]) (by kernel_rfl) fun Q hR hN=>?_;simp[a6q];refine I2 (fun(p:Nat×Nat) vs h=>p.1≤p.2∧p.2≤L.length∧(∀k,(hk:k<L.length)→k<p.1→L[k]<x)∧(∀k,(hk:k<L.length)→p.2≤k→¬L[k]<x)∧
  vs=[.slc (L.map IN),IN x,.uu,.uu,IN L.length,IN p.1,IN p.2,.uu,.uu,.uu]∧h=[]) (fun p=>p.2-p.1) (0,L.length) ?_ ?_
 . simp;intro k hk h2;omega
 . rintro⟨i,j⟩ vs h ⟨g1,g2,g3,g4,rfl,rfl⟩ Q' hK hX hR';dsimp only at g1 g2 g3 g4;by_cases hij:i<j
   . obtain⟨m,hm⟩:=p8 ((i+j)/2);have hw:IntKind.i64.wrap ((i:Int)+(j:Int))=((i+j:Nat):Int):=O5;have h64:IntKind.u64.wrap ((i:Int)+(j:Int))=((i+j:Nat):Int):=(by simp[IntKind.wrap,IntKind.signed,IntKind.bits];omega);have hmm:IntKind.i64.wrap ((IntKind.u64.wrap ((i:Int)+(j:Int))).fdiv (2^min 1 IntKind.u64.bits))=(m:Int):=by
      rw[h64];have:(((i+j:Nat):Int)).fdiv (2^min 1 IntKind.u64.bits)=(m:Int):=by rw[Int.fdiv_eq_ediv_of_nonneg _ H6];rw[show((2:Int)^min 1 IntKind.u64.bits)=2 by decide];omega
      rw[this];exact wrap_ok i9 i9
     have hmL:m<L.length:=i9;have hless:=c5g L[m] x;have hwm:=wk1 m i9;have hmono:∀a b,(ha:a<L.length)→(hb:b<L.length)→a<b→L[a]<L[b]:=fun a b ha hb hab=>a5N.1 hL a b ha hb hab;by_cases hlt:L[m]<x
     . simp[hij,hw,hmm,hmL];refine l7 hless ?_;simp[hlt,hwm];refine hK (m+1,j) _ _ i9 ?_;simp;refine⟨i9,i9,fun k hk hkm=>?_,fun k hk hj=>by have:=g4 k hk hj;omega⟩;by_cases hk2:k=m
       . subst hk2;exact hlt
       . grind
     . simp[hij,hw,hmm,hmL];refine l7 hless ?_;simp[hlt];refine hK (i,m) _ _ i9 ?_;simp;refine⟨i9,i9,g3,fun k hk hkm=>?_⟩;by_cases hk2:k=m
       . subst hk2;omega
       . grind
   . obtain rfl:i=j:=i9;by_cases hin:i<L.length
     . by_cases he:L[i]=x
       . have hmem:x∈L:=he▸B7 hin;simp;refine hX _ _ _ ?_;simp[hin,he];refine hR _ _ _ ⟨i,rfl,fun _=>by rw[l9 hin,he]⟩ ?_;simp[a6q,hmem]
       . have hmem:x∉L:=fun hm=>by
          obtain⟨k,hk,hkx⟩:=a1F hm;have h3:=g3 k hk;have h4:=g4 k hk;by_cases hki:k<i
          . have:=h3 hki;omega
          . have hki2:k≠i:=fun e=>(by subst e;exact he hkx);have:i<k:=i9;have:=a5N.1 hL i k hin hk this;have:=g4 i hin (m0 _);omega
         simp;refine hX _ _ _ ?_;simp[hin,he];refine l7 (c6A L[i]) ?_;simp;refine hR _ _ _ ⟨i,rfl,fun h=>absurd h hmem⟩ ?_;simp[a6q,hmem]
     . have hmem:x∉L:=fun hm=>by
        obtain⟨k,hk,hkx⟩:=a1F hm;have h3:=g3 k hk i9;omega
       simp;refine hX _ _ _ ?_;simp[hin];refine hR _ _ _ ⟨i,rfl,fun h=>absurd h hmem⟩ ?_;simp[a6q,hmem]
theorem a9q(L:List Nat)(C:List Int)(x:Nat)(hL:L.Pairwise (· < ·))(hl:L.length≤1100000000)(hC:C.length=L.length):F0 77 [0] [.fptr [.slc (L.map IN),.slc (C.map I)],IN x] (I (S9 L C x)):=by
 refine E7 c77 0 (by simp[X77]) fun Q hR hN=>?_;obtain⟨r,⟨i,rfl,hi⟩,hf⟩:=c1o L x hL hl;by_cases hx:x∈L
 . have hi2:=hi hx;obtain⟨hil,hie⟩:=B4.1 hi2;have hid:L.idxOf x=i:=by
    have h1:L.idxOf x<L.length:=List.idxOf_lt_length_of_mem hx;have h2:L[L.idxOf x]=x:=List.getElem_idxOf h1;rcases Nat.lt_trichotomy (L.idxOf x) i with h|h|h
    . have:=a5N.1 hL _ _ h1 hil h;omega
    . exact h
    . have:=a5N.1 hL _ _ hil h1 h;omega
   have hiC:i<C.length:=i9;simp[X77];refine l7 hf ?_;simp[hx,hiC];refine hR _ _ ?_;simp[X77,S9,hx,hid,hiC]
 . simp[X77];refine l7 hf ?_;simp[hx];refine hR _ _ ?_;simp[X77,S9,hx]
abbrev KR(l:List Bool):PV:=.uslc (l.map B)
theorem c0G(t:j9)(s:By)(S4 A5 L7:PV)(cs:List PV)(kn:List (List Bool))(p x:Nat)(l:List Nat)(r0 r1 r2 r3 r4 r5 r8 r9 r10 r11 r12 r13 r14 r17 r18 r21 r22 r23 r24 r25:Row)(ver gw gk kv g19 g20 g26:Nat)
 (hcs:cs.length≤1100000001) (hp:p<cs.length) (hc:cs[p]?=some (.agg [FW l,.nils])) (hl:l.length≤1000000) (hk5:kn.length=5) (hkx:x<(kn.getD (p%5) []).length) (hx:(kn.getD (p%5) [])[x]?=some false):
 ∃r ws,(∃ver2 kv2 g19 g20 g26,r=.tup []∧ws=[(6,(1,.arr 2 ver2 false (cs.set p (.agg [FW (l++[x]),.nils])))),(16,(gk,.arr 1 kv2 false ((a5H kn p x).map KR))),(19,(g19,.dead)),(20,(g20,.dead)),(26,(g26,.dead))])∧
 FI Tryz.prog (.fn (.func 72) [] [.eptr 16 gk 5 1 0 0,.ptr 15 gw 0]) [IN p,IN x] [r0,r1,r2,r3,r4,r5,(1,.arr 2 ver false cs),(1,.var (TC t++[St s,S4,A5,.own 6 1 cs.length 2 0 cs.length,L7])),r8,r9,r10,r11,r12,r13,r14,(gw,.var [.ptr 7 1 0]),(gk,.arr 1 kv false (kn.map KR)),r17,r18,(g19,.dead),(g20,.dead),r21,r22,r23,r24,r25,(g26,.dead)] r ws:=by
 obtain⟨q,hq⟩:=p8 (p%5);have hm:(p:Int).tmod 5=(q:Int):=by grind
 have hq5:q<5:=i9;have hqk:q<kn.length:=i9;have hgq:kn.getD q []=kn[q]:=by grind
 unfold a5H;rw[←hq,hgq]at hkx hx⊢;obtain⟨b,hb⟩:=p8 (kn[q]);rw[←hb]at hkx hx⊢;have hbx:b[x]=false:=by grind
 have eb:(b.map B).set x (.bool true)=(b.set x true).map B:=by rw[J8]
 have e1:(kn.map KR).set q (.uslc ((b.map B).set x (.bool true)))=(kn.set q (b.set x true)).map KR:=by rw[J8,eb]
 have hcp:cs[p]=.agg [FW l,.nils]:=by grind
 cases l with
 |nil=>
  have hcn:cs[p]=.agg [.nils,.nils]:=hcp;refine a3L mixed (X:=X72) c72 (by rfl) (by simp[X72]) k7 (by kernel_rfl) fun Q hR hN=>?_;simp[X72,hm,hq5,hqk,hk5,←hb,hkx,hbx,e1,hp,hcn];refine hN _ [(6,(1,.arr 2 (ver+1) false (cs.set p (.agg [.uslc [IN x],.nils])))),(16,(gk,.arr 1 kv false ((kn.set q (b.set x true)).map KR))),(19,(g19+1,.dead)),(20,(g20+1,.dead)),(26,(g26,.dead))] _ _ ⟨ver+1,kv,g19+1,g20+1,g26,rfl,rfl⟩ ?_;simp[P6,X72]
 |cons a l=>
  have hcn:cs[p]=.agg [.uslc (IN a::l.map IN),.nils]:=hcp;have b4:(l.length+1+1)*8≤140737488355328:=by simp at hl;omega
  refine a3L mixed (X:=X72) c72 (by rfl) (by simp[X72]) k7 (by kernel_rfl) fun Q hR hN=>?_;simp[X72,hm,hq5,hqk,hk5,←hb,hkx,hbx,e1,hp,hcn,b4];refine hN _ [(6,(1,.arr 2 (ver+2+1) false (cs.set p (.agg [.uslc (IN a::(l++[x]).map IN),.nils])))),(16,(gk,.arr 1 kv false ((kn.set q (b.set x true)).map KR))),(19,(g19+1,.dead)),(20,(g20,.dead)),(26,(g26+1,.dead))] _ _ ⟨ver+2+1,kv,g19+1,g20,g26+1,rfl,rfl⟩ ?_;simp[P6,X72]
theorem c9w(t:j9)(s:By)(S4 A5 L7:PV)(cs:List PV)(kn:List (List Bool))(p x:Nat)(r0 r1 r2 r3 r4 r5 r8 r9 r10 r11 r12 r13 r14 r17 r18 r19 r20 r21 r22 r23 r24 r25 r26:Row)(ver gw gk kv:Nat)
 (hk5:kn.length=5) (hkx:x<(kn.getD (p%5) []).length) (hx:(kn.getD (p%5) [])[x]?=some true):
 FI Tryz.prog (.fn (.func 72) [] [.eptr 16 gk 5 1 0 0,.ptr 15 gw 0]) [IN p,IN x] [r0,r1,r2,r3,r4,r5,(1,.arr 2 ver false cs),(1,.var (TC t++[St s,S4,A5,.own 6 1 cs.length 2 0 cs.length,L7])),r8,r9,r10,r11,r12,r13,r14,(gw,.var [.ptr 7 1 0]),(gk,.arr 1 kv false (kn.map KR)),r17,r18,r19,r20,r21,r22,r23,r24,r25,r26] (.tup []) []:=by
 obtain⟨q,hq⟩:=p8 (p%5);have hm:(p:Int).tmod 5=(q:Int):=by grind
 have hq5:q<5:=i9;have hqk:q<kn.length:=i9;have hgq:kn.getD q []=kn[q]:=by grind
 rw[←hq,hgq]at hkx hx;have hbx:kn[q][x]=true:=by grind
 refine a3k mixed (X:=X72) c72 (by rfl) (by simp[X72]) k7 fun Q hR hN=>?_;simp[X72,hm,hq5,hqk,hk5,hkx,hbx];refine hN _ _ ?_;simp[P6,X72]
set_option maxHeartbeats 16000000
section
variable{c:List (List Nat)}{p i:Nat}{t:j9}
def b9K:Prop:=∀(k g ver:Nat) (l:List Nat) (h:l5),h[k]?=some (g,.arr 1 ver false (l.map IN))→0<l.length→l.length<1000000→FI Tryz.prog (.fn (.func 75) [] []) [.own k g l.length 1 0 l.length] h (.tup []) [(k,(g,.arr 1 (ver+1) false ((P9 l).map IN)))]
def c0L:Prop:=∀(h:l5),FI Tryz.prog (.fn (.func 75) [] []) [.nils] h (.tup []) []
abbrev DS(l:List Nat):PV:=if l=[]then .nils else .slc (l.map IN)
@[simp] theorem d2F:DS []=.nils:=rfl
@[simp] theorem d1F(a:Nat)(l:List Nat):DS (a::l)=.slc (IN a::l.map IN):=rfl
def CS(p:Nat)(c:List (List Nat)):List PV:=(List.range c.length).map fun i=>.agg [if i<p then DS (c.getD i [])else FW (c.getD i []),.nils]
theorem b1f(p:Nat)(c:List (List Nat)):(CS p c).length=c.length:=by simp[CS]
theorem b3d(hi:i<c.length):(CS p c)[i]?=some (.agg [if i<p then DS (c.getD i [])else FW (c.getD i []),.nils]):=by simp[CS,hi]
theorem c4X(p:Nat)(c:List (List Nat)):∀x,x∈CS p c→D4 x=true:=fun x hx=>by
 obtain⟨i,_,rfl⟩:=E9.1 hx;by_cases h:i<p
 . rw[if_pos h];unfold DS;split<;>rfl
 . rw[if_neg h];unfold FW;split<;>rfl
@[simp ↓] theorem d0s(p:Nat)(c:List (List Nat)):(∀x,x∈CS p c→D4 x=true)=True:=eq_true (c4X p c)
theorem c7R(n:Nat):CS 0 (List.replicate n [])=List.replicate n (.agg [.nils,.nils]):=by
 refine a7M.2 ⟨by simp[CS],fun b hb=>?_⟩;obtain⟨i,hi,rfl⟩:=E9.1 hb
 grind
theorem b6l(l:List Nat)(hp:p≤i):(CS p c).set i (.agg [FW l,.nils])=CS p (c.set i l):=by
 apply a0t (by simp[CS]);intro j h1 h2;have hj:j<c.length:=by simpa[CS]using h1
 have e:=U0 c i j l [];rw[a4a];simp only[CS,a1e,a4G]
 grind
theorem c0o(l:List Nat):(CS p c).set p (.agg [DS l,.nils])=CS (p+1) (c.set p l):=by
 apply a0t (by simp[CS]);intro j h1 h2;have hj:j<c.length:=by simpa[CS]using h1
 have e:=U0 c p j l [];rw[a4a];simp only[CS,a1e,a4G]
 grind
def knI(N i:Nat):List PV:=(List.range 5).map fun j=>if j<i then KR (List.replicate N false)else .slc []
theorem c4i(N i:Nat):(knI N i).set i (KR (List.replicate N false))=knI N (i+1):=by
 apply a0t (by simp[knI]);intro j h1 h2;rw[a4a];simp only[knI,a1e,a4G]
 grind
theorem b7L(N i:Nat):(knI N i).length=5:=by simp[knI]
theorem c3s(N:Nat):knI N 5=(List.replicate 5 (List.replicate N false)).map KR:=by simp[knI,a2F]
theorem b7g(ht:s5 t){st:State}(hst:st∈j4 t){n:Nat}{a:Nat×Nat}(ha:a∈a0p t st n)(hn:n≤t.rules.length):a.1<t.rules.length∧a.2<(j4 t).length:=by unfold a0p at ha;obtain⟨k,hk,hs⟩:=a9B.1 ha;obtain⟨s',hs',rfl⟩:=C5.1 hs;exact⟨by have:=a1v.1 hk;show k<_;omega,a3l (W7 ht hst hs')⟩
theorem b0d{c':List (List Nat)}(h:∀j,∃l,c'.getD j []=c.getD j []++l):∀j y,y∈c.getD j []→y∈c'.getD j []:=fun j y hy=>by obtain⟨l,hl⟩:=h j;rw[hl];exact a2D _ hy
theorem Cl.succ{s:By}{x k:Nat}{A:List (Nat×Nat)}(hA:(C0 t).getD x []=A)(hk:k<A.length)(h:Cl t s i x k c)(h2:M6 t s i A[k].1=true→A[k].2∈c.getD (i+A7 t A[k].1) []):Cl t s i x (k+1) c:=by
 subst hA;intro a ha hg;rw[J2,l9 hk]at ha;rcases G7.1 ha with ha|ha
 . exact h a ha hg
 . grind
theorem b1S(ht:s5 t)(k:Nat)(hk:k<t.rules.length):A7 t k≤4:=by unfold A7;rw[u9,l9 hk];exact(a3F (ht.sound _ (B7 hk))).p4
theorem a4A{P:Program}{f:PV}{args vs:List PV}{h h0 h1:l5}{var:Option Nat}{xs:List k8}{l:List PV}{K:B0→Prop}{r:PV}{ws:List (Nat×Row)}(hf:FI P f args h0 r ws)(hu:m6 h0 ws=h1)(he:h=h0)
 (hk:Xr (fns P) xs ⟨l++[r],K6 vs var r,h1⟩ K):Xy (fns P) f args var xs ⟨l,vs,h⟩ K:=by
 subst he;subst hu;exact c1q hf hk
abbrev HPw(t:j9)(s:By)(va:Nat)(r0 r1 r2 r3 r4 r8 r9 r11 r12 r13 r14 R17:Row)(gw p last ver kv:Nat)(c:List (List Nat))(kn:List (List Bool))(R18:Row)(g19 g20 g26:Nat):l5:=
 [r0,r1,r2,r3,r4,(1,.arr 3 1 true (F4 (j4 t))),(1,.arr 2 ver false (CS p c)),
  (1,.var (TC t++[St s,.own 5 1 (j4 t).length 3 0 (j4 t).length,.own 10 1 (j4 t).length 1 0 (j4 t).length,.own 6 1 (s.length+1) 2 0 (s.length+1),IN last])),
  r8,r9,(1,.arr 1 va true ((C0 t).map SA)),r11,r12,r13,r14,(gw,.var [.ptr 7 1 0]),(1,.arr 1 kv false (kn.map KR)),R17,R18,(g19,.dead),(g20,.dead),dd,dd,dd,dd,dd,(g26,.dead)]
theorem c8j(t:j9)(s:By)(va:Nat)(r0 r1 r2 r3 r4 r8 r9 r11 r12 r13 r14 R17:Row)(gw p last ver kv:Nat)(c:List (List Nat))(kn:List (List Bool))(R18:Row)(g19 g20 g26 i x:Nat)
 (hs:s.length≤1100000000) (hN:(j4 t).length≤3072) (h:RI t s p 1 c kn) (h1:p≤i) (h2:i≤p+4) (h3:i≤s.length) (hx:x<(j4 t).length):
 ∃c' kn' ver' kv' g19' g20' g26' ws,RI t s p 1 c' kn'∧(∀j,∃l,c'.getD j []=c.getD j []++l)∧x∈c'.getD i []∧
  FI Tryz.prog (.fn (.func 72) [] [.eptr 16 1 5 1 0 0,.ptr 15 gw 0]) [IN i,IN x] (HPw t s va r0 r1 r2 r3 r4 r8 r9 r11 r12 r13 r14 R17 gw p last ver kv c kn R18 g19 g20 g26) (.tup []) ws∧
  m6 (HPw t s va r0 r1 r2 r3 r4 r8 r9 r11 r12 r13 r14 R17 gw p last ver kv c kn R18 g19 g20 g26) ws=HPw t s va r0 r1 r2 r3 r4 r8 r9 r11 r12 r13 r14 R17 gw p last ver' kv' c' kn' R18 g19' g20' g26':=by
 have hcl:(CS p c).length=s.length+1:=by rw[b1f,h.len]
 have hkl:=h.klen (i%5) i9;have hxk:x<(kn.getD (i%5) []).length:=i9;have hil:i<c.length:=by have:=h.len;omega
 have hlen:(c.getD i []).length≤(j4 t).length:=a3P _ _ (h.nodup i) fun y hy=>h.lt i y hy;cases hb:(kn.getD (i%5) [])[x]with
 |false=>
  have hk:(kn.getD (i%5) [])[x]?=some false:=by grind
  obtain⟨r,ws,⟨ver2,kv2,g19',g20',g26',rfl,rfl⟩,hf⟩:=c0G t s (.own 5 1 (j4 t).length 3 0 (j4 t).length) (.own 10 1 (j4 t).length 1 0 (j4 t).length) (IN last) (CS p c) kn i x (c.getD i []) r0 r1 r2 r3 r4 (1,.arr 3 1 true (F4 (j4 t))) r8 r9 (1,.arr 1 va true ((C0 t).map SA)) r11 r12 r13 r14 R17 R18 dd dd dd dd dd ver gw 1 kv g19 g20 g26
   i9 i9 (by rw[b3d hil,if_neg i9]) i9 h.kl hxk hk
  rw[hcl,b6l _ h1]at hf;refine⟨c.set i (c.getD i []++[x]),a5H kn i x,ver2,kv2,g19',g20',g26',_,h.add h1 h2 h3 hx hk,fun j=>?_,?_,hf,?_⟩
  . rw[U0];split
    . rename_i hh;exact⟨[x],by rw[hh.1]⟩
    . exact⟨[],k7⟩
  . grind
  . simp[m6]
 |true=>
  have hk:(kn.getD (i%5) [])[x]?=some true:=by grind
  have hf:=c9w t s (.own 5 1 (j4 t).length 3 0 (j4 t).length) (.own 10 1 (j4 t).length 1 0 (j4 t).length) (IN last) (CS p c) kn i x r0 r1 r2 r3 r4 (1,.arr 3 1 true (F4 (j4 t))) r8 r9 (1,.arr 1 va true ((C0 t).map SA)) r11 r12 r13 r14 R17 R18 (g19,.dead) (g20,.dead) dd dd dd dd dd (g26,.dead) ver gw 1 kv h.kl hxk hk;rw[hcl]at hf;exact⟨c,kn,ver,kv,g19,g20,g26,[],h,fun j=>⟨[],k7⟩,(h.win i h1 i9 h3 x hx).1 hk,hf,rfl⟩
theorem c3t(t:j9)(s:By)(va:Nat)(r0 r1 r2 r3 r4 r8 r9 r11 r12 r13 r14 R17:Row)(gw kv:Nat)(R18:Row)(g19 g20 g26:Nat)
 (hs:s.length≤1100000000) (hN:1≤(j4 t).length):
 ∃ver' kv' g19' g20' g26' ws,
  FI Tryz.prog (.fn (.func 72) [] [.eptr 16 1 5 1 0 0,.ptr 15 gw 0]) [I 0,I 0] (HPw t s va r0 r1 r2 r3 r4 r8 r9 r11 r12 r13 r14 R17 gw 0 0 0 kv (List.replicate (s.length+1) []) (List.replicate 5 (List.replicate (j4 t).length false)) R18 g19 g20 g26) (.tup []) ws∧
  m6 (HPw t s va r0 r1 r2 r3 r4 r8 r9 r11 r12 r13 r14 R17 gw 0 0 0 kv (List.replicate (s.length+1) []) (List.replicate 5 (List.replicate (j4 t).length false)) R18 g19 g20 g26) ws=HPw t s va r0 r1 r2 r3 r4 r8 r9 r11 r12 r13 r14 R17 gw 0 0 ver' kv' ((List.replicate (s.length+1) []).set 0 [0]) ((List.replicate 5 (List.replicate (j4 t).length false)).set 0 ((List.replicate (j4 t).length false).set 0 true)) R18 g19' g20' g26':=by
 obtain⟨c,hc⟩:∃c,c=List.replicate (s.length+1) ([]:List Nat):=⟨_,rfl⟩
 obtain⟨kn,hkn⟩:=p8 (List.replicate 5 (List.replicate (j4 t).length false));have hc0:c.getD 0 []=[]:=by grind
 have hk0:kn.getD 0 []=List.replicate (j4 t).length false:=by rw[hkn];rfl
 have hcl:(CS 0 c).length=s.length+1:=by rw[b1f,hc];simp
 have hil:0<c.length:=by rw[hc];simp
 rw[←hc,←hkn];obtain⟨r,ws,⟨ver2,kv2,g19',g20',g26',rfl,rfl⟩,hf⟩:=c0G t s (.own 5 1 (j4 t).length 3 0 (j4 t).length) (.own 10 1 (j4 t).length 1 0 (j4 t).length) (I 0) (CS 0 c) kn 0 0 [] r0 r1 r2 r3 r4 (1,.arr 3 1 true (F4 (j4 t))) r8 r9 (1,.arr 1 va true ((C0 t).map SA)) r11 r12 r13 r14 R17 R18 dd dd dd dd dd 0 gw 1 kv g19 g20 g26
  i9 i9 (by rw[b3d hil,if_neg i9,hc0]) k7 (by rw[hkn];simp) (by grind) (by rw[show 0%5=0 from rfl,hk0];rw[List.getElem?_replicate,if_pos i9])
 rw[hcl,b6l _ (m0 0)]at hf;refine⟨ver2,kv2,g19',g20',g26',_,hf,?_⟩;simp[m6,a5H,hk0];rw[←hk0];simp
structure RV where
 (v5 v6 v7 v8 v9 v10 v11 v16 v17 v18 v19 v20 v21 v22 v23 v24:PV)
abbrev VS(gw n:Nat)(v3:PV)(p:Nat)(x:RV):List PV:=[.ptr 7 1 0,.ptr 15 gw 0,.eptr 16 1 5 1 0 0,v3,.fn (.func 72) [] [.eptr 16 1 5 1 0 0,.ptr 15 gw 0],x.v5,x.v6,x.v7,x.v8,x.v9,x.v10,x.v11,IN 5,.bool false,IN (n+1),IN p,x.v16,x.v17,x.v18,x.v19,x.v20,x.v21,x.v22,x.v23,x.v24]
theorem c1M(hS:b9K)(hZ:c0L)(t:j9)(ht:s5 t)(s:By)(hs:s.length≤1100000000)(va:Nat)(r0 r1 r2 r3 r4 r8 r9 r11 r12 r13 r14:Row)(g15:Nat):
 ∃r ws,(∃c kn last ver R15 R16 R17 R18 g19 g20 g26,r=.tup []∧RI t s (s.length+1) 0 c kn∧ws=[(6,(1,.arr 2 ver false (CS (s.length+1) c))),
  (7,(1,.var (TC t++[St s,.own 5 1 (j4 t).length 3 0 (j4 t).length,.own 10 1 (j4 t).length 1 0 (j4 t).length,.own 6 1 (s.length+1) 2 0 (s.length+1),IN last]))),
  (15,R15),(16,R16),(17,R17),(18,R18),(19,(g19,.dead)),(20,(g20,.dead)),(26,(g26,.dead))])∧
 FI Tryz.prog (.fn (.func 38) [] []) [.ptr 7 1 0] [r0,r1,r2,r3,r4,(1,.arr 3 1 true (F4 (j4 t))),(1,.arr 2 0 false (List.replicate (s.length+1) (.agg [.nils,.nils]))),
  (1,.var (TC t++[St s,.own 5 1 (j4 t).length 3 0 (j4 t).length,.own 10 1 (j4 t).length 1 0 (j4 t).length,.own 6 1 (s.length+1) 2 0 (s.length+1),I 0])),
  r8,r9,(1,.arr 1 va true ((C0 t).map SA)),r11,r12,r13,r14,(g15,.dead),dd,dd,dd,dd,dd,dd,dd,dd,dd,dd,dd] r ws:=by
 have hN:=a1g ht;have hpos:=a1X ht;have b1:(j4 t).length≤140737488355328:=i9;have b2:(j4 t).length≤9223372036854775807:=i9;rw[←c7R];refine a3L mixed (X:=X38) c38 (by rfl) (by simp[X38]) k7 (by kernel_rfl) fun Q hR hN=>?_;simp[X38];refine E3 (fun(p:Nat×PV×PV×Nat×Nat) vs h=>p.1≤5∧vs=[.ptr 7 1 0,.ptr 15 (g15+1) 0,.eptr 16 1 5 1 0 0,p.2.1,.uu,.uu,.uu,.uu,.uu,.uu,.uu,.uu,IN p.1,p.2.2.1,.uu,.uu,.uu,.uu,.uu,.uu,.uu,.uu,.uu,.uu,.uu]∧
  h=[r0,r1,r2,r3,r4,(1,.arr 3 1 true (F4 (j4 t))),(1,.arr 2 0 false (CS 0 (List.replicate (s.length+1) []))),
   (1,.var (TC t++[St s,.own 5 1 (j4 t).length 3 0 (j4 t).length,.own 10 1 (j4 t).length 1 0 (j4 t).length,.own 6 1 (s.length+1) 2 0 (s.length+1),I 0])),
   r8,r9,(1,.arr 1 va true ((C0 t).map SA)),r11,r12,r13,r14,(g15+1,.var [.ptr 7 1 0]),(1,.arr 1 p.2.2.2.1 false (knI (j4 t).length p.1)),(p.2.2.2.2,.dead),dd,dd,dd,dd,dd,dd,dd,dd,dd]) (fun p=>5-p.1) (0,.uu,.uu,0,0) ?_ ?_
 . simp[knI,a2F]
 . rintro⟨i,v3,v13,kv,g17⟩ vs h ⟨g1,rfl,rfl⟩ Q' hK hX hR';dsimp only at g1;by_cases hi:i<5
   . have hw:=wk1 i i9;have e1:(knI (j4 t).length i).set i (.uslc (List.replicate (j4 t).length (.bool false)))=knI (j4 t).length (i+1):=(by rw[←c4i];simp[KR]);have hki:(knI (j4 t).length i)[i]'(by rw[b7L];exact hi)=.slc []:=(by simp[knI]);simp[hi,hw,b1,b2,b7L,e1,hki];exact hK (i+1,_,_,_,_) _ _ i9 ⟨m7,rfl,rfl⟩
   . obtain rfl:i=5:=i9;rw[c3s];obtain⟨kn0,hkn0⟩:∃kn,kn=List.replicate 5 (List.replicate (j4 t).length false):=⟨_,rfl⟩
     obtain⟨ver0,kv0,h19,h20,h26,ws0,hf0,hu0⟩:=c3t t s va r0 r1 r2 r3 r4 r8 r9 r11 r12 r13 r14 (g17,.dead) (g15+1) kv dd 0 0 0 hs hpos;have hRI0:=RI.start (t:=t) (s:=s) hpos;rw[←hkn0]at hRI0 hf0 hu0⊢;obtain⟨c0,hc0⟩:∃c,c=(List.replicate (s.length+1) ([]:List Nat)).set 0 [0]:=⟨_,rfl⟩
     obtain⟨kn1,hkn1⟩:∃k,k=kn0.set 0 ((List.replicate (j4 t).length false).set 0 true):=⟨_,rfl⟩
     rw[←hc0,←hkn1]at hRI0 hu0;simp;refine hX _ _ _ ?_;simp;refine a4A hf0 hu0 rfl ?_;simp[HPw];have hgo:∀(p k:Nat),(hk:k<t.rules.length)→(t.rules[k]).print.isPrefixOf (s.drop p)=M6 t s p k:=fun p k hk=>by unfold M6;rw[u9,l9 hk];rfl
     refine E3 (fun(q:Nat×List (List Nat)×List (List Bool)×Nat×Nat×Nat×Row×Nat×Nat×Nat×RV) vs h=>q.1≤s.length+1∧RI t s q.1 0 q.2.1 q.2.2.1∧vs=VS (g15+1) s.length v3 q.1 q.2.2.2.2.2.2.2.2.2.2∧
      h=HPw t s va r0 r1 r2 r3 r4 r8 r9 r11 r12 r13 r14 (g17,.dead) (g15+1) q.1 q.2.2.2.1 q.2.2.2.2.1 q.2.2.2.2.2.1 q.2.1 q.2.2.1 q.2.2.2.2.2.2.1 q.2.2.2.2.2.2.2.1 q.2.2.2.2.2.2.2.2.1 q.2.2.2.2.2.2.2.2.2.1) (fun q=>s.length+1-q.1) (0,c0,kn1,0,ver0,kv0,dd,h19,h20,h26,⟨.uu,.uu,.uu,.uu,.uu,.uu,.uu,.uu,.uu,.uu,.uu,.uu,.uu,.uu,.uu,.uu⟩) ?_ ?_
     . grind
     . rintro⟨p,c,kn,last,ver,kv,R18,g19,g20,g26,⟨v5,v6,v7,v8,v9,v10,v11,v16,v17,v18,v19,v20,v21,v22,v23,v24⟩⟩ vs h ⟨q1,q2,rfl,rfl⟩ Q2 hK2 hX2 hR2;dsimp only at q1 q2;by_cases hp:p<s.length+1
       . have hwp:=wk1 p i9;have hp':(p:Int)<(s.length:Int)+1:=i9;have hpc:p<c.length:=(by have:=q2.len;omega);have hcsl:∀c',RI t s p 1 c' kn→True:=fun _ _=>trivial;obtain⟨w6,⟨cl,hcl5,hw6⟩,hwA,hwB⟩:∃w6:PV,(∃cl,cl≤5∧w6=IN cl)∧((h:p<s.length)→IN (a1n s[p])=w6)∧(¬p<s.length→I 0=w6):=by
          by_cases h:p<s.length
          . exact⟨IN (a1n s[p]),⟨_,b1p _,rfl⟩,fun _=>rfl,fun h'=>absurd h h'⟩
          . grind
         by_cases hps:p<s.length
         case' pos=>
          simp[HPw,VS,hp,hp',hps];refine l7 (b1u s[p]) ?_;simp;have hwE:=hwA hps
         case' neg=>
          simp[HPw,VS,hp,hp',hps];have hwE:=hwB hps
         all_goals
          refine E3 (fun(q:Nat×List (List Nat)×List (List Bool)×Nat×Nat×Nat×Row×Nat×Nat×Nat×RV) vs h=>q.1≤(q.2.1.getD p []).length∧RI t s p 1 q.2.1 q.2.2.1∧(∀j y,j<q.1→(q.2.1.getD p [])[j]?=some y→Cl t s p y ((C0 t).getD y []).length q.2.1)∧
           vs=VS (g15+1) s.length v3 p {q.2.2.2.2.2.2.2.2.2.2 with v5:=IN p,v6:=w6,v7:=IN q.1}∧
           h=HPw t s va r0 r1 r2 r3 r4 r8 r9 r11 r12 r13 r14 (g17,.dead) (g15+1) p q.2.2.2.1 q.2.2.2.2.1 q.2.2.2.2.2.1 q.2.1 q.2.2.1 q.2.2.2.2.2.2.1 q.2.2.2.2.2.2.2.1 q.2.2.2.2.2.2.2.2.1 q.2.2.2.2.2.2.2.2.2.1) (fun q=>(j4 t).length-q.1) (0,c,kn,last,ver,kv,R18,g19,g20,g26,⟨.uu,.uu,.uu,_,_,_,_,_,_,_,_,_,_,_,_,_⟩) ⟨C9 _,q2.enter,fun j y hj=>absurd hj i9,by rw[←hwE];rfl,rfl⟩ ?_
          rintro⟨i,c,kn,last,ver,kv,R18,g19,g20,g26,⟨v5,v6,v7,v8,v9,v10,v11,v16,v17,v18,v19,v20,v21,v22,v23,v24⟩⟩ vs h ⟨q3,q4,q5,rfl,rfl⟩ Q3 hK3 hX3 hR3;dsimp only at q3 q4 q5;have hpc:p<c.length:=(by have:=q4.len;omega);have hcsl:(CS p c).length=s.length+1:=(by rw[b1f,q4.len]);have hg:(CS p c)[p]?=some (.agg [FW (c.getD p []),.nils]):=by have:=b3d (p:=p) hpc;rw[if_neg i9]at this;exact this
          obtain⟨L,hL⟩:=p8 (c.getD p []);rw[←hL]at hg q3 q5;have hLN:L.length≤(j4 t).length:=hL▸a3P _ _ (q4.nodup p) fun y hy=>q4.lt p y hy;by_cases hi:i<L.length
          . have hFW:FW L=.uslc (L.map IN):=if_neg (fun e=>by subst e;simp at hi);rw[hFW]at hg;have hx:L[i]<(j4 t).length:=q4.lt p _ (hL▸B7 hi);obtain⟨x,hxe⟩:=p8 (L[i]);rw[←hxe]at hx;have hxg:(C0 t)[x]?=some (a0p t (j4 t)[x] t.rules.length):=(by simp[C0,hx]);obtain⟨A,hA⟩:=p8 (a0p t (j4 t)[x] t.rules.length);rw[←hA]at hxg;have hal:(C0 t).length=(j4 t).length:=(by simp[C0]);have hxA:(C0 t)[x]'i9=A:=(by grind);have hgA:(C0 t).getD x []=A:=(by grind);have hAl:A.length≤64:=(by have:=b0Z t (j4 t)[x] t.rules.length;have:=ht.l64;rw[hA];omega);have hAok:∀a∈A,a.1<t.rules.length∧a.2<(j4 t).length:=fun a ha=>b7g ht (B7 hx) (hA▸ha) (m0 _);have hwi:=wk1 i i9;simp[HPw,VS,hcsl,hp',hg,hi,←hxe,hx,hw6];refine c2Q rfl (fun hn=>?_) (fun hn=>?_)
            all_goals
             simp[hxA,hal,hx];refine E3 (fun(q:Nat×List (List Nat)×List (List Bool)×Nat×Nat×Nat×Row×Nat×Nat×Nat×RV) vs h=>q.1≤A.length∧RI t s p 1 q.2.1 q.2.2.1∧(∀j,∃l,q.2.1.getD j []=c.getD j []++l)∧Cl t s p x q.1 q.2.1∧
              vs=VS (g15+1) s.length v3 p {q.2.2.2.2.2.2.2.2.2.2 with v5:=IN p,v6:=IN cl,v7:=IN i,v8:=IN x,v20:=SA A,v21:=IN A.length,v22:=IN q.1}∧
              h=HPw t s va r0 r1 r2 r3 r4 r8 r9 r11 r12 r13 r14 (g17,.dead) (g15+1) p q.2.2.2.1 q.2.2.2.2.1 q.2.2.2.2.2.1 q.2.1 q.2.2.1 q.2.2.2.2.2.2.1 q.2.2.2.2.2.2.2.1 q.2.2.2.2.2.2.2.2.1 q.2.2.2.2.2.2.2.2.2.1) (fun q=>A.length-q.1) (0,c,kn,_,ver,kv,R18,g19,g20,g26,⟨.uu,.uu,.uu,.uu,_,_,_,_,_,_,_,.uu,.uu,.uu,_,_⟩) ⟨C9 _,q4,fun j=>⟨[],k7⟩,fun a ha=>by simp at ha,rfl,rfl⟩ ?_
             rintro⟨k,c',kn',last,ver,kv,R18,g19,g20,g26,⟨v5,v6,v7,v8,v9,v10,v11,v16,v17,v18,v19,v20,v21,v22,v23,v24⟩⟩ vs h ⟨q6,q7,q8,q9,rfl,rfl⟩ Q4 hK4 hX4 hR4;dsimp only at q6 q7 q8 q9;by_cases hk:k<A.length
             . have hwk:=wk1 k i9;obtain⟨ha1,ha2⟩:=hAok _ (B7 hk);have hcl':(CS p c').length=s.length+1:=(by rw[b1f,q7.len]);have hfs:List.map (B3∘SA) (C0 t)=(C0 t).map SA:=L9 fun _ _=>rfl;have htk:List.take (j4 t).length (List.map SA (C0 t))=(C0 t).map SA:=U4 (by simp[hal]);have hts:List.take (j4 t).length (List.map SP (j4 t))=(j4 t).map SP:=U4 k7;have htc:List.take (s.length+1) (List.map B3 (CS p c'))=(CS p c').map B3:=U4 (by simp[hcl']);have hpr:=fun x4 x5 x6 x7=>b1x t s x4 x5 x6 x7 p A[k].1 i9 hs ht.ok ha1;have hple:=b1S ht A[k].1 ha1;have hpl:(t.rules[A[k].1]).print.length=A7 t A[k].1:=(by unfold A7;rw[u9,l9 ha1];rfl);rw[hgo p _ ha1,hpl]at hpr;simp[HPw,VS,hk,hal,hcl',hfs,htk,hts,htc];refine l7 (hpr _ _ _ _) ?_;cases hgg:M6 t s p A[k].1 with
               |false=>
                simp[hwk];exact hK4 (k+1,c',kn',last,ver,kv,_,g19,g20,g26,⟨.uu,.uu,.uu,.uu,_,_,_,_,_,_,_,.uu,.uu,.uu,_,_⟩) _ _ i9 ⟨m7,q7,q8,q9.succ hgA hk (fun e=>by rw[hgg]at e;cases e),rfl,rfl⟩
               |true=>
                have hle:=a4O hgg;obtain⟨c2,kn2,ver2,kv2,g19',g20',g26',ws,y1,y2,y3,y4,y5⟩:=c8j t s va r0 r1 r2 r3 r4 r8 r9 r11 r12 r13 r14 (g17,.dead) (g15+1) p last ver kv c' kn' (R18.1+1,.var [IN A[k].1,IN A[k].2]) g19 g20 g26 (p+A7 t A[k].1) A[k].2 hs i9 q7 i9 i9 i9 ha2;simp;refine a4A y4 y5 rfl ?_;simp[HPw,hwk];exact hK4 (k+1,c2,kn2,last,ver2,kv2,_,g19',g20',g26',⟨.uu,.uu,.uu,.uu,_,_,_,_,_,_,_,.uu,.uu,.uu,_,_⟩) _ _ i9 ⟨m7,y1,fun j=>by obtain⟨l1,h1⟩:=q8 j;obtain⟨l2,h2⟩:=y2 j;exact⟨l1++l2,by rw[h2,h1,a3u]⟩,(q9.mono (b0d y2)).succ hgA hk (fun _=>y3),rfl,rfl⟩
             . obtain rfl:k=A.length:=i9;simp[VS];refine hX4 _ _ _ ?_;simp[hwi];obtain⟨l1,h1⟩:=q8 p;rw[←hL]at h1;refine hK3 (i+1,c',kn',last,ver,kv,_,g19,g20,g26,⟨.uu,.uu,.uu,_,_,_,_,_,_,_,_,_,_,_,_,_⟩) _ _ i9 ⟨by dsimp only;rw[h1];simp;omega,q7,fun j y hj hy=>?_,by rw[hw6];rfl,rfl⟩;dsimp only at hj hy⊢;rw[h1,a0R i9]at hy;by_cases hji:j=i
               . grind
               . exact(q5 j y i9 hy).mono (b0d q8)
          . have hiL:i=L.length:=i9;obtain⟨q,hq⟩:=p8 (p%5);have hm:(p:Int).tmod 5=(q:Int):=(by grind);have hq5:q<5:=i9;have hk5:=q4.kl;have hqk:q<kn.length:=i9;have hgq:kn.getD q []=kn[q]:=(by grind);have hql:=q4.klen q hq5;rw[hgq]at hql;have hnx:=q4.next i9 fun x hx=>by
             rw[←hL]at hx;obtain⟨j,hj,rfl⟩:=a1F hx;exact q5 j _ i9 (l9 hj)
            rw[←hq,←hL]at hnx;have e1:(kn.map KR).set q (.uslc (List.replicate (j4 t).length (.bool false)))=(kn.set q (List.replicate (j4 t).length false)).map KR:=(by rw[J8];unfold KR;rw[List.map_replicate]);by_cases hLe:L=[]
            . have hFW:FW L=.nils:=(by rw[hLe];rfl);have hi0:i=0:=(by grind);rw[hFW]at hg;have e2:CS p c=CS (p+1) (c.set p (P9 L)):=by
               have h1:=c0o (p:=p) (c:=c) [];rw[hLe];have h2:(CS p c).set p (.agg [DS [],.nils])=CS p c:=by
                apply a4F;intro j;rw[a6D];by_cases hj:p=j
                . grind
                . rw[if_neg hj]
               rw[←h2,h1,show P9 []=[]by simp[P9]]
              subst hi0;simp[HPw,VS,hcsl,hp',hg];refine hX3 _ _ _ ?_;simp[hcsl,hp',hg];refine a2O (hZ _) ?_;simp[hm,hq5,hqk,hk5,hql,e1,e2,hwp];exact hK2 (p+1,c.set p (P9 L),kn.set q (List.replicate (j4 t).length false),last,ver,kv,R18,g19,g20,g26,⟨_,_,_,_,_,_,_,_,_,_,_,_,_,_,_,_⟩) _ _ i9 ⟨m7,hnx,rfl,by simp[HPw,J8]⟩
            . have hFW:FW L=.uslc (L.map IN):=if_neg hLe;rw[hFW]at hg;have hL0:0<L.length:=a2k.2 hLe;simp[HPw,VS,hcsl,hp',hg,hiL];refine hX3 _ _ _ ?_;obtain⟨a,hhd⟩:∃a,L.head?=some a:=by
               cases L with
               |nil=>exact absurd rfl hLe
               |cons a l=>exact⟨a,rfl⟩
              have hss:∀X:PV,((CS p c).set p X)[p]?=some X:=fun X=>(by rw[a6D,if_pos rfl,if_pos i9]);simp[hcsl,hp',hg,hL0,hhd,hss];refine a2O (hS 26 (g26+1) 0 L _ rfl hL0 i9) ?_;have hsl:=b1L L;have hfs:List.map (B3∘IN) (P9 L)=(P9 L).map IN:=L9 fun _ _=>rfl;have e2:(CS p c).set p (.agg [.slc ((P9 L).map IN),.nils])=CS (p+1) (c.set p (P9 L)):=by rw[←c0o,show DS (P9 L)=.slc ((P9 L).map IN)from if_neg (fun e=>by rw[e]at hsl;simp at hsl;omega)]
              simp[hm,hq5,hqk,hk5,hql,e1,hwp,hg,hsl,hss,hfs,e2];exact hK2 (p+1,c.set p (P9 L),kn.set q (List.replicate (j4 t).length false),last,ver+2+1,kv,R18,g19,g20,g26+1,⟨_,_,_,_,_,_,_,_,_,_,_,_,_,_,_,_⟩) _ _ i9 ⟨m7,hnx,rfl,by simp[HPw,J8]⟩
       . obtain rfl:p=s.length+1:=i9;simp[HPw,VS];refine hX2 _ _ _ ?_;simp;refine hN _ [(6,(1,.arr 2 ver false (CS (s.length+1) c))),
          (7,(1,.var (TC t++[St s,.own 5 1 (j4 t).length 3 0 (j4 t).length,.own 10 1 (j4 t).length 1 0 (j4 t).length,.own 6 1 (s.length+1) 2 0 (s.length+1),IN last]))),
          (15,(g15+1,.var [.ptr 7 1 0])),(16,(1,.arr 1 kv false (kn.map KR))),(17,(g17,.dead)),(18,R18),(19,(g19,.dead)),(20,(g20,.dead)),(26,(g26,.dead))] _ _ ⟨c,kn,last,ver,_,_,_,_,g19,g20,g26,rfl,q2,rfl⟩ ?_
         simp[P6,X38]
end
def X39:A0:=
 ⟨109,[0,1,2,3,4,5,6,7,8,9,16,37,38,39,40,70,83,84,85,95,96,97,107,108],26,[],sq [.reg [I0 1 21 0],.reg [F6 1 1,D5 0,ou 3 1,ob 1 2,obr 3,ow 2 (.alloc 22 [.int .i64 0]),ol 1 5 4],.block 0 (.loop (sq [sq [.reg [F6 1 2,ow 10 (.bin .geq false (.l 0) (oi 0))],C4 10 0],.block 1 (sq [.reg [ody 1 1 23,odo 0 23,ocr 6 1 23,T5 1 2 23,ody 1 2 23,obo 2 3 4 23,ow 3 (.alloc 23 [.lit (.pointer none)]),ol 1 6 5],.reg [ody 1 3 24,F6 1 3,D5 1,ou 0 2,ob 1 3,ox 4,oq (.makeSlice 24 1 8 (.int .i64 0) (.l 5) (.l 5)),D5 0,ou 1 7,ol 1 8 6],sq [.reg [F6 1 3,D5 0,ou 0 1,Z2 11 1 2,N0 12 3,oy 13 0],.block 2 (.loop (sq [kh 14 13 12,C4 14 2,.block 3 (sq [.reg [oa 13,N4 1 11 13,ob 1 1,oc 4 0,oc 5 2],.reg [F6 1 3,D5 0,ou 1 1,ob 1 2,oa 4,ot 1 3 4,oq (.store 1 (.l 5) (oi (-1)))],.reg [F6 1 2,F6 1 1,D5 1,ou 3 2,ob 1 3,obr 4,oby 0 5,oo 6,odi 1 1 7,obd 8 7,oaz 0 9 7,⟨.load true 3 (.l 10),none,some (.l 7,true),[]⟩,odi 1 1 7,obd 12 7,oaz 4 13 7,od 1 14 7,og 5 7,oas 3 15 16 7,⟨.load true 3 (.l 17),none,some (.l 7,true),[]⟩,oba 30 11 18 0 0 7,U9 15 7 19],.cond (.v 15) (.reg [F6 1 3,D5 0,ou 1 1,ob 1 2,oa 4,ot 1 3 4,oq (.store 1 (.l 5) (oi 0))]) kd]),kc 13 1 13 0]))],.reg [oq (.mkfn (.func 76) [] [.v 1,.v 3,.v 2]),oc 6 0],sq [.reg [F6 1 3,D5 0,ou 0 1,ob 1 2,N0 16 3,oy 17 0],.block 4 (.loop (sq [kh 18 17 16,C4 18 4,.block 5 (sq [kf 17 7 0,.reg [oa 6,oa 7,oq (.cally (.l 0) [.l 1,.c (.bool false)])]]),kc 17 1 17 0]))],kd,.block 6 (.loop (.block 7 (sq [kj 8,sq [.reg [F6 1 3,D5 0,ou 0 1,ob 1 2,N0 19 3,oy 20 0],.block 8 (.loop (sq [kh 21 20 19,C4 21 8,.block 9 (sq [kf 20 9 0,.reg [oa 6,oa 9,oq (.cally (.l 0) [.l 1,.c (.bool true)]),oo 2,N3 8 3,P5 3 4,oc 8 5]]),kc 20 1 20 0]))],kaa 8 22 0,kan 22 6])))]),sq [.reg [ow 23 (.load false 1 (.v 2))],.reg [ow 2 (.alloc 25 [.int .i64 0]),oq (.store 1 (.l 0) (.v 23))]],.reg [F6 1 2,obe 0 1,K7 1 2 1]]))]⟩
def X76:A0:=
 ⟨104,[0,1,2,3,4,7,8,10,11,12,13,14,27,28,29,30,49,94],27,[(5,none)],sq [kj 5,kj 6,sq [.reg [F6 1 2,D5 0,ou 5 1,ob 1 2,F6 1 3,D5 4,ou 0 5,ob 1 6,oa 0,ot 1 7 8,ob 1 9,ot 1 3 10,Z2 12 1 11,N0 13 12,oy 14 0],.block 0 (.loop (sq [kh 15 14 13,C4 15 0,.block 1 (sq [.reg [N4 2 12 14,J0 2 0,odp 7 26 0 0,ol 2 2 1],.reg [F6 1 2,F6 1 4,oe 0 7,ob 1 2,oq (.call 74 [.l 0,.l 1,.l 3] [(0,0),(0,0)] false),oo 4,oz 5 0,oz 5 1,oc 8 6,oc 9 7],sq [.reg [oa 9,oej 0,oo 1,N3 8 2,⟨.load false 1 (.v 4),none,some (.l 2,false),[]⟩,ocm 3 4 2,N3 1 2,⟨.bin .neq true (.l 5) (.l 6),none,some (.l 2,false),[]⟩,Z8 16 2 7],kan 16 1],.reg [F6 1 2,D5 0,ou 6 1,ob 1 2,oa 8,ot 2 3 4,oe 1 7,ob 1 6,Y6 77 5 7 0 0,oc 10 8],.reg [oa 10,F6 1 2,D5 1,ou 0 2,ou 2 3,ob 1 4,oe 0 7,ob 1 6,ot 6 5 7,ou 1 8,ob 1 9,ox 10,obp 0 11,oc 11 12],.reg [oa 10,ofj 0 0,oo 1,odi 1 3 2,obd 3 2,oaz 1 4 2,od 1 5 2,og 0 2,oas 1 6 7 2,od 1 8 2,obm 9 0 2,⟨.mv (.l 10),none,some (.l 2,true),[]⟩,N3 11 11,⟨.load false 1 (.v 3),none,some (.l 11,false),[]⟩,⟨.nilchk (.l 13),none,some (.l 11,false),[]⟩,⟨.fieldAddr 1 (.l 14),none,some (.l 11,false),[]⟩,om 1 15 11,N3 0 11,ocx 1 16 17 11,om 1 18 11,odq 12 19 11,oew 11 20 2,U9 17 2 21],.cond (.v 17) (sq [.reg [F6 1 3,D5 0,ou 1 1,ob 1 2,oa 0,oa 11,ot 1 3 4,ol 1 6 5],kae 6]) kd]),kc 14 1 14 0]))],kf 6 5 0,ko]⟩
theorem c39:S0 Tryz.prog 39 21=some {X39 with body:=strip X39.body}:=by kernel_rfl
theorem c76:S0 Tryz.prog 76 26=some {X76 with body:=strip X76.body}:=by kernel_rfl
abbrev DC(L:List Nat)(D:List Int):PV:=.agg [DS L,.uslc (D.map I)]
@[simp] theorem d2w(l:List Nat):M1 (DS l)=.slc (l.map IN):=by
 unfold DS;split
 . rename_i h;rw[h];rfl
 . rfl
theorem b0f(t:j9)(ht:s5 t)(s:By)(hs:s.length≤1100000000)(va:Nat)(r0 r1 r2 r3 r4 r8 r9 r11 r12 r13 r14 r15 r16 r17 r18 r19 r20 R22 r24 R25 r26:Row)(gw gc gp kp last ver:Nat)
 (K:List PV) (p:Nat) (L:List Nat) (c:Nat→List Nat) (C:Nat→List Int) (D:List Int) (i:Nat) (silent:Bool) (M:Int)
 (hkp:kp=22∧R22=(gp,.var [IN p])∨kp=25∧R25=(gp,.var [IN p])) (hK:K.length=s.length+1) (hp:p≤s.length) (hKn:∀x∈K,D4 x=true)
 (hKj:∀j,p<j→j≤s.length→K[j]?=some (DC (c j) (C j))) (hcj:∀j,p<j→j≤s.length→(c j).Pairwise (· < ·)∧(C j).length=(c j).length∧(c j).length≤3072∧∀x∈C j,x≤M)
 (hL:L.Pairwise (· < ·)) (hD:D.length=L.length) (hLN:∀x∈L,x<(j4 t).length) (hL3:L.length≤3072) (hi:i<L.length) (hDM:∀x∈D,x≤M) (hM0:0≤M) (hM:M≤1000000000000000):
 ∃r ws,(∃ver2 g26 o26,r=B (T4 t s p L c C i silent D ((C0 t).getD (L.getD i 0) [])).2∧
  ws=[(6,(1,.arr 2 ver2 false (K.set p (DC L (T4 t s p L c C i silent D ((C0 t).getD (L.getD i 0) [])).1)))),(26,(g26,o26))])∧
 FI Tryz.prog (.fn (.func 76) [] [.ptr 21 gw 0,.ptr 23 gc 0,.ptr kp gp 0]) [IN i,B silent] [r0,r1,r2,r3,r4,(1,.arr 3 1 true (F4 (j4 t))),(1,.arr 2 ver false (K.set p (DC L D))),
  (1,.var (TC t++[St s,.own 5 1 (j4 t).length 3 0 (j4 t).length,.own 10 1 (j4 t).length 1 0 (j4 t).length,.own 6 1 (s.length+1) 2 0 (s.length+1),IN last])),
  r8,r9,(1,.arr 1 va true ((C0 t).map SA)),r11,r12,r13,r14,r15,r16,r17,r18,r19,r20,(gw,.var [.ptr 7 1 0]),R22,(gc,.var [.eptr 6 1 (s.length+1) 2 p 0]),r24,R25,r26] r ws:=by
 have hN:=a1g ht;have hx:L[i]<(j4 t).length:=hLN _ (B7 hi);have hLi:L.getD i 0=L[i]:=by rw[u9,l9 hi];rfl
 rw[hLi];obtain⟨x,hxe⟩:=p8 (L[i]);rw[←hxe]at hx⊢;obtain⟨A,hA⟩:=p8 (a0p t (j4 t)[x] t.rules.length);have hal:(C0 t).length=(j4 t).length:=by simp[C0]
 have hxA:(C0 t)[x]'i9=A:=by simp[C0,hA]
 have hgA:(C0 t).getD x []=A:=by rw[u9,l9 i9,hxA];rfl
 rw[hgA];have hAl:A.length≤64:=by have:=b0Z t (j4 t)[x] t.rules.length;have:=ht.l64;rw[hA];omega
 have hAok:∀a∈A,a.1<t.rules.length∧a.2<(j4 t).length:=fun a ha=>b7g ht (B7 hx) (hA▸ha) (m0 _);have hDS:DS L=.slc (L.map IN):=if_neg (fun e=>by subst e;simp at hi);have hss:∀X:PV,(K.set p X)[p]?=some X:=fun X=>by rw[a6D,if_pos rfl,if_pos i9]
 have hpi:(p:Int)<(s.length:Int)+1:=i9;have hDc:∀l:List Int,DC L l=.agg [.slc (L.map IN),.uslc (l.map I)]:=fun l=>by unfold DC;rw[hDS]
 have hst:∀k,(hk:k<A.length)→(A.take (k+1)).foldl (L8 t s p L c C i silent) (D,false)=L8 t s p L c C i silent ((A.take k).foldl (L8 t s p L c C i silent) (D,false)) A[k]:=fun k hk=>by rw[J2,l9 hk,List.foldl_append];rfl
 have hstl:∀k,((A.take k).foldl (L8 t s p L c C i silent) (D,false)).1.length=L.length:=fun k=>by have:=b6w (t:=t) (s:=s) (p:=p) (L:=L) (c:=c) (C:=C) (i:=i) (silent:=silent) (A.take k) D;rw[←hD];exact this
 rcases hkp with⟨rfl,rfl⟩|⟨rfl,rfl⟩
 . refine a3L mixed (X:=X76) c76 (by rfl) (by simp[X76]) k7 (by kernel_rfl) fun Q hR hN=>?_;simp[X76,DC,hss,hDS,hK,hp,hpi,hi,←hxe,hx,hal,hxA];refine E3 (fun(q:Nat×Nat×Row×PV×PV×PV×PV×PV×PV×PV×PV) vs h=>q.1≤A.length∧(∀x∈((A.take q.1).foldl (L8 t s p L c C i silent) (D,false)).1,x≤M+4*q.1)∧
    vs=[IN i,B silent,.ptr 21 gw 0,.ptr 23 gc 0,.ptr 22 gp 0,B false,B ((A.take q.1).foldl (L8 t s p L c C i silent) (D,false)).2,q.2.2.2.1,q.2.2.2.2.1,q.2.2.2.2.2.1,q.2.2.2.2.2.2.1,q.2.2.2.2.2.2.2.1,.slc (A.map ARw),IN A.length,IN q.1,q.2.2.2.2.2.2.2.2.1,q.2.2.2.2.2.2.2.2.2.1,q.2.2.2.2.2.2.2.2.2.2]∧
    h=[r0,r1,r2,r3,r4,(1,.arr 3 1 true (F4 (j4 t))),(1,.arr 2 q.2.1 false (K.set p (.agg [.slc (L.map IN),.uslc (((A.take q.1).foldl (L8 t s p L c C i silent) (D,false)).1.map I)]))),
     (1,.var (TC t++[St s,.own 5 1 (j4 t).length 3 0 (j4 t).length,.own 10 1 (j4 t).length 1 0 (j4 t).length,.own 6 1 (s.length+1) 2 0 (s.length+1),IN last])),
     r8,r9,(1,.arr 1 va true ((C0 t).map SA)),r11,r12,r13,r14,r15,r16,r17,r18,r19,r20,(gw,.var [.ptr 7 1 0]),(gp,.var [IN p]),(gc,.var [.eptr 6 1 (s.length+1) 2 p 0]),r24,R25,q.2.2.1]) (fun q=>A.length-q.1) (0,ver,r26,.uu,.uu,.uu,.uu,.uu,.uu,.uu,.uu) ⟨C9 _,fun x hx=>by have:=hDM x hx;omega,rfl,rfl⟩ ?_
   rintro⟨k,ver,R26,v7,v8,v9,v10,v11,v15,v16,v17⟩ vs h ⟨q1,q2,rfl,rfl⟩ Q2 hK2 hX2 hR2;dsimp only at q1 q2;by_cases hk:k<A.length
   . have hwk:=wk1 k i9;obtain⟨ha1,ha2⟩:=hAok _ (B7 hk);have hstk:=hst k hk;have hlk:=hstl k;have hM2:∀m:Nat,M+4*(m:Int)≤M+4*((m+1:Nat):Int):=fun m=>(by omega);generalize(A.take k).foldl (L8 t s p L c C i silent) (D,false)=st at q2 hstk hlk hK2 hX2 hR2⊢;obtain⟨E,b⟩:=st;dsimp only at q2 hlk;have hKs:∀X:PV,D4 X=true→(∀x,x∈K.set p X→D4 x=true)=True:=fun X hX=>eq_true fun x hx=>by
      rcases a2E hx with h|h
      . exact hKn x h
      . rw[h];exact hX
     have hKe:=hKs (.agg [.slc (L.map IN),.uslc (E.map I)]) rfl;have hfs:List.map (B3∘SA) (C0 t)=(C0 t).map SA:=L9 fun _ _=>rfl;have htk:List.take (j4 t).length (List.map SA (C0 t))=(C0 t).map SA:=U4 (by simp[hal]);have hts:List.take (j4 t).length (List.map SP (j4 t))=(j4 t).map SP:=U4 k7;have hpr:=fun x4 x5 x6 x7=>b1x t s x4 x5 x6 x7 p A[k].1 hp hs ht.ok ha1;have hple:=b1S ht A[k].1 ha1;have hpl:(t.rules[A[k].1]).print.length=A7 t A[k].1:=(by unfold A7;rw[u9,l9 ha1];rfl);have hgo:(t.rules[A[k].1]).print.isPrefixOf (s.drop p)=M6 t s p A[k].1:=(by unfold M6;rw[u9,l9 ha1];rfl);rw[hgo,hpl]at hpr;simp[hk,hal,hK,hfs,htk,hts,hKe];obtain⟨nx,hnx⟩:=p8 (p+A7 t A[k].1);rw[←hnx]at hpr;refine l7 (hpr _ _ _ _) ?_;cases hgg:M6 t s p A[k].1 with
     |false=>
      have hsk:(A.take (k+1)).foldl (L8 t s p L c C i silent) (D,false)=(E,b):=(by rw[hstk];unfold L8;rw[hgg];rfl);simp[hwk];exact hK2 (k+1,ver,_,_,_,_,_,_,_,_,_) _ _ m7 ⟨m7,fun y hy=>by dsimp only at hy⊢;rw[hsk]at hy;exact a0F (q2 y hy) (hM2 k),by rw[hsk];rfl,by rw[hsk];rfl⟩
     |true=>
      have hle:=a4O hgg;by_cases hskip:decide (A7 t A[k].1=0)=silent
      . have hiE:i<E.length:=i9;have hgE:E.getD i 0=E[i]:=(by rw[u9,l9 hiE];rfl);have hcl:(t.rules[A[k].1]).cells.length=s7 t A[k].1:=(by unfold s7;rw[u9,l9 ha1];rfl);have hc4:s7 t A[k].1≤4:=hcl▸(a3F (ht.sound _ (B7 ha1))).c4;have himp:L8 t s p L c C i silent (E,b) A[k]=(if 0≤I1 t p L c C E A[k]∧(E[i]<0∨I1 t p L c C E A[k]+s7 t A[k].1<E[i])then(E.set i (I1 t p L c C E A[k]+s7 t A[k].1),true)else(E,b)):=by
         unfold L8;rw[if_pos ⟨hgg,hskip⟩];dsimp only;rw[hgE]
        have hKj2:0<A7 t A[k].1→∀X:PV,(K.set p X)[p+A7 t A[k].1]?=some (DC (c (p+A7 t A[k].1)) (C (p+A7 t A[k].1))):=fun h X=>by rw[a6D,if_neg i9];exact hKj _ i9 i9
        by_cases hz:A7 t A[k].1=0
        . have hsi:silent=true:=(by rw[←hskip];simp[hz]);subst hsi;have hfind:=a9q L E A[k].2 hL i9 hlk;have hRR:I1 t p L c C E A[k]=S9 L E A[k].2:=(by unfold I1;rw[if_pos hz]);have hRM:S9 L E A[k].2≤M+4*k:=a5Z q2 i9 _;obtain⟨R,hRe⟩:=p8 (S9 L E A[k].2);rw[←hRe]at hfind hRR hRM;rw[hRR]at himp;rw[himp]at hstk;have hnp:nx=p:=i9;simp[hnp,hss,hpi,hK];refine l7 hfind ?_;by_cases h0:0≤R
          . have hw:IntKind.i64.wrap (R+(s7 t A[k].1:Int))=R+(s7 t A[k].1:Int):=O5;by_cases h1:E[i]<0
            . have hsk:=hstk.trans (if_pos ⟨h0,.inl h1⟩);simp[ha1,hcl,hw,h0,h1,hss,hpi,hK,hiE,hDS,hwk];exact hK2 (k+1,ver,(R26.1+1,.var [IN A[k].1,IN A[k].2]),_,_,_,_,_,_,_,_) _ _ m7 ⟨m7,fun y hy=>by
               dsimp only at hy⊢;rw[hsk]at hy;rcases a2E hy with hy|hy
               . exact a0F (q2 y hy) (hM2 k)
               . rw[hy];omega,by rw[hsk];rfl,by rw[hsk];simp[J8]⟩
            . by_cases h2:R+(s7 t A[k].1:Int)<E[i]
              . have hsk:=hstk.trans (if_pos ⟨h0,.inr h2⟩);simp[ha1,hcl,hw,h0,h1,h2,hss,hpi,hK,hiE,hDS,hwk];exact hK2 (k+1,ver,(R26.1+1,.var [IN A[k].1,IN A[k].2]),_,_,_,_,_,_,_,_) _ _ m7 ⟨m7,fun y hy=>by
                 dsimp only at hy⊢;rw[hsk]at hy;rcases a2E hy with hy|hy
                 . exact a0F (q2 y hy) (hM2 k)
                 . rw[hy];omega,by rw[hsk];rfl,by rw[hsk];simp[J8]⟩
              . have hsk:=hstk.trans (if_neg (fun e=>e.2.elim h1 h2));simp[ha1,hcl,hw,h0,h1,h2,hss,hpi,hK,hiE,hDS,hwk];exact hK2 (k+1,ver,_,_,_,_,_,_,_,_,_) _ _ m7 ⟨m7,fun y hy=>by dsimp only at hy⊢;rw[hsk]at hy;exact a0F (q2 y hy) (hM2 k),by rw[hsk];rfl,by rw[hsk];rfl⟩
          . have hsk:=hstk.trans (if_neg (fun e=>h0 e.1));simp[ha1,hcl,h0,hwk];exact hK2 (k+1,ver,_,_,_,_,_,_,_,_,_) _ _ m7 ⟨m7,fun y hy=>by dsimp only at hy⊢;rw[hsk]at hy;exact a0F (q2 y hy) (hM2 k),by rw[hsk];rfl,by rw[hsk];rfl⟩
        . have hsi:silent=false:=(by rw[←hskip];simp[hz]);subst hsi;obtain⟨z1,z2,z3,z4⟩:=hcj (p+A7 t A[k].1) i9 i9;have hfind:=a9q (c (p+A7 t A[k].1)) (C (p+A7 t A[k].1)) A[k].2 z1 i9 z2;have hRR:I1 t p L c C E A[k]=S9 (c (p+A7 t A[k].1)) (C (p+A7 t A[k].1)) A[k].2:=(by unfold I1;rw[if_neg hz]);have hRM:S9 (c (p+A7 t A[k].1)) (C (p+A7 t A[k].1)) A[k].2≤M+4*k:=(by have:=a5Z (L:=c (p+A7 t A[k].1)) z4 i9 A[k].2;omega);obtain⟨R,hRe⟩:=p8 (S9 (c (p+A7 t A[k].1)) (C (p+A7 t A[k].1)) A[k].2);rw[←hRe]at hfind hRR hRM;rw[hRR]at himp;rw[himp]at hstk;have hnp:¬nx=p:=i9;have hz3:(nx:Int)<(s.length:Int)+1:=i9;have hz4:nx<s.length+1:=i9;have hKj3:=hKj2 i9;rw[←hnx]at hKj3 hfind hRe;have hKg:∀(X:PV) (h:nx<(K.set p X).length),(K.set p X)[nx]=DC (c nx) (C nx):=fun X h=>by
           have:=hKj3 X;rw[l9 h]at this;exact W6 this
          simp[hKg,hnp,hz3,hz4,hKj3,hK,DC];refine l7 hfind ?_;by_cases h0:0≤R
          . have hw:IntKind.i64.wrap (R+(s7 t A[k].1:Int))=R+(s7 t A[k].1:Int):=O5;by_cases h1:E[i]<0
            . have hsk:=hstk.trans (if_pos ⟨h0,.inl h1⟩);simp[ha1,hcl,hw,h0,h1,hss,hpi,hK,hiE,hDS,hwk];exact hK2 (k+1,ver,(R26.1+1,.var [IN A[k].1,IN A[k].2]),_,_,_,_,_,_,_,_) _ _ m7 ⟨m7,fun y hy=>by
               dsimp only at hy⊢;rw[hsk]at hy;rcases a2E hy with hy|hy
               . exact a0F (q2 y hy) (hM2 k)
               . rw[hy];omega,by rw[hsk];rfl,by rw[hsk];simp[J8]⟩
            . by_cases h2:R+(s7 t A[k].1:Int)<E[i]
              . have hsk:=hstk.trans (if_pos ⟨h0,.inr h2⟩);simp[ha1,hcl,hw,h0,h1,h2,hss,hpi,hK,hiE,hDS,hwk];exact hK2 (k+1,ver,(R26.1+1,.var [IN A[k].1,IN A[k].2]),_,_,_,_,_,_,_,_) _ _ m7 ⟨m7,fun y hy=>by
                 dsimp only at hy⊢;rw[hsk]at hy;rcases a2E hy with hy|hy
                 . exact a0F (q2 y hy) (hM2 k)
                 . rw[hy];omega,by rw[hsk];rfl,by rw[hsk];simp[J8]⟩
              . have hsk:=hstk.trans (if_neg (fun e=>e.2.elim h1 h2));simp[ha1,hcl,hw,h0,h1,h2,hss,hpi,hK,hiE,hDS,hwk];exact hK2 (k+1,ver,_,_,_,_,_,_,_,_,_) _ _ m7 ⟨m7,fun y hy=>by dsimp only at hy⊢;rw[hsk]at hy;exact a0F (q2 y hy) (hM2 k),by rw[hsk];rfl,by rw[hsk];rfl⟩
          . have hsk:=hstk.trans (if_neg (fun e=>h0 e.1));simp[ha1,hcl,h0,hwk];exact hK2 (k+1,ver,_,_,_,_,_,_,_,_,_) _ _ m7 ⟨m7,fun y hy=>by dsimp only at hy⊢;rw[hsk]at hy;exact a0F (q2 y hy) (hM2 k),by rw[hsk];rfl,by rw[hsk];rfl⟩
      . have hsk:(A.take (k+1)).foldl (L8 t s p L c C i silent) (D,false)=(E,b):=(by rw[hstk];unfold L8;rw[if_neg (fun e=>hskip e.2)]);have hsk2:(decide (A7 t A[k].1=0)==silent)=false:=(by simpa using hskip);by_cases hz:A7 t A[k].1=0
        . have hsi:silent=false:=(by simpa[hz]using hskip);subst hsi;have hnp:nx=p:=i9;simp[hwk,hnp];exact hK2 (k+1,ver,_,_,_,_,_,_,_,_,_) _ _ m7 ⟨m7,fun y hy=>by dsimp only at hy⊢;rw[hsk]at hy;exact a0F (q2 y hy) (hM2 k),by rw[hsk];rfl,by rw[hsk];rfl⟩
        . have hsi:silent=true:=(by simpa[hz]using hskip);subst hsi;have hnp:¬nx=p:=i9;simp[hwk,hnp];exact hK2 (k+1,ver,_,_,_,_,_,_,_,_,_) _ _ m7 ⟨m7,fun y hy=>by dsimp only at hy⊢;rw[hsk]at hy;exact a0F (q2 y hy) (hM2 k),by rw[hsk];rfl,by rw[hsk];rfl⟩
   . obtain rfl:k=A.length:=i9;rw[J7];simp;refine hX2 _ _ _ ?_;simp;refine hR _ [(6,(1,.arr 2 ver false (K.set p (DC L (T4 t s p L c C i silent D A).1)))),(26,R26)] _ _ ⟨ver,R26.1,R26.2,rfl,rfl⟩ ?_;rw[hDc];simp[P6,X76];exact⟨rfl,by rw[←hDc];rfl⟩
 . refine a3L mixed (X:=X76) c76 (by rfl) (by simp[X76]) k7 (by kernel_rfl) fun Q hR hN=>?_;simp[X76,DC,hss,hDS,hK,hp,hpi,hi,←hxe,hx,hal,hxA];refine E3 (fun(q:Nat×Nat×Row×PV×PV×PV×PV×PV×PV×PV×PV) vs h=>q.1≤A.length∧(∀x∈((A.take q.1).foldl (L8 t s p L c C i silent) (D,false)).1,x≤M+4*q.1)∧
    vs=[IN i,B silent,.ptr 21 gw 0,.ptr 23 gc 0,.ptr 25 gp 0,B false,B ((A.take q.1).foldl (L8 t s p L c C i silent) (D,false)).2,q.2.2.2.1,q.2.2.2.2.1,q.2.2.2.2.2.1,q.2.2.2.2.2.2.1,q.2.2.2.2.2.2.2.1,.slc (A.map ARw),IN A.length,IN q.1,q.2.2.2.2.2.2.2.2.1,q.2.2.2.2.2.2.2.2.2.1,q.2.2.2.2.2.2.2.2.2.2]∧
    h=[r0,r1,r2,r3,r4,(1,.arr 3 1 true (F4 (j4 t))),(1,.arr 2 q.2.1 false (K.set p (.agg [.slc (L.map IN),.uslc (((A.take q.1).foldl (L8 t s p L c C i silent) (D,false)).1.map I)]))),
     (1,.var (TC t++[St s,.own 5 1 (j4 t).length 3 0 (j4 t).length,.own 10 1 (j4 t).length 1 0 (j4 t).length,.own 6 1 (s.length+1) 2 0 (s.length+1),IN last])),
     r8,r9,(1,.arr 1 va true ((C0 t).map SA)),r11,r12,r13,r14,r15,r16,r17,r18,r19,r20,(gw,.var [.ptr 7 1 0]),R22,(gc,.var [.eptr 6 1 (s.length+1) 2 p 0]),r24,(gp,.var [IN p]),q.2.2.1]) (fun q=>A.length-q.1) (0,ver,r26,.uu,.uu,.uu,.uu,.uu,.uu,.uu,.uu) ⟨C9 _,fun x hx=>by have:=hDM x hx;omega,rfl,rfl⟩ ?_
   rintro⟨k,ver,R26,v7,v8,v9,v10,v11,v15,v16,v17⟩ vs h ⟨q1,q2,rfl,rfl⟩ Q2 hK2 hX2 hR2;dsimp only at q1 q2;by_cases hk:k<A.length
   . have hwk:=wk1 k i9;obtain⟨ha1,ha2⟩:=hAok _ (B7 hk);have hstk:=hst k hk;have hlk:=hstl k;have hM2:∀m:Nat,M+4*(m:Int)≤M+4*((m+1:Nat):Int):=fun m=>(by omega);generalize(A.take k).foldl (L8 t s p L c C i silent) (D,false)=st at q2 hstk hlk hK2 hX2 hR2⊢;obtain⟨E,b⟩:=st;dsimp only at q2 hlk;have hKs:∀X:PV,D4 X=true→(∀x,x∈K.set p X→D4 x=true)=True:=fun X hX=>eq_true fun x hx=>by
      rcases a2E hx with h|h
      . exact hKn x h
      . rw[h];exact hX
     have hKe:=hKs (.agg [.slc (L.map IN),.uslc (E.map I)]) rfl;have hfs:List.map (B3∘SA) (C0 t)=(C0 t).map SA:=L9 fun _ _=>rfl;have htk:List.take (j4 t).length (List.map SA (C0 t))=(C0 t).map SA:=U4 (by simp[hal]);have hts:List.take (j4 t).length (List.map SP (j4 t))=(j4 t).map SP:=U4 k7;have hpr:=fun x4 x5 x6 x7=>b1x t s x4 x5 x6 x7 p A[k].1 hp hs ht.ok ha1;have hple:=b1S ht A[k].1 ha1;have hpl:(t.rules[A[k].1]).print.length=A7 t A[k].1:=(by unfold A7;rw[u9,l9 ha1];rfl);have hgo:(t.rules[A[k].1]).print.isPrefixOf (s.drop p)=M6 t s p A[k].1:=(by unfold M6;rw[u9,l9 ha1];rfl);rw[hgo,hpl]at hpr;simp[hk,hal,hK,hfs,htk,hts,hKe];obtain⟨nx,hnx⟩:=p8 (p+A7 t A[k].1);rw[←hnx]at hpr;refine l7 (hpr _ _ _ _) ?_;cases hgg:M6 t s p A[k].1 with
     |false=>
      have hsk:(A.take (k+1)).foldl (L8 t s p L c C i silent) (D,false)=(E,b):=(by rw[hstk];unfold L8;rw[hgg];rfl);simp[hwk];exact hK2 (k+1,ver,_,_,_,_,_,_,_,_,_) _ _ m7 ⟨m7,fun y hy=>by dsimp only at hy⊢;rw[hsk]at hy;exact a0F (q2 y hy) (hM2 k),by rw[hsk];rfl,by rw[hsk];rfl⟩
     |true=>
      have hle:=a4O hgg;by_cases hskip:decide (A7 t A[k].1=0)=silent
      . have hiE:i<E.length:=i9;have hgE:E.getD i 0=E[i]:=(by rw[u9,l9 hiE];rfl);have hcl:(t.rules[A[k].1]).cells.length=s7 t A[k].1:=(by unfold s7;rw[u9,l9 ha1];rfl);have hc4:s7 t A[k].1≤4:=hcl▸(a3F (ht.sound _ (B7 ha1))).c4;have himp:L8 t s p L c C i silent (E,b) A[k]=(if 0≤I1 t p L c C E A[k]∧(E[i]<0∨I1 t p L c C E A[k]+s7 t A[k].1<E[i])then(E.set i (I1 t p L c C E A[k]+s7 t A[k].1),true)else(E,b)):=by
         unfold L8;rw[if_pos ⟨hgg,hskip⟩];dsimp only;rw[hgE]
        have hKj2:0<A7 t A[k].1→∀X:PV,(K.set p X)[p+A7 t A[k].1]?=some (DC (c (p+A7 t A[k].1)) (C (p+A7 t A[k].1))):=fun h X=>by rw[a6D,if_neg i9];exact hKj _ i9 i9
        by_cases hz:A7 t A[k].1=0
        . have hsi:silent=true:=(by rw[←hskip];simp[hz]);subst hsi;have hfind:=a9q L E A[k].2 hL i9 hlk;have hRR:I1 t p L c C E A[k]=S9 L E A[k].2:=(by unfold I1;rw[if_pos hz]);have hRM:S9 L E A[k].2≤M+4*k:=a5Z q2 i9 _;obtain⟨R,hRe⟩:=p8 (S9 L E A[k].2);rw[←hRe]at hfind hRR hRM;rw[hRR]at himp;rw[himp]at hstk;have hnp:nx=p:=i9;simp[hnp,hss,hpi,hK];refine l7 hfind ?_;by_cases h0:0≤R
          . have hw:IntKind.i64.wrap (R+(s7 t A[k].1:Int))=R+(s7 t A[k].1:Int):=O5;by_cases h1:E[i]<0
            . have hsk:=hstk.trans (if_pos ⟨h0,.inl h1⟩);simp[ha1,hcl,hw,h0,h1,hss,hpi,hK,hiE,hDS,hwk];exact hK2 (k+1,ver,(R26.1+1,.var [IN A[k].1,IN A[k].2]),_,_,_,_,_,_,_,_) _ _ m7 ⟨m7,fun y hy=>by
               dsimp only at hy⊢;rw[hsk]at hy;rcases a2E hy with hy|hy
               . exact a0F (q2 y hy) (hM2 k)
               . rw[hy];omega,by rw[hsk];rfl,by rw[hsk];simp[J8]⟩
            . by_cases h2:R+(s7 t A[k].1:Int)<E[i]
              . have hsk:=hstk.trans (if_pos ⟨h0,.inr h2⟩);simp[ha1,hcl,hw,h0,h1,h2,hss,hpi,hK,hiE,hDS,hwk];exact hK2 (k+1,ver,(R26.1+1,.var [IN A[k].1,IN A[k].2]),_,_,_,_,_,_,_,_) _ _ m7 ⟨m7,fun y hy=>by
                 dsimp only at hy⊢;rw[hsk]at hy;rcases a2E hy with hy|hy
                 . exact a0F (q2 y hy) (hM2 k)
                 . rw[hy];omega,by rw[hsk];rfl,by rw[hsk];simp[J8]⟩
              . have hsk:=hstk.trans (if_neg (fun e=>e.2.elim h1 h2));simp[ha1,hcl,hw,h0,h1,h2,hss,hpi,hK,hiE,hDS,hwk];exact hK2 (k+1,ver,_,_,_,_,_,_,_,_,_) _ _ m7 ⟨m7,fun y hy=>by dsimp only at hy⊢;rw[hsk]at hy;exact a0F (q2 y hy) (hM2 k),by rw[hsk];rfl,by rw[hsk];rfl⟩
          . have hsk:=hstk.trans (if_neg (fun e=>h0 e.1));simp[ha1,hcl,h0,hwk];exact hK2 (k+1,ver,_,_,_,_,_,_,_,_,_) _ _ m7 ⟨m7,fun y hy=>by dsimp only at hy⊢;rw[hsk]at hy;exact a0F (q2 y hy) (hM2 k),by rw[hsk];rfl,by rw[hsk];rfl⟩
        . have hsi:silent=false:=(by rw[←hskip];simp[hz]);subst hsi;obtain⟨z1,z2,z3,z4⟩:=hcj (p+A7 t A[k].1) i9 i9;have hfind:=a9q (c (p+A7 t A[k].1)) (C (p+A7 t A[k].1)) A[k].2 z1 i9 z2;have hRR:I1 t p L c C E A[k]=S9 (c (p+A7 t A[k].1)) (C (p+A7 t A[k].1)) A[k].2:=(by unfold I1;rw[if_neg hz]);have hRM:S9 (c (p+A7 t A[k].1)) (C (p+A7 t A[k].1)) A[k].2≤M+4*k:=(by have:=a5Z (L:=c (p+A7 t A[k].1)) z4 i9 A[k].2;omega);obtain⟨R,hRe⟩:=p8 (S9 (c (p+A7 t A[k].1)) (C (p+A7 t A[k].1)) A[k].2);rw[←hRe]at hfind hRR hRM;rw[hRR]at himp;rw[himp]at hstk;have hnp:¬nx=p:=i9;have hz3:(nx:Int)<(s.length:Int)+1:=i9;have hz4:nx<s.length+1:=i9;have hKj3:=hKj2 i9;rw[←hnx]at hKj3 hfind hRe;have hKg:∀(X:PV) (h:nx<(K.set p X).length),(K.set p X)[nx]=DC (c nx) (C nx):=fun X h=>by
           have:=hKj3 X;rw[l9 h]at this;exact W6 this
          simp[hKg,hnp,hz3,hz4,hKj3,hK,DC];refine l7 hfind ?_;by_cases h0:0≤R
          . have hw:IntKind.i64.wrap (R+(s7 t A[k].1:Int))=R+(s7 t A[k].1:Int):=O5;by_cases h1:E[i]<0
            . have hsk:=hstk.trans (if_pos ⟨h0,.inl h1⟩);simp[ha1,hcl,hw,h0,h1,hss,hpi,hK,hiE,hDS,hwk];exact hK2 (k+1,ver,(R26.1+1,.var [IN A[k].1,IN A[k].2]),_,_,_,_,_,_,_,_) _ _ m7 ⟨m7,fun y hy=>by
               dsimp only at hy⊢;rw[hsk]at hy;rcases a2E hy with hy|hy
               . exact a0F (q2 y hy) (hM2 k)
               . rw[hy];omega,by rw[hsk];rfl,by rw[hsk];simp[J8]⟩
            . by_cases h2:R+(s7 t A[k].1:Int)<E[i]
              . have hsk:=hstk.trans (if_pos ⟨h0,.inr h2⟩);simp[ha1,hcl,hw,h0,h1,h2,hss,hpi,hK,hiE,hDS,hwk];exact hK2 (k+1,ver,(R26.1+1,.var [IN A[k].1,IN A[k].2]),_,_,_,_,_,_,_,_) _ _ m7 ⟨m7,fun y hy=>by
                 dsimp only at hy⊢;rw[hsk]at hy;rcases a2E hy with hy|hy
                 . exact a0F (q2 y hy) (hM2 k)
                 . rw[hy];omega,by rw[hsk];rfl,by rw[hsk];simp[J8]⟩
              . have hsk:=hstk.trans (if_neg (fun e=>e.2.elim h1 h2));simp[ha1,hcl,hw,h0,h1,h2,hss,hpi,hK,hiE,hDS,hwk];exact hK2 (k+1,ver,_,_,_,_,_,_,_,_,_) _ _ m7 ⟨m7,fun y hy=>by dsimp only at hy⊢;rw[hsk]at hy;exact a0F (q2 y hy) (hM2 k),by rw[hsk];rfl,by rw[hsk];rfl⟩
          . have hsk:=hstk.trans (if_neg (fun e=>h0 e.1));simp[ha1,hcl,h0,hwk];exact hK2 (k+1,ver,_,_,_,_,_,_,_,_,_) _ _ m7 ⟨m7,fun y hy=>by dsimp only at hy⊢;rw[hsk]at hy;exact a0F (q2 y hy) (hM2 k),by rw[hsk];rfl,by rw[hsk];rfl⟩
      . have hsk:(A.take (k+1)).foldl (L8 t s p L c C i silent) (D,false)=(E,b):=(by rw[hstk];unfold L8;rw[if_neg (fun e=>hskip e.2)]);have hsk2:(decide (A7 t A[k].1=0)==silent)=false:=(by simpa using hskip);by_cases hz:A7 t A[k].1=0
        . have hsi:silent=false:=(by simpa[hz]using hskip);subst hsi;have hnp:nx=p:=i9;simp[hwk,hnp];exact hK2 (k+1,ver,_,_,_,_,_,_,_,_,_) _ _ m7 ⟨m7,fun y hy=>by dsimp only at hy⊢;rw[hsk]at hy;exact a0F (q2 y hy) (hM2 k),by rw[hsk];rfl,by rw[hsk];rfl⟩
        . have hsi:silent=true:=(by simpa[hz]using hskip);subst hsi;have hnp:¬nx=p:=i9;simp[hwk,hnp];exact hK2 (k+1,ver,_,_,_,_,_,_,_,_,_) _ _ m7 ⟨m7,fun y hy=>by dsimp only at hy⊢;rw[hsk]at hy;exact a0F (q2 y hy) (hM2 k),by rw[hsk];rfl,by rw[hsk];rfl⟩
   . obtain rfl:k=A.length:=i9;rw[J7];simp;refine hX2 _ _ _ ?_;simp;refine hR _ [(6,(1,.arr 2 ver false (K.set p (DC L (T4 t s p L c C i silent D A).1)))),(26,R26)] _ _ ⟨ver,R26.1,R26.2,rfl,rfl⟩ ?_;rw[hDc];simp[P6,X76];exact⟨rfl,by rw[←hDc];rfl⟩
section
variable{D:List Int}{t:j9}{p i:Nat}{L:List Nat}{c:Nat→List Nat}{C:Nat→List Int}{s:By}{A:List (Nat×Nat)}
theorem a8p(t:j9)(s:By)(p:Nat)(L:List Nat)(c:Nat→List Nat)(C:Nat→List Int)(i:Nat)(silent:Bool)(st:List Int×Bool)(a:Nat×Nat):
 (L8 t s p L c C i silent st a=st∧(M6 t s p a.1=true→decide (A7 t a.1=0)=silent→0≤I1 t p L c C st.1 a→0≤st.1.getD i 0∧st.1.getD i 0≤I1 t p L c C st.1 a+s7 t a.1))∨
 (M6 t s p a.1=true∧decide (A7 t a.1=0)=silent∧0≤I1 t p L c C st.1 a∧(st.1.getD i 0<0∨I1 t p L c C st.1 a+s7 t a.1<st.1.getD i 0)∧
  L8 t s p L c C i silent st a=(st.1.set i (I1 t p L c C st.1 a+s7 t a.1),true)):=by
 unfold L8;by_cases h1:M6 t s p a.1=true∧decide (A7 t a.1=0)=silent
 . grind
 . grind
theorem b1F{silent:Bool}(P:List Int×Bool→Prop)
 (hs:∀st a,a∈A→P st→M6 t s p a.1=true→decide (A7 t a.1=0)=silent→0≤I1 t p L c C st.1 a→(st.1.getD i 0<0∨I1 t p L c C st.1 a+s7 t a.1<st.1.getD i 0)→P (st.1.set i (I1 t p L c C st.1 a+s7 t a.1),true))
 (h0:P (D,false)):P (T4 t s p L c C i silent D A):=by
 have key:∀(B:List (Nat×Nat)) (st:List Int×Bool),(∀a∈B,a∈A)→P st→P (B.foldl (L8 t s p L c C i silent) st):=by
  intro B
  induction B with
  |nil=>intro st _ h;exact h
  |cons a B ih=>
   intro st hB h;rw[a2B];refine ih _ (fun b hb=>hB b (a5g _ hb)) ?_;rcases a8p t s p L c C i silent st a with⟨h1,_⟩|⟨h1,h2,h3,h4,h5⟩
   . rw[h1];exact h
   . grind
 exact key A (D,false) (fun a h=>h) h0
def Imp(D E:List Int):Prop:=E.length=D.length∧∀j,j<D.length→E.getD j 0=D.getD j 0∨(0≤E.getD j 0∧(D.getD j 0<0∨E.getD j 0<D.getD j 0))
theorem Imp.refl(D:List Int):Imp D D:=⟨rfl,fun j _=>.inl rfl⟩
theorem Imp.trans{D E F:List Int}(h:Imp D E)(k:Imp E F):Imp D F:=by refine⟨k.1.trans h.1,fun j hj=>?_⟩;have h1:=h.2 j hj;have h2:=k.2 j (by rw[h.1];exact hj);omega
theorem b4D(l:List Int)(i j:Nat)(a:Int):(l.set i a).getD j 0=if j=i∧i<l.length then a else l.getD j 0:=U0 l i j a 0
theorem Imp.set{D:List Int}{i:Nat}{v:Int}(h0:0≤v)(h:D.getD i 0<0∨v<D.getD i 0):Imp D (D.set i v):=by
 refine⟨k7,fun j hj=>?_⟩
 grind
theorem b8N(t:j9)(s:By)(p:Nat)(L:List Nat)(c:Nat→List Nat)(C:Nat→List Int)(i:Nat)(silent:Bool)(D:List Int)(A:List (Nat×Nat)):Imp D (T4 t s p L c C i silent D A).1:=
 b1F (P:=fun st=>Imp D st.1) (fun st a _ h _ _ h3 h4=>h.trans (.set i9 h4)) (Imp.refl D)
theorem c3u{silent:Bool}(h:(T4 t s p L c C i silent D A).2=false):
 (T4 t s p L c C i silent D A).1=D∧∀a∈A,M6 t s p a.1=true→decide (A7 t a.1=0)=silent→0≤I1 t p L c C D a→0≤D.getD i 0∧D.getD i 0≤I1 t p L c C D a+s7 t a.1:=by
 have mono:∀(B:List (Nat×Nat)) (st:List Int×Bool),st.2=true→(B.foldl (L8 t s p L c C i silent) st).2=true:=by
  intro B
  induction B with
  |nil=>intro st h;exact h
  |cons a B ih=>
   intro st h;rw[a2B];refine ih _ ?_;rcases a8p t s p L c C i silent st a with⟨h1,_⟩|⟨_,_,_,_,h5⟩
   . rw[h1];exact h
   . rw[h5]
 have key:∀(B:List (Nat×Nat)) (st:List Int×Bool),(B.foldl (L8 t s p L c C i silent) st).2=false→(B.foldl (L8 t s p L c C i silent) st).1=st.1∧∀a∈B,M6 t s p a.1=true→decide (A7 t a.1=0)=silent→0≤I1 t p L c C st.1 a→0≤st.1.getD i 0∧st.1.getD i 0≤I1 t p L c C st.1 a+s7 t a.1:=by
  intro B
  induction B with
  |nil=>intro st _;exact⟨rfl,fun a ha=>by simp at ha⟩
  |cons a B ih=>
   intro st h;rw[a2B]at h⊢;rcases a8p t s p L c C i silent st a with⟨h1,h2⟩|⟨_,_,_,_,h5⟩
   . rw[h1]at h⊢;obtain⟨k1,k2⟩:=ih st h;refine⟨k1,fun b hb=>?_⟩;rcases Z5.1 hb with rfl|hb
     . exact h2
     . exact k2 b hb
   . grind
 exact key A (D,false) h
theorem b4P(t:j9)(s:By)(p:Nat)(L:List Nat)(c:Nat→List Nat)(C:Nat→List Int)(i:Nat)(silent:Bool):∀(B:List (Nat×Nat)) (st:List Int×Bool),Imp st.1 (B.foldl (L8 t s p L c C i silent) st).1
 | [],st=>Imp.refl _
 |a::B,st=>by
  rw[a2B];refine Imp.trans ?_ (b4P t s p L c C i silent B _);rcases a8p t s p L c C i silent st a with⟨h1,_⟩|⟨_,_,h3,h4,h5⟩
  . rw[h1];exact Imp.refl _
  . rw[h5];exact .set i9 h4
theorem a8b{E:List Int}{a:Nat×Nat}(h:¬A7 t a.1=0):I1 t p L c C D a=I1 t p L c C E a:=by unfold I1;rw[if_neg h,if_neg h]
theorem c4G(hi:i<D.length):
 ∀a∈A,M6 t s p a.1=true→¬A7 t a.1=0→0≤I1 t p L c C D a→0≤(T4 t s p L c C i false D A).1.getD i 0∧(T4 t s p L c C i false D A).1.getD i 0≤I1 t p L c C D a+s7 t a.1:=by
 have key:∀(B:List (Nat×Nat)) (st:List Int×Bool),i<st.1.length→∀a∈B,M6 t s p a.1=true→¬A7 t a.1=0→0≤I1 t p L c C D a→0≤(B.foldl (L8 t s p L c C i false) st).1.getD i 0∧(B.foldl (L8 t s p L c C i false) st).1.getD i 0≤I1 t p L c C D a+s7 t a.1:=by
  intro B
  induction B with
  |nil=>intro st _ a ha;simp at ha
  |cons b B ih=>
   intro st hl a ha hg hz hr;rw[a2B];rcases Z5.1 ha with rfl|ha
   . have hr2:0≤I1 t p L c C st.1 a:=(by rw[a8b (E:=D) hz];exact hr);have hst:0≤(L8 t s p L c C i false st a).1.getD i 0∧(L8 t s p L c C i false st a).1.getD i 0≤I1 t p L c C D a+s7 t a.1:=by
      rcases a8p t s p L c C i false st a with⟨h1,h2⟩|⟨_,_,h3,h4,h5⟩
      . rw[h1,a8b (E:=st.1) hz];exact h2 hg (by simp[hz]) hr2
      . have e:I1 t p L c C D a=I1 t p L c C st.1 a:=a8b hz;rw[h5,b4D,if_pos ⟨rfl,hl⟩];omega
     have him:=(b4P t s p L c C i false B (L8 t s p L c C i false st a)).2 i (by rw[b2a];exact hl);omega
   . exact ih _ (by rw[b2a];exact hl) a ha hg hz hr
 exact key A (D,false) hi
def a1k(M:Nat)(D:List Int):Nat:=(D.map fun x=>if x<0 then M+1 else x.toNat).sum
theorem Imp.cons{a b:Int}{E:List Int}(h:Imp (a::D) (b::E)):(b=a∨(0≤b∧(a<0∨b<a)))∧Imp D E:=by refine⟨h.2 0 k7,by have:=h.1;simpa using this,fun j hj=>?_⟩;have:=h.2 (j+1) I3;simpa using this
theorem c0q{M:Nat}:∀{D E:List Int},Imp D E→(∀x∈E,x≤M)→a1k M E≤a1k M D∧(a1k M E=a1k M D→E=D)
 | [],E,h,_=>by
  have:E=[]:=a0Q.1 h.1
  grind
 |a::D,[],h,_=>by have:=h.1;simp at this
 |a::D,b::E,h,hM=>by
  obtain⟨h1,h2⟩:=h.cons;obtain⟨k1,k2⟩:=c0q (M:=M) h2 fun x hx=>hM x (a5g _ hx);have hb:=hM b a2W;have e1:a1k M (a::D)=(if a<0 then M+1 else a.toNat)+a1k M D:=by simp[a1k]
  have e2:a1k M (b::E)=(if b<0 then M+1 else b.toNat)+a1k M E:=by simp[a1k]
  grind
def a4L(D:List Int):Nat:=D.countP fun x=>decide (0≤x)
theorem c2F(D:List Int):a4L D≤D.length:=List.countP_le_length
theorem c1i{v:Int}(hi:i<D.length)(hv:0≤v):a4L (D.set i v)=if D.getD i 0<0 then a4L D+1 else a4L D:=by
 have hg:D.getD i 0=D[i]:=by grind
 unfold a4L
 grind
def Bd(M0:Int)(D:List Int):Prop:=∀x∈D,x≤M0+4*(a4L D:Int)
theorem Bd.set{M0:Int}{D:List Int}{i:Nat}{v:Int}(h:Bd M0 D)(hi:i<D.length)(hv:0≤v)(hv2:D.getD i 0<0∨v<D.getD i 0)(hb:v≤M0+4*(a4L D:Int)+4):Bd M0 (D.set i v):=by
 have hg:D.getD i 0=D[i]:=by grind
 have hDi:=h D[i] (B7 hi);intro x hx;rw[c1i hi hv];by_cases hn:D.getD i 0<0
 . rw[if_pos hn];rcases a2E hx with hx|hx
   . have:=h x hx;omega
   . omega
 . rw[if_neg hn];rcases a2E hx with hx|hx
   . exact h x hx
   . omega
theorem Bd.T4{t:j9}{s:By}{p:Nat}{L:List Nat}{c:Nat→List Nat}{C:Nat→List Int}{i:Nat}{silent:Bool}{D:List Int}{A:List (Nat×Nat)}{M0:Int}(h:Bd M0 D)(hi:i<D.length)(hM:0≤M0)
 (hC:∀a∈A,M6 t s p a.1=true→¬A7 t a.1=0→∀x∈C (p+A7 t a.1),x≤M0) (hc:∀a∈A,s7 t a.1≤4):Bd M0 (T4 t s p L c C i silent D A).1:=by
 refine(b1F (P:=fun st=>Bd M0 st.1∧st.1.length=D.length) (fun st a ha hst hg _ h3 h4=>?_) ⟨h,rfl⟩).1;obtain⟨b1,b2⟩:=hst;have hr:I1 t p L c C st.1 a≤M0+4*(a4L st.1:Int):=by
  unfold I1;split
  . exact a5Z b1 i9 _
  . rename_i hz;have:=a5Z (L:=c (p+A7 t a.1)) (hC a ha hg hz) i9 a.2;omega
 have:=hc a ha;exact⟨b1.set i9 i9 h4 i9,by simp[b2]⟩
end
def Pay(t:j9)(s:By)(p x m:Nat):Prop:=∃q:List Nat,∃st',D8 t ((j4 t).getD x B9) q=some st'∧B6 t st'=true∧F5 t q=s.drop p∧(A9 t q).length=m
theorem b2O{t:j9}{s:By}{p k:Nat}{l:By}(h:s.drop p=(t.rules.getD k default).print++l):M6 t s p k=true∧s.drop (p+A7 t k)=l:=by
 constructor
 . unfold M6
   grind
 . unfold A7;rw[←a1U,h,List.drop_append_of_le_length (m0 _),List.drop_length,a4E]
theorem b7q{t:j9}{s:By}{p k:Nat}(h:M6 t s p k=true):s.drop p=(t.rules.getD k default).print++s.drop (p+A7 t k):=by unfold M6 at h;obtain⟨l,hl⟩:=b4K.1 h;obtain⟨_,h2⟩:=b2O (k:=k) hl.symm;rw[h2,hl]
theorem c0i{t:j9}{x:Nat}(hx:x<(j4 t).length){k:Nat}{s':State}(h:step t ((j4 t).getD x B9) k=some s'):(k,P7 t s')∈(C0 t).getD x []:=by
 have hk:=a2o h;have e:(j4 t).getD x B9=(j4 t)[x]:=by grind
 rw[e]at h;have e2:(C0 t).getD x []=a0p t (j4 t)[x] t.rules.length:=by simp[C0,hx]
 rw[e2];unfold a0p
 grind
theorem a8m{t:j9}{x:Nat}(hx:x<(j4 t).length){a:Nat×Nat}(h:a∈(C0 t).getD x []):∃s',step t ((j4 t).getD x B9) a.1=some s'∧a.2=P7 t s':=by
 have e:(j4 t).getD x B9=(j4 t)[x]:=by grind
 have e2:(C0 t).getD x []=a0p t (j4 t)[x] t.rules.length:=by simp[C0,hx]
 rw[e2]at h;unfold a0p at h;obtain⟨k,_,hs⟩:=a9B.1 h;obtain⟨s',hs',rfl⟩:=C5.1 hs
 grind
theorem a1R{t:j9}{s:State}(h:s∈j4 t):(j4 t).getD (P7 t s) B9=s:=by rw[u9,b9U h];rfl
theorem a1A{t:j9}{x:Nat}(hx:x<(j4 t).length):(j4 t).getD x B9∈j4 t:=by grind
theorem Pay.step{t:j9}(ht:s5 t){s:By}{p x m:Nat}(hx:x<(j4 t).length){a:Nat×Nat}(ha:a∈(C0 t).getD x [])(hg:M6 t s p a.1=true)(h:Pay t s (p+A7 t a.1) a.2 m):Pay t s p x (m+s7 t a.1):=by
 obtain⟨s',h1,h2⟩:=a8m hx ha;obtain⟨q,st',q1,q2,q3,q4⟩:=h;rw[h2,a1R (W7 ht (a1A hx) h1)]at q1;refine⟨a.1::q,st',?_,q2,?_,?_⟩
 . show(T.step t _ a.1).bind _=_;rw[h1];exact q1
 . rw[b7q hg,←q3];rfl
 . show(((t.rules.getD a.1 default).cells++A9 t q)).length=_;rw[a0u,q4];unfold s7;omega
theorem Pay.stop{t:j9}{s:By}{p x:Nat}(hp:s.length≤p)(h:B6 t ((j4 t).getD x B9)=true):Pay t s p x 0:=
 ⟨[],_,rfl,h,by rw[List.drop_of_length_le hp];rfl,rfl⟩
theorem Pay.low{t:j9}(ht:s5 t){s:By}{c:Nat→List Nat}{f:Nat→Nat→Int}(hc:∀p x,x∈c p→x<(j4 t).length)
 (hcl:∀p x,p≤s.length→x∈c p→∀a∈(C0 t).getD x [],M6 t s p a.1=true→a.2∈c (p+A7 t a.1)∧(0≤f (p+A7 t a.1) a.2→0≤f p x∧f p x≤f (p+A7 t a.1) a.2+s7 t a.1))
 (hend:∀x,x∈c s.length→B6 t ((j4 t).getD x B9)=true→f s.length x=0):∀(q:List Nat) (p x:Nat) (st':State),p≤s.length→x∈c p→D8 t ((j4 t).getD x B9) q=some st'→B6 t st'=true→F5 t q=s.drop p→0≤f p x∧f p x≤(A9 t q).length
 | [],p,x,st',hp,hx,h1,h2,h3=>by
  have hpe:p=s.length:=by
   have:(s.drop p).length=0:=by rw[←h3];rfl
   grind
  subst hpe;obtain rfl:=W6 h1
  grind
 |k::q,p,x,st',hp,hx,h1,h2,h3=>by
  have hxN:=hc p x hx;obtain⟨s1,e1,e2⟩:=V1.1 (show(T.step t _ k).bind (fun s'=>D8 t s' q)=some st' from h1);have hm:=c0i hxN e1;have hd:s.drop p=(t.rules.getD k default).print++F5 t q:=by rw[←h3];rfl
  obtain⟨g1,g2⟩:=b2O hd;obtain⟨k1,k2⟩:=hcl p x hp hx _ hm g1;dsimp only at k1 k2;have hs1:=W7 ht (a1A hxN) e1;have hle:=a4O g1;have ih:=Pay.low ht hc hcl hend q (p+A7 t k) (P7 t s1) st' i9 k1 (by rw[a1R hs1];exact e2) h2 g2.symm;obtain⟨i1,i2⟩:=k2 ih.1;refine⟨i1,?_⟩;have:(A9 t (k::q)).length=s7 t k+(A9 t q).length:=by show((t.rules.getD k default).cells++A9 t q).length=_;rw[a0u];rfl
  omega
def a4Y(t:j9)(s:By)(p:Nat)(L:List Nat)(D:List Int):Prop:=∀i,i<L.length→0≤D.getD i 0→Pay t s p (L.getD i 0) (D.getD i 0).toNat
theorem a4Y.find{t:j9}{s:By}{p:Nat}{L:List Nat}{D:List Int}(h:a4Y t s p L D)(hD:D.length=L.length){x:Nat}(h0:0≤S9 L D x):Pay t s p x (S9 L D x).toNat:=by
 by_cases hx:x∈L
 . have hi:L.idxOf x<L.length:=List.idxOf_lt_length_of_mem hx;have hiD:L.idxOf x<D.length:=i9;have hg:L.getD (L.idxOf x) 0=x:=(by grind);have hf:S9 L D x=D.getD (L.idxOf x) 0:=by
    unfold S9
    grind
   rw[hf]at h0⊢;have:=h _ hi h0;rw[hg]at this;exact this
 . unfold S9 at h0;rw[if_neg hx]at h0;omega
theorem c5B{t:j9}(ht:s5 t){s:By}{p:Nat}{L:List Nat}{c:Nat→List Nat}{C:Nat→List Int}{i:Nat}{silent:Bool}{D:List Int}(hi:i<L.length)(hD:D.length=L.length)(hLN:L.getD i 0<(j4 t).length)
 (h:a4Y t s p L D) (hC:∀j,p<j→j≤s.length→a4Y t s j (c j) (C j)∧(C j).length=(c j).length):a4Y t s p L (T4 t s p L c C i silent D ((C0 t).getD (L.getD i 0) [])).1:=by
 refine(b1F (P:=fun st=>a4Y t s p L st.1∧st.1.length=D.length) (fun st a ha hst hg _ h3 h4=>?_) ⟨h,rfl⟩).1;obtain⟨b1,b2⟩:=hst;have hpay:Pay t s (p+A7 t a.1) a.2 (I1 t p L c C st.1 a).toNat:=by
  unfold I1 at h3⊢;by_cases hz:A7 t a.1=0
  . rw[if_pos hz]at h3⊢;rw[hz];exact b1.find i9 h3
  . rw[if_neg hz]at h3⊢;have hle:=a4O hg;by_cases hps:p+A7 t a.1≤s.length
    . obtain⟨c1,c2⟩:=hC (p+A7 t a.1) i9 hps;exact c1.find c2 h3
    . omega
 have hstep:=hpay.step ht hLN ha hg;refine⟨fun j hj h0=>?_,by simp[b2]⟩;rw[b4D]at h0⊢;by_cases hji:j=i∧i<st.1.length
 . grind
 . rw[if_neg hji]at h0⊢;exact b1 j hj h0
def Lat(t:j9)(s:By)(p:Nat)(c:Nat→List Nat)(C:Nat→List Int)(M0:Int):Prop:=∀j,p<j→j≤s.length→a4Y t s j (c j) (C j)∧(C j).length=(c j).length∧∀x∈C j,x≤M0
structure PI(t:j9)(s:By)(p:Nat)(L:List Nat)(M0:Int)(D:List Int):Prop where
 len:D.length=L.length
 snd:a4Y t s p L D
 bd:Bd M0 D
theorem PI.T4{t:j9}(ht:s5 t){s:By}{p:Nat}{L:List Nat}{c:Nat→List Nat}{C:Nat→List Int}{i:Nat}{silent:Bool}{D:List Int}{M0:Int}(h:PI t s p L M0 D)(hi:i<L.length)(hLN:∀x∈L,x<(j4 t).length)(hM:0≤M0)(hC:Lat t s p c C M0):
 PI t s p L M0 (T4 t s p L c C i silent D ((C0 t).getD (L.getD i 0) [])).1:=by
 have hx:L.getD i 0<(j4 t).length:=by rw[u9,l9 hi];exact hLN _ (B7 hi)
 refine⟨by rw[b6w];exact h.len,c5B ht hi h.len hx h.snd fun j h1 h2=>⟨(hC j h1 h2).1,(hC j h1 h2).2.1⟩,h.bd.T4 (by rw[h.len];exact hi) hM (fun a ha hg hz x hxx=>?_) fun a ha=>?_⟩
 . have hle:=a4O hg;by_cases hps:p+A7 t a.1≤s.length
   . exact(hC _ i9 hps).2.2 x hxx
   . omega
 . obtain⟨s',h1,_⟩:=a8m hx ha;have hk:=a2o h1;unfold s7;rw[u9,l9 hk];exact(a3F (ht.sound _ (B7 hk))).c4
def LC(t:j9)(s:By)(p:Nat)(L:List Nat)(c:Nat→List Nat)(C:Nat→List Int)(D:List Int)(j:Nat):Prop:=∀a∈(C0 t).getD (L.getD j 0) [],M6 t s p a.1=true→¬A7 t a.1=0→0≤I1 t p L c C D a→0≤D.getD j 0∧D.getD j 0≤I1 t p L c C D a+s7 t a.1
def SC(t:j9)(s:By)(p:Nat)(L:List Nat)(c:Nat→List Nat)(C:Nat→List Int)(D:List Int)(j:Nat):Prop:=∀a∈(C0 t).getD (L.getD j 0) [],M6 t s p a.1=true→A7 t a.1=0→0≤I1 t p L c C D a→0≤D.getD j 0∧D.getD j 0≤I1 t p L c C D a+s7 t a.1
theorem LC.imp{t:j9}{s:By}{p:Nat}{L:List Nat}{c:Nat→List Nat}{C:Nat→List Int}{D E:List Int}{j:Nat}(h:LC t s p L c C D j)(hj:j<D.length)(hi:Imp D E):LC t s p L c C E j:=fun a ha hg hz hr=>by rw[a8b (E:=D) hz]at hr⊢;have:=h a ha hg hz hr;have:=hi.2 j hj;omega
theorem c3F{t:j9}{s:By}{p:Nat}{L:List Nat}{c:Nat→List Nat}{C:Nat→List Int}{i:Nat}{silent:Bool}{D:List Int}{A:List (Nat×Nat)}(hi:i<D.length)(h:(T4 t s p L c C i silent D A).2=true):(T4 t s p L c C i silent D A).1≠D:=by
 have key:=b1F (t:=t) (s:=s) (p:=p) (L:=L) (c:=c) (C:=C) (i:=i) (silent:=silent) (A:=A) (D:=D) (P:=fun st=>st.1.length=D.length∧(st.2=false→st.1=D)∧(st.2=true→0≤st.1.getD i 0∧(D.getD i 0<0∨st.1.getD i 0<D.getD i 0)))
  (fun st a ha hst hg hs h3 h4=>by
   obtain⟨h0,h1,h2⟩:=hst;refine⟨by simp[h0],fun e=>(by cases e),fun _=>?_⟩;dsimp only;rw[b4D,if_pos ⟨rfl,i9⟩];cases hb:st.2 with
   |false=>rw[h1 hb]at h4 h3⊢;omega
   |true=>have:=h2 hb;omega) ⟨rfl,fun _=>rfl,fun e=>(by cases e)⟩
 have:=key.2.2 h;intro e;rw[e]at this;omega
def O1(t:j9)(s:By)(p:Nat)(L:List Nat)(k:Nat):List Int:=(List.range L.length).map fun i=>if i<k then(if p=s.length∧B6 t ((j4 t).getD (L.getD i 0) B9)=true then 0 else-1)else 0
theorem a7w(t:j9)(s:By)(p:Nat)(L:List Nat)(k:Nat):(O1 t s p L k).length=L.length:=by simp[O1]
theorem b8f{t:j9}{s:By}{p:Nat}{L:List Nat}{k i:Nat}(hi:i<L.length):(O1 t s p L k).getD i 0=if i<k then(if p=s.length∧B6 t ((j4 t).getD (L.getD i 0) B9)=true then 0 else-1)else 0:=by rw[u9,l9 (by rw[a7w];exact hi)];simp[O1]
theorem c0O(t:j9)(s:By)(p:Nat)(L:List Nat):O1 t s p L 0=List.replicate L.length 0:=by apply a0t (by simp[O1]);intro j h1 h2;simp[O1]
theorem b6e{t:j9}{s:By}{p:Nat}{L:List Nat}{k:Nat}(hk:k<L.length):(O1 t s p L k).set k (if p=s.length∧B6 t ((j4 t).getD (L.getD k 0) B9)=true then 0 else-1)=O1 t s p L (k+1):=by
 apply a0t (by simp[O1]);intro j h1 h2;have hj:j<L.length:=by simpa[O1]using h1
 rw[a4a];simp only[O1,a1e,a4G];by_cases h:k=j
 . grind
 . omega
theorem c3d{t:j9}{s:By}{p:Nat}{L:List Nat}{M0:Int}(hM:0≤M0):PI t s p L M0 (O1 t s p L L.length):=by
 refine⟨a7w _ _ _ _ _,fun i hi h0=>?_,fun x hx=>?_⟩
 . rw[b8f hi,if_pos hi]at h0⊢;by_cases h:p=s.length∧B6 t ((j4 t).getD (L.getD i 0) B9)=true
   . rw[if_pos h];exact .stop i9 h.2
   . rw[if_neg h]at h0;omega
 . unfold O1 at hx;obtain⟨i,hi,rfl⟩:=E9.1 hx;have:(0:Int)≤a4L (O1 t s p L L.length):=Int.natCast_nonneg _;split
   . split<;>omega
   . omega
def a8Z(t:j9)(s:By)(p:Nat)(L:List Nat)(D:List Int):Prop:=∀j,j<L.length→p=s.length→B6 t ((j4 t).getD (L.getD j 0) B9)=true→D.getD j 0=0
theorem c4Z(t:j9)(s:By)(p:Nat)(L:List Nat):a8Z t s p L (O1 t s p L L.length):=fun j hj h1 h2=>by rw[b8f hj,if_pos hj,if_pos ⟨h1,h2⟩]
theorem a8Z.imp{t:j9}{s:By}{p:Nat}{L:List Nat}{D E:List Int}(h:a8Z t s p L D)(hD:D.length=L.length)(hi:Imp D E):a8Z t s p L E:=fun j hj h1 h2=>by have:=h j hj h1 h2;have:=hi.2 j i9;omega
structure PB(t:j9)(s:By)(p:Nat)(L:List Nat)(c:Nat→List Nat)(C:Nat→List Int)(M0:Int)(i:Nat)(D:List Int):Prop where
 pi:PI t s p L M0 D
 fin:a8Z t s p L D
 loud:∀j,j<i→LC t s p L c C D j
theorem PB.start{t:j9}{s:By}{p:Nat}{L:List Nat}{c:Nat→List Nat}{C:Nat→List Int}{M0:Int}(hM:0≤M0):PB t s p L c C M0 0 (O1 t s p L L.length):=⟨c3d hM,c4Z _ _ _ _,fun j hj=>absurd hj (a6E j)⟩
theorem PB.step{t:j9}(ht:s5 t){s:By}{p:Nat}{L:List Nat}{c:Nat→List Nat}{C:Nat→List Int}{M0:Int}{i:Nat}{D:List Int}(h:PB t s p L c C M0 i D)(hi:i<L.length)(hLN:∀x∈L,x<(j4 t).length)(hM:0≤M0)(hC:Lat t s p c C M0):
 PB t s p L c C M0 (i+1) (T4 t s p L c C i false D ((C0 t).getD (L.getD i 0) [])).1:=by
 have him:=b8N t s p L c C i false D ((C0 t).getD (L.getD i 0) []);have hl:=h.pi.len;refine⟨h.pi.T4 ht hi hLN hM hC,h.fin.imp hl him,fun j hj=>?_⟩;by_cases hji:j=i
 . subst hji;intro a ha hg hz hr;rw[a8b (E:=D) hz]at hr⊢;exact c4G i9 a ha hg hz hr
 . exact(h.loud j i9).imp i9 him
structure PS(t:j9)(s:By)(p:Nat)(L:List Nat)(c:Nat→List Nat)(C:Nat→List Int)(M0:Int)(M:Nat)(D1:List Int)(i:Nat)(D:List Int)(b:Bool):Prop where
 pb:PB t s p L c C M0 L.length D
 same:b=false→D=D1∧∀j,j<i→SC t s p L c C D j
 less:a1k M D≤a1k M D1∧(b=true→a1k M D<a1k M D1)
theorem PS.start{t:j9}{s:By}{p:Nat}{L:List Nat}{c:Nat→List Nat}{C:Nat→List Int}{M0:Int}{M:Nat}{D:List Int}(h:PB t s p L c C M0 L.length D):PS t s p L c C M0 M D 0 D false:=⟨h,fun _=>⟨rfl,fun j hj=>absurd hj (a6E j)⟩,m0 _,fun e=>by cases e⟩
theorem PB.le{t:j9}{s:By}{p:Nat}{L:List Nat}{c:Nat→List Nat}{C:Nat→List Int}{M0:Int}{i:Nat}{D:List Int}(h:PB t s p L c C M0 i D){M:Int}(hL:L.length≤3072)(hM:M0+12288≤M):∀x∈D,x≤M:=fun x hx=>by have h1:=h.pi.bd x hx;have h2:=c2F D;have h3:=h.pi.len;omega
theorem PS.step{t:j9}(ht:s5 t){s:By}{p:Nat}{L:List Nat}{c:Nat→List Nat}{C:Nat→List Int}{M0:Int}{M:Nat}{D1:List Int}{i:Nat}{D:List Int}{b:Bool}(h:PS t s p L c C M0 M D1 i D b)(hi:i<L.length)(hLN:∀x∈L,x<(j4 t).length)(hL:L.length≤3072)(hM:0≤M0)(hMM:M0+12288≤M)(hC:Lat t s p c C M0):
 PS t s p L c C M0 M D1 (i+1) (T4 t s p L c C i true D ((C0 t).getD (L.getD i 0) [])).1 ((T4 t s p L c C i true D ((C0 t).getD (L.getD i 0) [])).2||b):=by
 have him:=b8N t s p L c C i true D ((C0 t).getD (L.getD i 0) []);have hl:=h.pb.pi.len;have hpb:PB t s p L c C M0 L.length (T4 t s p L c C i true D ((C0 t).getD (L.getD i 0) [])).1:=⟨h.pb.pi.T4 ht hi hLN hM hC,h.pb.fin.imp hl him,fun j hj=>(h.pb.loud j hj).imp i9 him⟩
 obtain⟨m1,m2⟩:=c0q (M:=M) him (hpb.le hL hMM);have hstr:=c3F (t:=t) (s:=s) (p:=p) (L:=L) (c:=c) (C:=C) (i:=i) (silent:=true) (D:=D) (A:=(C0 t).getD (L.getD i 0) []) i9;have hdone:=c3u (t:=t) (s:=s) (p:=p) (L:=L) (c:=c) (C:=C) (i:=i) (silent:=true) (D:=D) (A:=(C0 t).getD (L.getD i 0) []);generalize T4 t s p L c C i true D ((C0 t).getD (L.getD i 0) [])=r at him hpb m1 m2 hstr hdone⊢;obtain⟨E,e⟩:=r;dsimp only at him hpb m1 m2 hstr hdone⊢;cases e with
 |true=>
  have h1:=hstr rfl;have h2:a1k M E<a1k M D:=by grind
  have h3:=h.less.1;exact⟨hpb,fun x=>by simp at x,i9,fun _=>i9⟩
 |false=>
  obtain⟨rfl,h2⟩:=hdone rfl;refine⟨hpb,fun x=>?_,by simpa using h.less⟩;obtain⟨k1,k2⟩:=h.same (by simpa using x);refine⟨k1,fun j hj=>?_⟩;by_cases hji:j=i
  . subst hji;intro a ha hg hz hr;exact h2 a ha hg (by simp[hz]) hr
  . exact k2 j i9
def FC(c:List (List Nat))(C:List (List Int))(p x:Nat):Int:=S9 (c.getD p []) (C.getD p []) x
structure PQ(t:j9)(s:By)(c:List (List Nat))(C:List (List Int))(q:Nat):Prop where
 cl:C.length=s.length+1
 len:∀j,j≤s.length→s.length<j+q→(C.getD j []).length=(c.getD j []).length
 snd:∀j,j≤s.length→s.length<j+q→a4Y t s j (c.getD j []) (C.getD j [])
 bd:∀j,j≤s.length→s.length<j+q→∀x∈C.getD j [],x≤12288*((s.length+1-j:Nat):Int)
 clo:∀j,j≤s.length→s.length<j+q→∀x∈c.getD j [],∀a∈(C0 t).getD x [],M6 t s j a.1=true→0≤FC c C (j+A7 t a.1) a.2→0≤FC c C j x∧FC c C j x≤FC c C (j+A7 t a.1) a.2+s7 t a.1
 fin:0<q→∀x∈c.getD s.length [],B6 t ((j4 t).getD x B9)=true→FC c C s.length x=0
theorem PQ.start(t:j9)(s:By)(c:List (List Nat)):PQ t s c (List.replicate (s.length+1) []) 0:=⟨k7,fun j _ _=>i9,fun j _ _=>i9,fun j _ _=>i9,fun j _ _=>i9,fun h=>i9⟩
theorem PQ.lat{t:j9}{s:By}{c:List (List Nat)}{C:List (List Int)}{q p:Nat}(h:PQ t s c C q)(hp:p+q=s.length):Lat t s p (fun j=>c.getD j []) (fun j=>C.getD j []) (12288*(q:Int)):=fun j h1 h2=>
 ⟨h.snd j h2 i9,h.len j h2 i9,fun x hx=>by have:=h.bd j h2 i9 x hx;omega⟩
theorem b8R{L:List Nat}{D:List Int}(hD:D.length=L.length){x:Nat}(hx:x∈L):L.idxOf x<L.length∧L.getD (L.idxOf x) 0=x∧S9 L D x=D.getD (L.idxOf x) 0:=by
 have hi:L.idxOf x<L.length:=List.idxOf_lt_length_of_mem hx;have hiD:L.idxOf x<D.length:=i9;refine⟨hi,?_,?_⟩
 . grind
 . unfold S9;rw[if_pos hx,u9,u9,l9 hiD];rfl
theorem PQ.step{t:j9}{s:By}{c:List (List Nat)}{C:List (List Int)}{q p:Nat}(h:PQ t s c C q)(hp:p+q=s.length){D:List Int}(hL:(c.getD p []).length≤3072)
 (hb:PB t s p (c.getD p []) (fun j=>c.getD j []) (fun j=>C.getD j []) (12288*(q:Int)) (c.getD p []).length D)
 (hs:∀j,j<(c.getD p []).length→SC t s p (c.getD p []) (fun j=>c.getD j []) (fun j=>C.getD j []) D j):PQ t s c (C.set p D) (q+1):=by
 have hpC:p<C.length:=by have:=h.cl;omega
 have e0:(C.set p D).getD p []=D:=by grind
 have e1:∀j,p<j→(C.set p D).getD j []=C.getD j []:=fun j hj=>by rw[U0,if_neg i9]
 have f0:∀x,FC c (C.set p D) p x=S9 (c.getD p []) D x:=fun x=>by unfold FC;rw[e0]
 have f1:∀j x,p<j→FC c (C.set p D) j x=FC c C j x:=fun j x hj=>by unfold FC;rw[e1 j hj]
 refine⟨by simp[h.cl],fun j h1 h2=>?_,fun j h1 h2=>?_,fun j h1 h2=>?_,fun j h1 h2=>?_,fun _=>?_⟩
 . by_cases hj:j=p
   . subst hj;rw[e0];exact hb.pi.len
   . rw[e1 j i9];exact h.len j h1 i9
 . by_cases hj:j=p
   . subst hj;rw[e0];exact hb.pi.snd
   . rw[e1 j i9];exact h.snd j h1 i9
 . by_cases hj:j=p
   . subst hj;rw[e0];intro x hx;have:=hb.le (M:=12288*(q:Int)+12288) hL (Int.le_refl _) x hx;omega
   . rw[e1 j i9];exact h.bd j h1 i9
 . by_cases hj:j=p
   . subst hj;intro x hx a ha hg hr;obtain⟨k1,k2,k3⟩:=b8R (D:=D) hb.pi.len hx;rw[f0,k3];by_cases hz:A7 t a.1=0
     . rw[hz,a3t,f0]at hr⊢;have er:I1 t j (c.getD j []) (fun j=>c.getD j []) (fun j=>C.getD j []) D a=S9 (c.getD j []) D a.2:=(by unfold I1;rw[if_pos hz]);have:=hs _ k1 a (by grind) hg hz i9;rw[er]at this;exact this
     . rw[f1 _ _ i9]at hr⊢;have er:I1 t j (c.getD j []) (fun j=>c.getD j []) (fun j=>C.getD j []) D a=FC c C (j+A7 t a.1) a.2:=(by unfold I1;rw[if_neg hz];rfl);have:=hb.loud _ k1 a (by grind) hg hz i9;rw[er]at this;exact this
   . intro x hx a ha hg hr;rw[f1 _ _ i9]at hr⊢;rw[f1 _ _ i9];exact h.clo j h1 i9 x hx a ha hg hr
 . intro x hx hacc;by_cases hj:p=s.length
   . subst hj;rw[f0];obtain⟨k1,k2,k3⟩:=b8R (D:=D) hb.pi.len hx;rw[k3];exact hb.fin _ k1 rfl (by grind)
   . rw[f1 _ _ i9];exact h.fin i9 x hx hacc
section
variable{n q:Nat}{c:List (List Nat)}{C:List (List Int)}
def V5(n q:Nat)(c:List (List Nat))(C:List (List Int)):List PV:=(List.range (n+1)).map fun j=>if n<j+q then DC (c.getD j []) (C.getD j [])else .agg [DS (c.getD j []),.nils]
theorem b9r(n q:Nat)(c:List (List Nat))(C:List (List Int)):(V5 n q c C).length=n+1:=by simp[V5]
theorem c7x(C:List (List Int))(hc:c.length=n+1):CS (n+1) c=V5 n 0 c C:=by
 apply a0t (by simp[CS,V5,hc]);intro j h1 h2;have hj:j<n+1:=by simpa[V5]using h2
 have h3:¬n<j+0:=i9;simp only[CS,V5,a1e,a4G];rw[if_pos hj,if_neg h3]
theorem c7G{p:Nat}(hp:p+q=n):(V5 n q c C)[p]?=some (.agg [DS (c.getD p []),.nils]):=by have h1:p<n+1:=i9;have h2:¬n<p+q:=i9;simp[V5,h1,h2]
theorem b9d{j:Nat}(h1:j≤n)(h2:n<j+q):(V5 n q c C)[j]?=some (DC (c.getD j []) (C.getD j [])):=by have h1:j<n+1:=i9;simp[V5,h1,h2]
theorem c5E{p:Nat}(hp:p+q=n)(hC:C.length=n+1)(D:List Int):(V5 n q c C).set p (DC (c.getD p []) D)=V5 n (q+1) c (C.set p D):=by
 apply a0t (by simp[V5]);intro j h1 h2;have hj:j<n+1:=by simpa[V5]using h2
 have e:=U0 C p j D [];rw[a4a];simp only[V5,a1e,a4G]
 grind
theorem c3Q(l:List Nat):D4 (.agg [DS l,.nils])=true:=by unfold DS;split<;>rfl
theorem c7h(l:List Nat)(D:List Int):D4 (DC l D)=true:=by unfold DC DS;split<;>rfl
theorem c0w(n q:Nat)(c:List (List Nat))(C:List (List Int)):∀x,x∈V5 n q c C→D4 x=true:=fun x hx=>by
 obtain⟨i,_,rfl⟩:=E9.1 hx;split
 . exact c7h _ _
 . exact c3Q _
abbrev HC(t:j9)(s:By)(va:Nat)(r0 r1 r2 r3 r4 r8 r9 r11 r12 r13 r14 r15 r16 r17 r18 r19 r20:Row)(last ver:Nat)(K:List PV)(R21 R22 R23 R24 R25 R26:Row):l5:=
 [r0,r1,r2,r3,r4,(1,.arr 3 1 true (F4 (j4 t))),(1,.arr 2 ver false K),
  (1,.var (TC t++[St s,.own 5 1 (j4 t).length 3 0 (j4 t).length,.own 10 1 (j4 t).length 1 0 (j4 t).length,.own 6 1 (s.length+1) 2 0 (s.length+1),IN last])),
  r8,r9,(1,.arr 1 va true ((C0 t).map SA)),r11,r12,r13,r14,r15,r16,r17,r18,r19,r20,R21,R22,R23,R24,R25,R26]
structure PRV where
 (v3 v4 v5 v6 v7 v8 v9 v10 v11 v12 v13 v14 v15 v16 v17 v18 v19 v20 v21 v22 v23:PV)
abbrev J5(g21:Nat)(v2:PV)(x:PRV):List PV:=[.ptr 7 1 0,.ptr 21 g21 0,v2,x.v3,x.v4,x.v5,x.v6,x.v7,x.v8,x.v9,x.v10,x.v11,x.v12,x.v13,x.v14,x.v15,x.v16,x.v17,x.v18,x.v19,x.v20,x.v21,x.v22,x.v23]
abbrev u0:PRV:=⟨.uu,.uu,.uu,.uu,.uu,.uu,.uu,.uu,.uu,.uu,.uu,.uu,.uu,.uu,.uu,.uu,.uu,.uu,.uu,.uu,.uu⟩
theorem c8W(t:j9)(ht:s5 t)(s:By)(hs:s.length≤1100000000)(va:Nat)(r0 r1 r2 r3 r4 r8 r9 r11 r12 r13 r14 r15 r16 r17 r18 r19 r20 r21 r22 r23 r25 r26:Row)(g24 last ver:Nat)
 (c:List (List Nat)) (kn:List (List Bool)) (hc:RI t s (s.length+1) 0 c kn):
 ∃r ws,(∃C ver2 R21 R22 R23 R24 R25 R26,r=.tup []∧PQ t s c C (s.length+1)∧ws=[(6,(1,.arr 2 ver2 false (V5 s.length (s.length+1) c C))),(21,R21),(22,R22),(23,R23),(24,R24),(25,R25),(26,R26)])∧
 FI Tryz.prog (.fn (.func 39) [] []) [.ptr 7 1 0] (HC t s va r0 r1 r2 r3 r4 r8 r9 r11 r12 r13 r14 r15 r16 r17 r18 r19 r20 last ver (CS (s.length+1) c) r21 r22 r23 (g24,.dead) r25 r26) r ws:=by
 have hNN:=a1g ht;have hsv:∀st∈j4 t,OkS st:=fun st h=>(a3o ht h).ok;rw[c7x (List.replicate (s.length+1) []) hc.len];refine a3L mixed (X:=X39) c39 (by rfl) (by simp[X39]) k7 (by kernel_rfl) fun Q hR hN=>?_;simp[X39,HC];refine E3 (fun(q:Nat×List (List Int)×Nat×Nat×Nat×Int×Row×Row×Nat×Row×Row×PRV) vs h=>q.1≤s.length+1∧PQ t s c q.2.1 q.1∧q.2.2.2.2.2.1=(s.length:Int)-q.1∧
  (q.2.2.1=22∧q.2.2.2.2.2.2.1=(q.2.2.2.1,.var [I q.2.2.2.2.2.1])∨q.2.2.1=25∧q.2.2.2.2.2.2.2.2.2.1=(q.2.2.2.1,.var [I q.2.2.2.2.2.1]))∧
  vs=J5 (r21.1+1) (.ptr q.2.2.1 q.2.2.2.1 0) q.2.2.2.2.2.2.2.2.2.2.2∧
  h=HC t s va r0 r1 r2 r3 r4 r8 r9 r11 r12 r13 r14 r15 r16 r17 r18 r19 r20 last q.2.2.2.2.1 (V5 s.length q.1 c q.2.1) (r21.1+1,.var [.ptr 7 1 0]) q.2.2.2.2.2.2.1 q.2.2.2.2.2.2.2.1 (q.2.2.2.2.2.2.2.2.1,.dead) q.2.2.2.2.2.2.2.2.2.1 q.2.2.2.2.2.2.2.2.2.2.1) (fun q=>s.length+1-q.1)
  (0,List.replicate (s.length+1) [],22,r22.1+1,ver,(s.length:Int),(r22.1+1,.var [I s.length]),r23,g24,r25,r26,u0) ?_ ?_
 . exact⟨C9 _,PQ.start t s c,k7,.inl ⟨rfl,rfl⟩,rfl,rfl⟩
 . rintro⟨q,C,kp,gp,ver,pl,R22,R23,g24,R25,R26,⟨v3,v4,v5,v6,v7,v8,v9,v10,v11,v12,v13,v14,v15,v16,v17,v18,v19,v20,v21,v22,v23⟩⟩ vs h ⟨q1,q2,q3,q4,rfl,rfl⟩ Q2 hK2 hX2 hR2;dsimp only at q1 q2 q3 q4;by_cases hq:q≤s.length
   . obtain⟨p,hp⟩:∃p,p+q=s.length:=⟨s.length-q,i9⟩
     obtain rfl:pl=(p:Int):=i9;have hps:(p:Int)<(s.length:Int)+1:=i9;have hpn:p≤s.length:=i9;have hwp:IntKind.i64.wrap ((p:Int)-1)=(p:Int)-1:=O5;have hK0:=c7G (c:=c) (C:=C) hp;have hKl:=b9r s.length q c C;have hKr:=c0w s.length q c C;have hKj:∀j,p<j→j≤s.length→(V5 s.length q c C)[j]?=some (DC (c.getD j []) (C.getD j [])):=fun j h1 h2=>b9d h2 i9;have hlat:=q2.lat hp;have hcj:∀j,p<j→j≤s.length→(c.getD j []).Pairwise (· < ·)∧(C.getD j []).length=(c.getD j []).length∧(c.getD j []).length≤3072∧∀x∈C.getD j [],x≤12288*((s.length+1:Nat):Int):=fun j h1 h2=>
      ⟨hc.sorted j i9,q2.len j h2 i9,S7 (a3P _ _ (hc.nodup j) fun y hy=>hc.lt j y hy) hNN,fun x hx=>by have:=(hlat j h1 h2).2.2 x hx;omega⟩
     have hL1:(c.getD p []).Pairwise (· < ·):=hc.sorted p i9;have hL2:∀x∈c.getD p [],x<(j4 t).length:=fun x hx=>hc.lt p x hx;have hL3:(c.getD p []).length≤3072:=S7 (a3P _ _ (hc.nodup p) fun y hy=>hc.lt p y hy) hNN;have hnext:=c5E (c:=c) hp q2.cl;have hstep:=fun D=>q2.step (D:=D) hp hL3;obtain⟨K,hK⟩:=p8 (V5 s.length q c C);obtain⟨L,hL⟩:=p8 (c.getD p []);rw[←hK]at hK0 hKl hKr hKj hnext⊢;rw[←hL]at hK0 hL1 hL2 hL3 hnext hstep;have hpK:p<K.length:=i9;have hss:∀X:PV,(K.set p X)[p]?=some X:=fun X=>(by rw[a6D,if_pos rfl,if_pos hpK]);have hKs:∀X:PV,D4 X=true→(∀x,x∈K.set p X→D4 x=true)=True:=fun X hX=>eq_true fun x hx=>by
      rcases a2E hx with h|h
      . exact hKr x h
      . rw[h];exact hX
     rcases q4 with⟨rfl,rfl⟩|⟨rfl,rfl⟩
     . have hsl:∀X:PV,(K.set p X).length=s.length+1:=fun X=>(by rw[a2T,hKl]);by_cases hLe:L=[]
       . subst hLe;have hpb:PB t s p [] (fun j=>c.getD j []) (fun j=>C.getD j []) (12288*(q:Int)) 0 []:=PB.start (L:=[]) i9;have hK0':K[p]?=some (.agg [.nils,.nils]):=hK0;simp[HC,J5,hK0',hKl,hps,hss];refine E3 (fun(x:Nat×PRV) vs h=>vs=J5 (r21.1+1) (.ptr 22 gp 0) {x.2 with v3:=.ptr 23 (R23.1+1) 0,v11:=.nils,v12:=IN 0,v13:=IN 0}∧
          h=HC t s va r0 r1 r2 r3 r4 r8 r9 r11 r12 r13 r14 r15 r16 r17 r18 r19 r20 last x.1 (K.set p (.agg [.nils,.uslc []])) (r21.1+1,.var [.ptr 7 1 0]) (gp,.var [I p]) (R23.1+1,.var [.eptr 6 1 (s.length+1) 2 p 0]) (g24+1,.dead) R25 R26) (fun _=>0) (_,⟨.uu,_,_,_,_,_,_,_,.uu,.uu,.uu,_,_,_,_,_,_,_,_,_,_⟩) ⟨rfl,rfl⟩ ?_
         rintro⟨ver,⟨v3,v4,v5,v6,v7,v8,v9,v10,v11,v12,v13,v14,v15,v16,v17,v18,v19,v20,v21,v22,v23⟩⟩ vs h ⟨rfl,rfl⟩ Q3 hK3 hX3 hR3;simp[HC,J5];refine hX3 _ _ _ ?_;simp[hKl,hps,hss];refine E3 (fun(x:Nat×PRV) vs h=>vs=J5 (r21.1+1) (.ptr 22 gp 0) {x.2 with v3:=.ptr 23 (R23.1+1) 0,v6:=.fn (.func 76) [] [.ptr 21 (r21.1+1) 0,.ptr 23 (R23.1+1) 0,.ptr 22 gp 0],v16:=IN 0,v17:=IN 0}∧
          h=HC t s va r0 r1 r2 r3 r4 r8 r9 r11 r12 r13 r14 r15 r16 r17 r18 r19 r20 last x.1 (K.set p (.agg [.nils,.uslc []])) (r21.1+1,.var [.ptr 7 1 0]) (gp,.var [I p]) (R23.1+1,.var [.eptr 6 1 (s.length+1) 2 p 0]) (g24+1,.dead) R25 R26) (fun _=>0) (_,⟨.uu,_,_,.uu,_,_,_,_,_,_,_,_,_,.uu,.uu,_,_,_,_,_,_⟩) ⟨rfl,rfl⟩ ?_
         rintro⟨ver,⟨v3,v4,v5,v6,v7,v8,v9,v10,v11,v12,v13,v14,v15,v16,v17,v18,v19,v20,v21,v22,v23⟩⟩ vs h ⟨rfl,rfl⟩ Q4 hK4 hX4 hR4;simp[HC,J5];refine hX4 _ _ _ ?_;simp;refine E3 (fun(x:Nat×PRV) vs h=>vs=J5 (r21.1+1) (.ptr 22 gp 0) {x.2 with v3:=.ptr 23 (R23.1+1) 0,v6:=.fn (.func 76) [] [.ptr 21 (r21.1+1) 0,.ptr 23 (R23.1+1) 0,.ptr 22 gp 0]}∧
          h=HC t s va r0 r1 r2 r3 r4 r8 r9 r11 r12 r13 r14 r15 r16 r17 r18 r19 r20 last x.1 (K.set p (.agg [.nils,.uslc []])) (r21.1+1,.var [.ptr 7 1 0]) (gp,.var [I p]) (R23.1+1,.var [.eptr 6 1 (s.length+1) 2 p 0]) (g24+1,.dead) R25 R26) (fun _=>0) (_,⟨.uu,_,_,.uu,_,_,_,_,_,_,_,_,_,_,_,_,_,_,_,_,_⟩) ⟨rfl,rfl⟩ ?_
         rintro⟨ver,⟨v3,v4,v5,v6,v7,v8,v9,v10,v11,v12,v13,v14,v15,v16,v17,v18,v19,v20,v21,v22,v23⟩⟩ vs h ⟨rfl,rfl⟩ Q5 hK5 hX5 hR5;simp[HC,J5,hKl,hps,hss];refine E3 (fun(x:Nat×PRV) vs h=>vs=J5 (r21.1+1) (.ptr 22 gp 0) {x.2 with v3:=.ptr 23 (R23.1+1) 0,v6:=.fn (.func 76) [] [.ptr 21 (r21.1+1) 0,.ptr 23 (R23.1+1) 0,.ptr 22 gp 0],v8:=B false,v19:=IN 0,v20:=IN 0}∧
          h=HC t s va r0 r1 r2 r3 r4 r8 r9 r11 r12 r13 r14 r15 r16 r17 r18 r19 r20 last x.1 (K.set p (.agg [.nils,.uslc []])) (r21.1+1,.var [.ptr 7 1 0]) (gp,.var [I p]) (R23.1+1,.var [.eptr 6 1 (s.length+1) 2 p 0]) (g24+1,.dead) R25 R26) (fun _=>0) (_,⟨.uu,_,_,.uu,_,.uu,_,_,_,_,_,_,_,_,_,_,.uu,.uu,_,_,_⟩) ⟨rfl,rfl⟩ ?_
         rintro⟨ver,⟨v3,v4,v5,v6,v7,v8,v9,v10,v11,v12,v13,v14,v15,v16,v17,v18,v19,v20,v21,v22,v23⟩⟩ vs h ⟨rfl,rfl⟩ Q6 hK6 hX6 hR6;simp[HC,J5];refine hX6 _ _ _ ?_;simp;refine hX5 _ _ _ ?_;simp[hwp];exact hK2 (q+1,C.set p [],25,R25.1+1,_,(p:Int)-1,(gp,.var [I p]),(R23.1+1,.var [.eptr 6 1 (s.length+1) 2 p 0]),g24+1,(R25.1+1,.var [I ((p:Int)-1)]),_,⟨_,_,_,_,_,_,_,_,_,_,_,_,_,_,_,_,_,_,_,_,_⟩) _ _ i9 ⟨m7,hstep [] hpb (fun j hj=>absurd hj (a6E j)),m7,.inr ⟨rfl,rfl⟩,rfl,by dsimp only;rw[←hnext []];rfl⟩
       . have hDS:DS L=.slc (L.map IN):=if_neg hLe;have hDC:∀D,DC L D=.agg [.slc (L.map IN),.uslc (D.map I)]:=fun D=>(by unfold DC;rw[hDS]);have e0:List.replicate L.length (I 0)=(O1 t s p L 0).map I:=(by rw[c0O,List.map_replicate]);have hlen:(L.length:Int)≤3072:=i9;have hlen2:L.length≤9223372036854775807:=i9;have hlen3:(L.length:Int)*8≤140737488355328:=i9;have hKe:∀D:List Int,(∀x,x∈K.set p (.agg [.slc (L.map IN),.uslc (D.map I)])→D4 x=true)=True:=fun D=>hKs _ rfl;simp[HC,J5,hK0,hKl,hps,hDS,hss,hlen,hlen2,hlen3,e0,a7w];refine E3 (fun(x:Nat×Nat×PRV) vs h=>x.1≤L.length∧vs=J5 (r21.1+1) (.ptr 22 gp 0) {x.2.2 with v3:=.ptr 23 (R23.1+1) 0,v11:=.slc (L.map IN),v12:=IN L.length,v13:=IN x.1}∧
          h=HC t s va r0 r1 r2 r3 r4 r8 r9 r11 r12 r13 r14 r15 r16 r17 r18 r19 r20 last x.2.1 (K.set p (.agg [.slc (L.map IN),.uslc ((O1 t s p L x.1).map I)])) (r21.1+1,.var [.ptr 7 1 0]) (gp,.var [I p]) (R23.1+1,.var [.eptr 6 1 (s.length+1) 2 p 0]) (g24+1,.dead) R25 R26) (fun x=>L.length-x.1) (0,_,⟨.uu,_,_,_,_,_,_,_,.uu,.uu,.uu,_,_,_,_,_,_,_,_,_,_⟩) ⟨C9 _,rfl,rfl⟩ ?_
         rintro⟨k,ver,⟨v3,v4,v5,v6,v7,v8,v9,v10,v11,v12,v13,v14,v15,v16,v17,v18,v19,v20,v21,v22,v23⟩⟩ vs h ⟨x1,rfl,rfl⟩ Q3 hK3 hX3 hR3;dsimp only at x1;by_cases hk:k<L.length
         . have hwk:=wk1 k i9;have hx:L[k]<(j4 t).length:=hL2 _ (B7 hk);have hset:=b6e (t:=t) (s:=s) (p:=p) hk;have hil:=a7w t s p L k;have hgx:(j4 t).getD (L.getD k 0) B9=(j4 t)[L[k]]:=(by grind);rw[hgx]at hset;have hts:List.take (j4 t).length (List.map SP (j4 t))=(j4 t).map SP:=U4 k7;by_cases hpe:p=s.length
           . have hpt:(p=s.length)=True:=eq_true hpe;have hac:=a6k t (j4 t)[L[k]] ht.ok (hsv _ (B7 hx));simp[HC,J5,hk,hKl,hps,hss,hil,hpt,hx,hts];refine l7 hac ?_;cases hacc:B6 t (j4 t)[L[k]]with
             |true=>
              rw[if_pos ⟨hpe,hacc⟩]at hset;have e1:((O1 t s p L k).map I).set k (I 0)=(O1 t s p L (k+1)).map I:=(by rw[←hset,J8]);simp[hk,hKl,hps,hss,hil,hwk,e1];exact hK3 (k+1,_,⟨.uu,_,_,_,_,_,_,_,.uu,.uu,.uu,_,_,_,_,_,_,_,_,_,_⟩) _ _ i9 ⟨m7,rfl,rfl⟩
             |false=>
              rw[if_neg (fun e=>by rw[hacc]at e;exact absurd e.2 H6)]at hset;have e1:((O1 t s p L k).map I).set k (I (-1))=(O1 t s p L (k+1)).map I:=(by rw[←hset,J8]);simp[hwk,e1];exact hK3 (k+1,_,⟨.uu,_,_,_,_,_,_,_,.uu,.uu,.uu,_,_,_,_,_,_,_,_,_,_⟩) _ _ i9 ⟨m7,rfl,rfl⟩
           . have hpt:(p=s.length)=False:=eq_false hpe;rw[if_neg (fun e=>hpe e.1)]at hset;have e1:((O1 t s p L k).map I).set k (I (-1))=(O1 t s p L (k+1)).map I:=(by rw[←hset,J8]);simp[HC,J5,hk,hKl,hps,hss,hil,hpt,hwk,e1];exact hK3 (k+1,_,⟨.uu,_,_,_,_,_,_,_,.uu,.uu,.uu,_,_,_,_,_,_,_,_,_,_⟩) _ _ i9 ⟨m7,rfl,rfl⟩
         obtain rfl:k=L.length:=i9;simp[HC,J5];refine hX3 _ _ _ ?_;simp[hKl,hps,hss];refine E3 (fun(x:Nat×List Int×Nat×Row×PRV) vs h=>x.1≤L.length∧PB t s p L (fun j=>c.getD j []) (fun j=>C.getD j []) (12288*(q:Int)) x.1 x.2.1∧vs=J5 (r21.1+1) (.ptr 22 gp 0) {x.2.2.2.2 with v3:=.ptr 23 (R23.1+1) 0,v6:=.fn (.func 76) [] [.ptr 21 (r21.1+1) 0,.ptr 23 (R23.1+1) 0,.ptr 22 gp 0],v16:=IN L.length,v17:=IN x.1}∧
          h=HC t s va r0 r1 r2 r3 r4 r8 r9 r11 r12 r13 r14 r15 r16 r17 r18 r19 r20 last x.2.2.1 (K.set p (.agg [.slc (L.map IN),.uslc (x.2.1.map I)])) (r21.1+1,.var [.ptr 7 1 0]) (gp,.var [I p]) (R23.1+1,.var [.eptr 6 1 (s.length+1) 2 p 0]) (g24+1,.dead) R25 x.2.2.2.1) (fun x=>L.length-x.1) (0,O1 t s p L L.length,_,_,⟨.uu,_,_,.uu,_,_,_,_,_,_,_,_,_,.uu,.uu,_,_,_,_,_,_⟩) ⟨C9 _,PB.start i9,rfl,rfl⟩ ?_
         rintro⟨i,D,ver,R26,⟨v3,v4,v5,v6,v7,v8,v9,v10,v11,v12,v13,v14,v15,v16,v17,v18,v19,v20,v21,v22,v23⟩⟩ vs h ⟨x1,x2,rfl,rfl⟩ Q3 hK3 hX3 hR3;dsimp only at x1 x2;by_cases hi:i<L.length
         . have hwi:=wk1 i i9;obtain⟨r,ws,⟨ver2,g26,o26,rfl,rfl⟩,hf⟩:=b0f t ht s hs va r0 r1 r2 r3 r4 r8 r9 r11 r12 r13 r14 r15 r16 r17 r18 r19 r20 (gp,.var [I p]) (g24+1,.dead) R25 R26 (r21.1+1) (R23.1+1) gp 22 last ver K p L (fun j=>c.getD j []) (fun j=>C.getD j []) D i false (12288*((s.length+1:Nat):Int)) (.inl ⟨rfl,rfl⟩) hKl hpn hKr hKj hcj hL1 (x2.pi.len) hL2 hL3 hi (x2.le hL3 i9) i9 i9;have hstp:=x2.step ht hi hL2 i9 hlat;obtain⟨r,hr⟩:∃r,r=T4 t s p L (fun j=>c.getD j []) (fun j=>C.getD j []) i false D ((C0 t).getD (L.getD i 0) []):=⟨_,rfl⟩
           rw[←hr]at hf hstp;obtain⟨D2,b2⟩:=r;simp only[hDC]at hf;dsimp only at hf hstp;have hu:m6 (HC t s va r0 r1 r2 r3 r4 r8 r9 r11 r12 r13 r14 r15 r16 r17 r18 r19 r20 last ver (K.set p (.agg [.slc (L.map IN),.uslc (D.map I)])) (r21.1+1,.var [.ptr 7 1 0]) (gp,.var [I p]) (R23.1+1,.var [.eptr 6 1 (s.length+1) 2 p 0]) (g24+1,.dead) R25 R26) [(6,(1,.arr 2 ver2 false (K.set p (.agg [.slc (L.map IN),.uslc (D2.map I)])))),(26,(g26,o26))]=HC t s va r0 r1 r2 r3 r4 r8 r9 r11 r12 r13 r14 r15 r16 r17 r18 r19 r20 last ver2 (K.set p (.agg [.slc (L.map IN),.uslc (D2.map I)])) (r21.1+1,.var [.ptr 7 1 0]) (gp,.var [I p]) (R23.1+1,.var [.eptr 6 1 (s.length+1) 2 p 0]) (g24+1,.dead) R25 (g26,o26):=rfl;simp[HC,J5,hi,hKe];refine a4A hf hu rfl ?_;simp[HC,hwi];exact hK3 (i+1,D2,ver2,_,⟨.uu,_,_,.uu,_,_,_,_,_,_,_,_,_,.uu,.uu,_,_,_,_,_,_⟩) _ _ i9 ⟨m7,hstp,rfl,rfl⟩
         . obtain rfl:i=L.length:=i9;simp[HC,J5];refine hX3 _ _ _ ?_;simp[hKl,hps,hss];refine E3 (fun(x:List Int×Nat×Row×PRV) vs h=>PB t s p L (fun j=>c.getD j []) (fun j=>C.getD j []) (12288*(q:Int)) L.length x.1∧vs=J5 (r21.1+1) (.ptr 22 gp 0) {x.2.2.2 with v3:=.ptr 23 (R23.1+1) 0,v6:=.fn (.func 76) [] [.ptr 21 (r21.1+1) 0,.ptr 23 (R23.1+1) 0,.ptr 22 gp 0]}∧
           h=HC t s va r0 r1 r2 r3 r4 r8 r9 r11 r12 r13 r14 r15 r16 r17 r18 r19 r20 last x.2.1 (K.set p (.agg [.slc (L.map IN),.uslc (x.1.map I)])) (r21.1+1,.var [.ptr 7 1 0]) (gp,.var [I p]) (R23.1+1,.var [.eptr 6 1 (s.length+1) 2 p 0]) (g24+1,.dead) R25 x.2.2.1) (fun x=>a1k (12288*(q+1)) x.1) (D,_,_,⟨.uu,_,_,.uu,_,_,_,_,_,_,_,_,_,_,_,_,_,_,_,_,_⟩) ⟨x2,rfl,rfl⟩ ?_
           rintro⟨D,ver,R26,⟨v3,v4,v5,v6,v7,v8,v9,v10,v11,v12,v13,v14,v15,v16,v17,v18,v19,v20,v21,v22,v23⟩⟩ vs h ⟨x2,rfl,rfl⟩ Q4 hK4 hX4 hR4;dsimp only at x2;simp[HC,J5,hKl,hps,hss];refine E3 (fun(x:Nat×List Int×Bool×Nat×Row×PRV) vs h=>x.1≤L.length∧PS t s p L (fun j=>c.getD j []) (fun j=>C.getD j []) (12288*(q:Int)) (12288*(q+1)) D x.1 x.2.1 x.2.2.1∧vs=J5 (r21.1+1) (.ptr 22 gp 0) {x.2.2.2.2.2 with v3:=.ptr 23 (R23.1+1) 0,v6:=.fn (.func 76) [] [.ptr 21 (r21.1+1) 0,.ptr 23 (R23.1+1) 0,.ptr 22 gp 0],v8:=B x.2.2.1,v19:=IN L.length,v20:=IN x.1}∧
           h=HC t s va r0 r1 r2 r3 r4 r8 r9 r11 r12 r13 r14 r15 r16 r17 r18 r19 r20 last x.2.2.2.1 (K.set p (.agg [.slc (L.map IN),.uslc (x.2.1.map I)])) (r21.1+1,.var [.ptr 7 1 0]) (gp,.var [I p]) (R23.1+1,.var [.eptr 6 1 (s.length+1) 2 p 0]) (g24+1,.dead) R25 x.2.2.2.2.1) (fun x=>L.length-x.1) (0,D,false,_,_,⟨.uu,_,_,.uu,_,.uu,_,_,_,_,_,_,_,_,_,_,.uu,.uu,_,_,_⟩) ⟨C9 _,.start x2,rfl,rfl⟩ ?_
           rintro⟨i,E,b,ver,R26,⟨v3,v4,v5,v6,v7,v8,v9,v10,v11,v12,v13,v14,v15,v16,v17,v18,v19,v20,v21,v22,v23⟩⟩ vs h ⟨x3,x4,rfl,rfl⟩ Q5 hK5 hX5 hR5;dsimp only at x3 x4;by_cases hi:i<L.length
           . have hwi:=wk1 i i9;obtain⟨r,ws,⟨ver2,g26,o26,rfl,rfl⟩,hf⟩:=b0f t ht s hs va r0 r1 r2 r3 r4 r8 r9 r11 r12 r13 r14 r15 r16 r17 r18 r19 r20 (gp,.var [I p]) (g24+1,.dead) R25 R26 (r21.1+1) (R23.1+1) gp 22 last ver K p L (fun j=>c.getD j []) (fun j=>C.getD j []) E i true (12288*((s.length+1:Nat):Int)) (.inl ⟨rfl,rfl⟩) hKl hpn hKr hKj hcj hL1 (x4.pb.pi.len) hL2 hL3 hi (x4.pb.le hL3 i9) i9 i9;have hstp:=x4.step ht hi hL2 hL3 i9 i9 hlat;obtain⟨r,hr⟩:∃r,r=T4 t s p L (fun j=>c.getD j []) (fun j=>C.getD j []) i true E ((C0 t).getD (L.getD i 0) []):=⟨_,rfl⟩
             rw[←hr]at hf hstp;obtain⟨D2,b2⟩:=r;simp only[hDC]at hf;dsimp only at hf hstp;have hu:m6 (HC t s va r0 r1 r2 r3 r4 r8 r9 r11 r12 r13 r14 r15 r16 r17 r18 r19 r20 last ver (K.set p (.agg [.slc (L.map IN),.uslc (E.map I)])) (r21.1+1,.var [.ptr 7 1 0]) (gp,.var [I p]) (R23.1+1,.var [.eptr 6 1 (s.length+1) 2 p 0]) (g24+1,.dead) R25 R26) [(6,(1,.arr 2 ver2 false (K.set p (.agg [.slc (L.map IN),.uslc (D2.map I)])))),(26,(g26,o26))]=HC t s va r0 r1 r2 r3 r4 r8 r9 r11 r12 r13 r14 r15 r16 r17 r18 r19 r20 last ver2 (K.set p (.agg [.slc (L.map IN),.uslc (D2.map I)])) (r21.1+1,.var [.ptr 7 1 0]) (gp,.var [I p]) (R23.1+1,.var [.eptr 6 1 (s.length+1) 2 p 0]) (g24+1,.dead) R25 (g26,o26):=rfl;simp[HC,J5,hi,hKe];refine a4A hf hu rfl ?_;cases b2 with
             |true=>
              simp[HC,hwi];exact hK5 (i+1,D2,true,ver2,_,⟨.uu,_,_,.uu,_,.uu,_,_,_,_,_,_,_,_,_,_,.uu,.uu,_,_,_⟩) _ _ i9 ⟨m7,hstp,rfl,rfl⟩
             |false=>
              simp[HC,hwi];exact hK5 (i+1,D2,b,ver2,_,⟨.uu,_,_,.uu,_,.uu,_,_,_,_,_,_,_,_,_,_,.uu,.uu,_,_,_⟩) _ _ i9 ⟨m7,hstp,rfl,rfl⟩
           . obtain rfl:i=L.length:=i9;simp[HC,J5];refine hX5 _ _ _ ?_;cases b with
             |true=>
              simp;exact hK4 (E,ver,_,⟨.uu,_,_,.uu,_,_,_,_,_,_,_,_,_,_,_,_,_,_,_,_,_⟩) _ _ (x4.less.2 rfl) ⟨x4.pb,rfl,rfl⟩
             |false=>
              obtain⟨y1,y2⟩:=x4.same rfl;simp;refine hX4 _ _ _ ?_;simp[hwp];exact hK2 (q+1,C.set p E,25,R25.1+1,_,(p:Int)-1,(gp,.var [I p]),(R23.1+1,.var [.eptr 6 1 (s.length+1) 2 p 0]),g24+1,(R25.1+1,.var [I ((p:Int)-1)]),_,⟨_,_,_,_,_,_,_,_,_,_,_,_,_,_,_,_,_,_,_,_,_⟩) _ _ i9 ⟨m7,hstep E x4.pb y2,m7,.inr ⟨rfl,rfl⟩,rfl,by dsimp only;rw[←hnext E,hDC];rfl⟩
     . have hsl:∀X:PV,(K.set p X).length=s.length+1:=fun X=>(by rw[a2T,hKl]);by_cases hLe:L=[]
       . subst hLe;have hpb:PB t s p [] (fun j=>c.getD j []) (fun j=>C.getD j []) (12288*(q:Int)) 0 []:=PB.start (L:=[]) i9;have hK0':K[p]?=some (.agg [.nils,.nils]):=hK0;simp[HC,J5,hK0',hKl,hps,hss];refine E3 (fun(x:Nat×PRV) vs h=>vs=J5 (r21.1+1) (.ptr 25 gp 0) {x.2 with v3:=.ptr 23 (R23.1+1) 0,v11:=.nils,v12:=IN 0,v13:=IN 0}∧
          h=HC t s va r0 r1 r2 r3 r4 r8 r9 r11 r12 r13 r14 r15 r16 r17 r18 r19 r20 last x.1 (K.set p (.agg [.nils,.uslc []])) (r21.1+1,.var [.ptr 7 1 0]) R22 (R23.1+1,.var [.eptr 6 1 (s.length+1) 2 p 0]) (g24+1,.dead) (gp,.var [I p]) R26) (fun _=>0) (_,⟨.uu,_,_,_,_,_,_,_,.uu,.uu,.uu,_,_,_,_,_,_,_,_,_,_⟩) ⟨rfl,rfl⟩ ?_
         rintro⟨ver,⟨v3,v4,v5,v6,v7,v8,v9,v10,v11,v12,v13,v14,v15,v16,v17,v18,v19,v20,v21,v22,v23⟩⟩ vs h ⟨rfl,rfl⟩ Q3 hK3 hX3 hR3;simp[HC,J5];refine hX3 _ _ _ ?_;simp[hKl,hps,hss];refine E3 (fun(x:Nat×PRV) vs h=>vs=J5 (r21.1+1) (.ptr 25 gp 0) {x.2 with v3:=.ptr 23 (R23.1+1) 0,v6:=.fn (.func 76) [] [.ptr 21 (r21.1+1) 0,.ptr 23 (R23.1+1) 0,.ptr 25 gp 0],v16:=IN 0,v17:=IN 0}∧
          h=HC t s va r0 r1 r2 r3 r4 r8 r9 r11 r12 r13 r14 r15 r16 r17 r18 r19 r20 last x.1 (K.set p (.agg [.nils,.uslc []])) (r21.1+1,.var [.ptr 7 1 0]) R22 (R23.1+1,.var [.eptr 6 1 (s.length+1) 2 p 0]) (g24+1,.dead) (gp,.var [I p]) R26) (fun _=>0) (_,⟨.uu,_,_,.uu,_,_,_,_,_,_,_,_,_,.uu,.uu,_,_,_,_,_,_⟩) ⟨rfl,rfl⟩ ?_
         rintro⟨ver,⟨v3,v4,v5,v6,v7,v8,v9,v10,v11,v12,v13,v14,v15,v16,v17,v18,v19,v20,v21,v22,v23⟩⟩ vs h ⟨rfl,rfl⟩ Q4 hK4 hX4 hR4;simp[HC,J5];refine hX4 _ _ _ ?_;simp;refine E3 (fun(x:Nat×PRV) vs h=>vs=J5 (r21.1+1) (.ptr 25 gp 0) {x.2 with v3:=.ptr 23 (R23.1+1) 0,v6:=.fn (.func 76) [] [.ptr 21 (r21.1+1) 0,.ptr 23 (R23.1+1) 0,.ptr 25 gp 0]}∧
          h=HC t s va r0 r1 r2 r3 r4 r8 r9 r11 r12 r13 r14 r15 r16 r17 r18 r19 r20 last x.1 (K.set p (.agg [.nils,.uslc []])) (r21.1+1,.var [.ptr 7 1 0]) R22 (R23.1+1,.var [.eptr 6 1 (s.length+1) 2 p 0]) (g24+1,.dead) (gp,.var [I p]) R26) (fun _=>0) (_,⟨.uu,_,_,.uu,_,_,_,_,_,_,_,_,_,_,_,_,_,_,_,_,_⟩) ⟨rfl,rfl⟩ ?_
         rintro⟨ver,⟨v3,v4,v5,v6,v7,v8,v9,v10,v11,v12,v13,v14,v15,v16,v17,v18,v19,v20,v21,v22,v23⟩⟩ vs h ⟨rfl,rfl⟩ Q5 hK5 hX5 hR5;simp[HC,J5,hKl,hps,hss];refine E3 (fun(x:Nat×PRV) vs h=>vs=J5 (r21.1+1) (.ptr 25 gp 0) {x.2 with v3:=.ptr 23 (R23.1+1) 0,v6:=.fn (.func 76) [] [.ptr 21 (r21.1+1) 0,.ptr 23 (R23.1+1) 0,.ptr 25 gp 0],v8:=B false,v19:=IN 0,v20:=IN 0}∧
          h=HC t s va r0 r1 r2 r3 r4 r8 r9 r11 r12 r13 r14 r15 r16 r17 r18 r19 r20 last x.1 (K.set p (.agg [.nils,.uslc []])) (r21.1+1,.var [.ptr 7 1 0]) R22 (R23.1+1,.var [.eptr 6 1 (s.length+1) 2 p 0]) (g24+1,.dead) (gp,.var [I p]) R26) (fun _=>0) (_,⟨.uu,_,_,.uu,_,.uu,_,_,_,_,_,_,_,_,_,_,.uu,.uu,_,_,_⟩) ⟨rfl,rfl⟩ ?_
         rintro⟨ver,⟨v3,v4,v5,v6,v7,v8,v9,v10,v11,v12,v13,v14,v15,v16,v17,v18,v19,v20,v21,v22,v23⟩⟩ vs h ⟨rfl,rfl⟩ Q6 hK6 hX6 hR6;simp[HC,J5];refine hX6 _ _ _ ?_;simp;refine hX5 _ _ _ ?_;simp[hwp];exact hK2 (q+1,C.set p [],25,gp+1,_,(p:Int)-1,R22,(R23.1+1,.var [.eptr 6 1 (s.length+1) 2 p 0]),g24+1,(gp+1,.var [I ((p:Int)-1)]),_,⟨_,_,_,_,_,_,_,_,_,_,_,_,_,_,_,_,_,_,_,_,_⟩) _ _ i9 ⟨m7,hstep [] hpb (fun j hj=>absurd hj (a6E j)),m7,.inr ⟨rfl,rfl⟩,rfl,by dsimp only;rw[←hnext []];rfl⟩
       . have hDS:DS L=.slc (L.map IN):=if_neg hLe;have hDC:∀D,DC L D=.agg [.slc (L.map IN),.uslc (D.map I)]:=fun D=>(by unfold DC;rw[hDS]);have e0:List.replicate L.length (I 0)=(O1 t s p L 0).map I:=(by rw[c0O,List.map_replicate]);have hlen:(L.length:Int)≤3072:=i9;have hlen2:L.length≤9223372036854775807:=i9;have hlen3:(L.length:Int)*8≤140737488355328:=i9;have hKe:∀D:List Int,(∀x,x∈K.set p (.agg [.slc (L.map IN),.uslc (D.map I)])→D4 x=true)=True:=fun D=>hKs _ rfl;simp[HC,J5,hK0,hKl,hps,hDS,hss,hlen,hlen2,hlen3,e0,a7w];refine E3 (fun(x:Nat×Nat×PRV) vs h=>x.1≤L.length∧vs=J5 (r21.1+1) (.ptr 25 gp 0) {x.2.2 with v3:=.ptr 23 (R23.1+1) 0,v11:=.slc (L.map IN),v12:=IN L.length,v13:=IN x.1}∧
          h=HC t s va r0 r1 r2 r3 r4 r8 r9 r11 r12 r13 r14 r15 r16 r17 r18 r19 r20 last x.2.1 (K.set p (.agg [.slc (L.map IN),.uslc ((O1 t s p L x.1).map I)])) (r21.1+1,.var [.ptr 7 1 0]) R22 (R23.1+1,.var [.eptr 6 1 (s.length+1) 2 p 0]) (g24+1,.dead) (gp,.var [I p]) R26) (fun x=>L.length-x.1) (0,_,⟨.uu,_,_,_,_,_,_,_,.uu,.uu,.uu,_,_,_,_,_,_,_,_,_,_⟩) ⟨C9 _,rfl,rfl⟩ ?_
         rintro⟨k,ver,⟨v3,v4,v5,v6,v7,v8,v9,v10,v11,v12,v13,v14,v15,v16,v17,v18,v19,v20,v21,v22,v23⟩⟩ vs h ⟨x1,rfl,rfl⟩ Q3 hK3 hX3 hR3;dsimp only at x1;by_cases hk:k<L.length
         . have hwk:=wk1 k i9;have hx:L[k]<(j4 t).length:=hL2 _ (B7 hk);have hset:=b6e (t:=t) (s:=s) (p:=p) hk;have hil:=a7w t s p L k;have hgx:(j4 t).getD (L.getD k 0) B9=(j4 t)[L[k]]:=(by grind);rw[hgx]at hset;have hts:List.take (j4 t).length (List.map SP (j4 t))=(j4 t).map SP:=U4 k7;by_cases hpe:p=s.length
           . have hpt:(p=s.length)=True:=eq_true hpe;have hac:=a6k t (j4 t)[L[k]] ht.ok (hsv _ (B7 hx));simp[HC,J5,hk,hKl,hps,hss,hil,hpt,hx,hts];refine l7 hac ?_;cases hacc:B6 t (j4 t)[L[k]]with
             |true=>
              rw[if_pos ⟨hpe,hacc⟩]at hset;have e1:((O1 t s p L k).map I).set k (I 0)=(O1 t s p L (k+1)).map I:=(by rw[←hset,J8]);simp[hk,hKl,hps,hss,hil,hwk,e1];exact hK3 (k+1,_,⟨.uu,_,_,_,_,_,_,_,.uu,.uu,.uu,_,_,_,_,_,_,_,_,_,_⟩) _ _ i9 ⟨m7,rfl,rfl⟩
             |false=>
              rw[if_neg (fun e=>by rw[hacc]at e;exact absurd e.2 H6)]at hset;have e1:((O1 t s p L k).map I).set k (I (-1))=(O1 t s p L (k+1)).map I:=(by rw[←hset,J8]);simp[hwk,e1];exact hK3 (k+1,_,⟨.uu,_,_,_,_,_,_,_,.uu,.uu,.uu,_,_,_,_,_,_,_,_,_,_⟩) _ _ i9 ⟨m7,rfl,rfl⟩
           . have hpt:(p=s.length)=False:=eq_false hpe;rw[if_neg (fun e=>hpe e.1)]at hset;have e1:((O1 t s p L k).map I).set k (I (-1))=(O1 t s p L (k+1)).map I:=(by rw[←hset,J8]);simp[HC,J5,hk,hKl,hps,hss,hil,hpt,hwk,e1];exact hK3 (k+1,_,⟨.uu,_,_,_,_,_,_,_,.uu,.uu,.uu,_,_,_,_,_,_,_,_,_,_⟩) _ _ i9 ⟨m7,rfl,rfl⟩
         obtain rfl:k=L.length:=i9;simp[HC,J5];refine hX3 _ _ _ ?_;simp[hKl,hps,hss];refine E3 (fun(x:Nat×List Int×Nat×Row×PRV) vs h=>x.1≤L.length∧PB t s p L (fun j=>c.getD j []) (fun j=>C.getD j []) (12288*(q:Int)) x.1 x.2.1∧vs=J5 (r21.1+1) (.ptr 25 gp 0) {x.2.2.2.2 with v3:=.ptr 23 (R23.1+1) 0,v6:=.fn (.func 76) [] [.ptr 21 (r21.1+1) 0,.ptr 23 (R23.1+1) 0,.ptr 25 gp 0],v16:=IN L.length,v17:=IN x.1}∧
          h=HC t s va r0 r1 r2 r3 r4 r8 r9 r11 r12 r13 r14 r15 r16 r17 r18 r19 r20 last x.2.2.1 (K.set p (.agg [.slc (L.map IN),.uslc (x.2.1.map I)])) (r21.1+1,.var [.ptr 7 1 0]) R22 (R23.1+1,.var [.eptr 6 1 (s.length+1) 2 p 0]) (g24+1,.dead) (gp,.var [I p]) x.2.2.2.1) (fun x=>L.length-x.1) (0,O1 t s p L L.length,_,_,⟨.uu,_,_,.uu,_,_,_,_,_,_,_,_,_,.uu,.uu,_,_,_,_,_,_⟩) ⟨C9 _,PB.start i9,rfl,rfl⟩ ?_
         rintro⟨i,D,ver,R26,⟨v3,v4,v5,v6,v7,v8,v9,v10,v11,v12,v13,v14,v15,v16,v17,v18,v19,v20,v21,v22,v23⟩⟩ vs h ⟨x1,x2,rfl,rfl⟩ Q3 hK3 hX3 hR3;dsimp only at x1 x2;by_cases hi:i<L.length
         . have hwi:=wk1 i i9;obtain⟨r,ws,⟨ver2,g26,o26,rfl,rfl⟩,hf⟩:=b0f t ht s hs va r0 r1 r2 r3 r4 r8 r9 r11 r12 r13 r14 r15 r16 r17 r18 r19 r20 R22 (g24+1,.dead) (gp,.var [I p]) R26 (r21.1+1) (R23.1+1) gp 25 last ver K p L (fun j=>c.getD j []) (fun j=>C.getD j []) D i false (12288*((s.length+1:Nat):Int)) (.inr ⟨rfl,rfl⟩) hKl hpn hKr hKj hcj hL1 (x2.pi.len) hL2 hL3 hi (x2.le hL3 i9) i9 i9;have hstp:=x2.step ht hi hL2 i9 hlat;obtain⟨r,hr⟩:∃r,r=T4 t s p L (fun j=>c.getD j []) (fun j=>C.getD j []) i false D ((C0 t).getD (L.getD i 0) []):=⟨_,rfl⟩
           rw[←hr]at hf hstp;obtain⟨D2,b2⟩:=r;simp only[hDC]at hf;dsimp only at hf hstp;have hu:m6 (HC t s va r0 r1 r2 r3 r4 r8 r9 r11 r12 r13 r14 r15 r16 r17 r18 r19 r20 last ver (K.set p (.agg [.slc (L.map IN),.uslc (D.map I)])) (r21.1+1,.var [.ptr 7 1 0]) R22 (R23.1+1,.var [.eptr 6 1 (s.length+1) 2 p 0]) (g24+1,.dead) (gp,.var [I p]) R26) [(6,(1,.arr 2 ver2 false (K.set p (.agg [.slc (L.map IN),.uslc (D2.map I)])))),(26,(g26,o26))]=HC t s va r0 r1 r2 r3 r4 r8 r9 r11 r12 r13 r14 r15 r16 r17 r18 r19 r20 last ver2 (K.set p (.agg [.slc (L.map IN),.uslc (D2.map I)])) (r21.1+1,.var [.ptr 7 1 0]) R22 (R23.1+1,.var [.eptr 6 1 (s.length+1) 2 p 0]) (g24+1,.dead) (gp,.var [I p]) (g26,o26):=rfl;simp[HC,J5,hi,hKe];refine a4A hf hu rfl ?_;simp[HC,hwi];exact hK3 (i+1,D2,ver2,_,⟨.uu,_,_,.uu,_,_,_,_,_,_,_,_,_,.uu,.uu,_,_,_,_,_,_⟩) _ _ i9 ⟨m7,hstp,rfl,rfl⟩
         . obtain rfl:i=L.length:=i9;simp[HC,J5];refine hX3 _ _ _ ?_;simp[hKl,hps,hss];refine E3 (fun(x:List Int×Nat×Row×PRV) vs h=>PB t s p L (fun j=>c.getD j []) (fun j=>C.getD j []) (12288*(q:Int)) L.length x.1∧vs=J5 (r21.1+1) (.ptr 25 gp 0) {x.2.2.2 with v3:=.ptr 23 (R23.1+1) 0,v6:=.fn (.func 76) [] [.ptr 21 (r21.1+1) 0,.ptr 23 (R23.1+1) 0,.ptr 25 gp 0]}∧
           h=HC t s va r0 r1 r2 r3 r4 r8 r9 r11 r12 r13 r14 r15 r16 r17 r18 r19 r20 last x.2.1 (K.set p (.agg [.slc (L.map IN),.uslc (x.1.map I)])) (r21.1+1,.var [.ptr 7 1 0]) R22 (R23.1+1,.var [.eptr 6 1 (s.length+1) 2 p 0]) (g24+1,.dead) (gp,.var [I p]) x.2.2.1) (fun x=>a1k (12288*(q+1)) x.1) (D,_,_,⟨.uu,_,_,.uu,_,_,_,_,_,_,_,_,_,_,_,_,_,_,_,_,_⟩) ⟨x2,rfl,rfl⟩ ?_
           rintro⟨D,ver,R26,⟨v3,v4,v5,v6,v7,v8,v9,v10,v11,v12,v13,v14,v15,v16,v17,v18,v19,v20,v21,v22,v23⟩⟩ vs h ⟨x2,rfl,rfl⟩ Q4 hK4 hX4 hR4;dsimp only at x2;simp[HC,J5,hKl,hps,hss];refine E3 (fun(x:Nat×List Int×Bool×Nat×Row×PRV) vs h=>x.1≤L.length∧PS t s p L (fun j=>c.getD j []) (fun j=>C.getD j []) (12288*(q:Int)) (12288*(q+1)) D x.1 x.2.1 x.2.2.1∧vs=J5 (r21.1+1) (.ptr 25 gp 0) {x.2.2.2.2.2 with v3:=.ptr 23 (R23.1+1) 0,v6:=.fn (.func 76) [] [.ptr 21 (r21.1+1) 0,.ptr 23 (R23.1+1) 0,.ptr 25 gp 0],v8:=B x.2.2.1,v19:=IN L.length,v20:=IN x.1}∧
           h=HC t s va r0 r1 r2 r3 r4 r8 r9 r11 r12 r13 r14 r15 r16 r17 r18 r19 r20 last x.2.2.2.1 (K.set p (.agg [.slc (L.map IN),.uslc (x.2.1.map I)])) (r21.1+1,.var [.ptr 7 1 0]) R22 (R23.1+1,.var [.eptr 6 1 (s.length+1) 2 p 0]) (g24+1,.dead) (gp,.var [I p]) x.2.2.2.2.1) (fun x=>L.length-x.1) (0,D,false,_,_,⟨.uu,_,_,.uu,_,.uu,_,_,_,_,_,_,_,_,_,_,.uu,.uu,_,_,_⟩) ⟨C9 _,.start x2,rfl,rfl⟩ ?_
           rintro⟨i,E,b,ver,R26,⟨v3,v4,v5,v6,v7,v8,v9,v10,v11,v12,v13,v14,v15,v16,v17,v18,v19,v20,v21,v22,v23⟩⟩ vs h ⟨x3,x4,rfl,rfl⟩ Q5 hK5 hX5 hR5;dsimp only at x3 x4;by_cases hi:i<L.length
           . have hwi:=wk1 i i9;obtain⟨r,ws,⟨ver2,g26,o26,rfl,rfl⟩,hf⟩:=b0f t ht s hs va r0 r1 r2 r3 r4 r8 r9 r11 r12 r13 r14 r15 r16 r17 r18 r19 r20 R22 (g24+1,.dead) (gp,.var [I p]) R26 (r21.1+1) (R23.1+1) gp 25 last ver K p L (fun j=>c.getD j []) (fun j=>C.getD j []) E i true (12288*((s.length+1:Nat):Int)) (.inr ⟨rfl,rfl⟩) hKl hpn hKr hKj hcj hL1 (x4.pb.pi.len) hL2 hL3 hi (x4.pb.le hL3 i9) i9 i9;have hstp:=x4.step ht hi hL2 hL3 i9 i9 hlat;obtain⟨r,hr⟩:∃r,r=T4 t s p L (fun j=>c.getD j []) (fun j=>C.getD j []) i true E ((C0 t).getD (L.getD i 0) []):=⟨_,rfl⟩
             rw[←hr]at hf hstp;obtain⟨D2,b2⟩:=r;simp only[hDC]at hf;dsimp only at hf hstp;have hu:m6 (HC t s va r0 r1 r2 r3 r4 r8 r9 r11 r12 r13 r14 r15 r16 r17 r18 r19 r20 last ver (K.set p (.agg [.slc (L.map IN),.uslc (E.map I)])) (r21.1+1,.var [.ptr 7 1 0]) R22 (R23.1+1,.var [.eptr 6 1 (s.length+1) 2 p 0]) (g24+1,.dead) (gp,.var [I p]) R26) [(6,(1,.arr 2 ver2 false (K.set p (.agg [.slc (L.map IN),.uslc (D2.map I)])))),(26,(g26,o26))]=HC t s va r0 r1 r2 r3 r4 r8 r9 r11 r12 r13 r14 r15 r16 r17 r18 r19 r20 last ver2 (K.set p (.agg [.slc (L.map IN),.uslc (D2.map I)])) (r21.1+1,.var [.ptr 7 1 0]) R22 (R23.1+1,.var [.eptr 6 1 (s.length+1) 2 p 0]) (g24+1,.dead) (gp,.var [I p]) (g26,o26):=rfl;simp[HC,J5,hi,hKe];refine a4A hf hu rfl ?_;cases b2 with
             |true=>
              simp[HC,hwi];exact hK5 (i+1,D2,true,ver2,_,⟨.uu,_,_,.uu,_,.uu,_,_,_,_,_,_,_,_,_,_,.uu,.uu,_,_,_⟩) _ _ i9 ⟨m7,hstp,rfl,rfl⟩
             |false=>
              simp[HC,hwi];exact hK5 (i+1,D2,b,ver2,_,⟨.uu,_,_,.uu,_,.uu,_,_,_,_,_,_,_,_,_,_,.uu,.uu,_,_,_⟩) _ _ i9 ⟨m7,hstp,rfl,rfl⟩
           . obtain rfl:i=L.length:=i9;simp[HC,J5];refine hX5 _ _ _ ?_;cases b with
             |true=>
              simp;exact hK4 (E,ver,_,⟨.uu,_,_,.uu,_,_,_,_,_,_,_,_,_,_,_,_,_,_,_,_,_⟩) _ _ (x4.less.2 rfl) ⟨x4.pb,rfl,rfl⟩
             |false=>
              obtain⟨y1,y2⟩:=x4.same rfl;simp;refine hX4 _ _ _ ?_;simp[hwp];exact hK2 (q+1,C.set p E,25,gp+1,_,(p:Int)-1,R22,(R23.1+1,.var [.eptr 6 1 (s.length+1) 2 p 0]),g24+1,(gp+1,.var [I ((p:Int)-1)]),_,⟨_,_,_,_,_,_,_,_,_,_,_,_,_,_,_,_,_,_,_,_,_⟩) _ _ i9 ⟨m7,hstep E x4.pb y2,m7,.inr ⟨rfl,rfl⟩,rfl,by dsimp only;rw[←hnext E,hDC];rfl⟩
   . obtain rfl:q=s.length+1:=i9;have hpl:¬0≤pl:=i9;rcases q4 with⟨rfl,rfl⟩|⟨rfl,rfl⟩
     . simp[HC,J5,hpl];refine hX2 _ _ _ ?_;simp;refine hN _ [(6,(1,.arr 2 ver false (V5 s.length (s.length+1) c C))),(21,(r21.1+1,.var [.ptr 7 1 0])),(22,(gp,.var [I pl])),(23,R23),(24,(g24,.dead)),(25,R25),(26,R26)] _ _ ⟨C,ver,_,_,_,_,_,_,rfl,q2,rfl⟩ ?_;simp[P6,X39,HC]
     . simp[HC,J5,hpl];refine hX2 _ _ _ ?_;simp;refine hN _ [(6,(1,.arr 2 ver false (V5 s.length (s.length+1) c C))),(21,(r21.1+1,.var [.ptr 7 1 0])),(22,R22),(23,R23),(24,(g24,.dead)),(25,(gp,.var [I pl])),(26,R26)] _ _ ⟨C,ver,_,_,_,_,_,_,rfl,q2,rfl⟩ ?_;simp[P6,X39,HC]
end
section
def wrS(t:j9)(s:By)(F:Nat→Nat→Int)(p x:Nat)(m:Int):Option (Nat×Nat):=((C0 t).getD x []).find? fun a=>M6 t s p a.1&&decide (0≤F (p+A7 t a.1) a.2)&&decide (F (p+A7 t a.1) a.2=m-s7 t a.1)
def wr(t:j9)(s:By)(F:Nat→Nat→Int):Nat→Nat→Nat→Int→List Nat
 |0,_,_,_=>[]
 |n+1,p,x,m=>if 0<m then match wrS t s F p x m with
  |some a=>a.1::wr t s F n (p+A7 t a.1) a.2 (m-s7 t a.1)
  |none=>[]
  else []
structure a2s(t:j9)(s:By)(c:List (List Nat))(C:List (List Int)):Prop where
 lt:∀p x,x∈c.getD p []→x<(j4 t).length
 root:0∈c.getD 0 []
 sorted:∀p,p≤s.length→(c.getD p []).Pairwise (· < ·)
 le:∀p,p≤s.length→(c.getD p []).length≤3072
 next:∀p x,p≤s.length→x∈c.getD p []→∀a∈(C0 t).getD x [],M6 t s p a.1=true→a.2∈c.getD (p+A7 t a.1) []
 pq:PQ t s c C (s.length+1)
theorem a8q{t:j9}(ht:s5 t){s s':State}{k:Nat}(h:step t s k=some s'):1≤s7 t k:=by have hk:=a2o h;unfold s7;rw[u9,l9 hk];exact(a3F (ht.sound _ (B7 hk))).c1
theorem b5r{t:j9}(ht:s5 t){s s':State}{k:Nat}(h:step t s k=some s'):s7 t k≤4:=by have hk:=a2o h;unfold s7;rw[u9,l9 hk];exact(a3F (ht.sound _ (B7 hk))).c4
theorem b0V(t:j9)(k:Nat)(q:List Nat):(A9 t (k::q)).length=s7 t k+(A9 t q).length:=by show((t.rules.getD k default).cells++A9 t q).length=_;rw[a0u];rfl
theorem a3p(t:j9)(k:Nat)(q:List Nat):F5 t (k::q)=(t.rules.getD k default).print++F5 t q:=rfl
namespace a2s
variable{t:j9}{s:By}{c:List (List Nat)}{C:List (List Int)}
theorem low(h:a2s t s c C)(ht:s5 t){q:List Nat}{p x:Nat}{st':State}(hp:p≤s.length)(hx:x∈c.getD p [])(h1:D8 t ((j4 t).getD x B9) q=some st')(h2:B6 t st'=true)(h3:F5 t q=s.drop p):0≤FC c C p x∧FC c C p x≤(A9 t q).length:=
 Pay.low (f:=FC c C) (c:=fun p=>c.getD p []) ht (fun p x hx=>h.lt p x hx) (fun p x hp hx a ha hg=>⟨h.next p x hp hx a ha hg,h.pq.clo p hp i9 x hx a ha hg⟩) (h.pq.fin i9) q p x st' hp hx h1 h2 h3
theorem pay(h:a2s t s c C){p x:Nat}(hp:p≤s.length)(h0:0≤FC c C p x):Pay t s p x (FC c C p x).toNat:=
 (h.pq.snd p hp i9).find (h.pq.len p hp i9) h0
theorem bd(h:a2s t s c C){p x:Nat}(hp:p≤s.length):FC c C p x≤12288*((s.length+1:Nat):Int):=
 a5Z (L:=c.getD p []) (fun y hy=>by have:=h.pq.bd p hp i9 y hy;omega) i9 x
theorem b9M(h:a2s t s c C)(ht:s5 t){p x:Nat}(hp:p≤s.length)(hx:x∈c.getD p [])(h0:0<FC c C p x):∃a,wrS t s (FC c C) p x (FC c C p x)=some a:=by
 obtain⟨q,st',q1,q2,q3,q4⟩:=h.pay hp (Int.le_of_lt h0)
 match q,q1,q3,q4 with
 | [],q1,q3,q4=>simp[A9]at q4;omega
 |k::q,q1,q3,q4=>
  have hxN:=h.lt p x hx;obtain⟨s1,e1,e2⟩:=V1.1 (show(T.step t _ k).bind (fun s'=>D8 t s' q)=some st' from q1);have hm:=c0i hxN e1;have hd:s.drop p=(t.rules.getD k default).print++F5 t q:=by rw[←q3];rfl
  obtain⟨g1,g2⟩:=b2O hd;have hle:=a4O g1;have hs1:=W7 ht (a1A hxN) e1;have hn:=h.next p x hp hx _ hm g1;dsimp only at hn;obtain⟨i1,i2⟩:=h.low ht (show p+A7 t k≤s.length by omega) hn (by rw[a1R hs1];exact e2) q2 g2.symm;have hc:=h.pq.clo p hp i9 x hx _ hm g1 i1;dsimp only at hc;rw[b0V]at q4;unfold wrS;cases hf:((C0 t).getD x []).find? fun a=>M6 t s p a.1&&decide (0≤FC c C (p+A7 t a.1) a.2)&&decide (FC c C (p+A7 t a.1) a.2=FC c C p x-s7 t a.1)with
  |some a=>exact⟨a,rfl⟩
  |none=>
   have:=List.find?_eq_none.1 hf _ hm;refine absurd ?_ this;simp only[E6,decide_eq_true_eq];exact⟨⟨g1,i1⟩,i9⟩
theorem b6M(h:a2s t s c C)(ht:s5 t){p x:Nat}(hp:p≤s.length)(hx:x∈c.getD p []){m:Int}{a:Nat×Nat}(ha:wrS t s (FC c C) p x m=some a):
 a∈(C0 t).getD x []∧M6 t s p a.1=true∧FC c C (p+A7 t a.1) a.2=m-s7 t a.1∧0≤m-s7 t a.1∧p+A7 t a.1≤s.length∧a.2∈c.getD (p+A7 t a.1) []∧1≤s7 t a.1∧s7 t a.1≤4:=by
 have h1:=List.find?_some ha;have h2:=List.mem_of_find?_eq_some ha;simp only[E6,decide_eq_true_eq]at h1;obtain⟨⟨g1,g2⟩,g3⟩:=h1;have hle:=a4O g1;obtain⟨s',e1,_⟩:=a8m (h.lt p x hx) h2;exact⟨h2,g1,g3,i9,i9,h.next p x hp hx a h2 g1,a8q ht e1,b5r ht e1⟩
theorem b5V(h:a2s t s c C)(ht:s5 t):∀(n p x:Nat),p≤s.length→x∈c.getD p []→0≤FC c C p x→FC c C p x≤n→
 ∃st',D8 t ((j4 t).getD x B9) (wr t s (FC c C) n p x (FC c C p x))=some st'∧B6 t st'=true∧F5 t (wr t s (FC c C) n p x (FC c C p x))=s.drop p∧((A9 t (wr t s (FC c C) n p x (FC c C p x))).length:Int)=FC c C p x
 |n,p,x,hp,hx,h0,hn=>by
  by_cases hz:FC c C p x=0
  . have e:wr t s (FC c C) n p x (FC c C p x)=[]:=by
     cases n with
     |zero=>rfl
     |succ n=>unfold wr;rw[if_neg i9]
    rw[e];obtain⟨q,st',q1,q2,q3,q4⟩:=h.pay hp h0
    match q,q1,q3,q4 with
    | [],q1,q3,q4=>exact⟨st',q1,q2,q3,by rw[hz];rfl⟩
    |k::q,q1,q3,q4=>
     obtain⟨s1,e1,e2⟩:=V1.1 (show(T.step t _ k).bind (fun s'=>D8 t s' q)=some st' from q1);have:=a8q ht e1;rw[b0V]at q4;omega
  . match n with
    |0=>omega
    |n+1=>
     obtain⟨a,ha⟩:=h.b9M ht hp hx i9;obtain⟨r1,r2,r3,r4,r5,r6,r7,r8⟩:=h.b6M ht hp hx ha;have e:wr t s (FC c C) (n+1) p x (FC c C p x)=a.1::wr t s (FC c C) n (p+A7 t a.1) a.2 (FC c C (p+A7 t a.1) a.2):=by
      rw[r3]
      conv=>lhs;unfold wr
      rw[if_pos i9,ha]
     rw[e];obtain⟨st',w1,w2,w3,w4⟩:=b5V h ht n (p+A7 t a.1) a.2 r5 r6 i9 i9;obtain⟨s',e1,e2⟩:=a8m (h.lt p x hx) r1;rw[e2,a1R (W7 ht (a1A (h.lt p x hx)) e1),←e2]at w1;refine⟨st',?_,w2,?_,?_⟩
     . show(T.step t _ a.1).bind _=_;rw[e1];exact w1
     . rw[a3p,w3,←b7q r2]
     . rw[b0V];omega
end a2s
theorem RI.a2G{t:j9}(ht:s5 t){s:By}{c:List (List Nat)}{kn:List (List Bool)}{C:List (List Int)}(h:RI t s (s.length+1) 0 c kn)(hq:PQ t s c C (s.length+1)):a2s t s c C:=
 ⟨h.lt,h.root,fun p hp=>h.sorted p i9,fun p hp=>S7 (a3P _ _ (h.nodup p) fun y hy=>h.lt p y hy) (a1g ht),fun p x hp hx a ha hg=>by have:=h.done p i9 x hx;unfold Cl at this;rw[J7]at this;exact this a ha hg,hq⟩
end
def KF(n:Nat)(c:List (List Nat))(C:List (List Int)):List PV:=(List.range (n+1)).map fun j=>.agg [.slc ((c.getD j []).map IN),.slc ((C.getD j []).map I)]
theorem c7k(n:Nat)(c:List (List Nat))(C:List (List Int)):(KF n c C).length=n+1:=by simp[KF]
theorem c4r{n:Nat}{c:List (List Nat)}{C:List (List Int)}(j:Nat)(h:j<(KF n c C).length):(KF n c C)[j]=.agg [.slc ((c.getD j []).map IN),.slc ((C.getD j []).map I)]:=by simp[KF]
def InC(c:List (List Nat))(p x:Nat):Prop:=x∈c.getD p []
abbrev WR(t:j9)(q:List Nat):PV:=.agg [.uslc ((A9 t q).map UN),.uslc (q.map IN)]
theorem c8F(t:j9)(ht:s5 t)(s:By)(hs:s.length≤1100000000)(c:List (List Nat))(C:List (List Int))(hc:a2s t s c C)(x4 x7:PV)(h0:0≤FC c C 0 0):
 F0 40 [1,1] [.fptr [IN t.modes,UN t.accept,.slc (t.rules.map RP),St s,x4,.slc ((C0 t).map SA),.slc (KF s.length c C),x7]] (WR t (wr t s (FC c C) (FC c C 0 0).toNat 0 0 (FC c C 0 0))):=by
 have hN:=a1g ht;have hal:(C0 t).length=(j4 t).length:=by simp[C0]
 have hKl:=c7k s.length c C;have hcs:=hc.sorted;have hfind:∀j x,j≤s.length→F0 77 [0] [.fptr [.slc ((c.getD j []).map IN),.slc ((C.getD j []).map I)],IN x] (I (FC c C j x)):=fun j x hj=>a9q _ _ x (hc.sorted j hj) (by have:=hc.le j hj;omega) (hc.pq.len j hj i9);have hbd:=hc.bd (p:=0) (x:=0) (C9 _);obtain⟨W,hW⟩:=p8 (wr t s (FC c C) (FC c C 0 0).toNat 0 0 (FC c C 0 0));rw[←hW];have hKg:=@c4r s.length c C;refine E7 c40 14 (by simp[X40]) fun Q hR hN=>?_;simp[X40,hKl,hKg];refine l7 (hfind 0 0 (C9 _)) ?_;simp;refine I2 (fun(y:Nat×Nat×Int×List Nat×Nat) vs h=>y.1≤s.length∧InC c y.1 y.2.1∧y.2.2.1=FC c C y.1 y.2.1∧0≤y.2.2.1∧y.2.2.1≤y.2.2.2.2∧y.2.2.2.1++wr t s (FC c C) y.2.2.2.2 y.1 y.2.1 y.2.2.1=W∧((A9 t y.2.2.2.1).length:Int)+y.2.2.1=FC c C 0 0∧y.2.2.2.1.length+y.2.2.2.2=(FC c C 0 0).toNat∧
  vs=[.fptr [IN t.modes,UN t.accept,.slc (t.rules.map RP),St s,x4,.slc ((C0 t).map SA),.slc (KF s.length c C),x7],.ptr 6 1 0,.ptr 7 1 0,IN y.1,IN y.2.1,I y.2.2.1,.uu,.uu,.uu,.uu,.uu,.uu,.uu,.uu,.uu,.uu,.uu,.uu]∧
  h=[dd,dd,dd,dd,dd,dd,(1,.var [.nils,.nils]),(1,.var [.own 8 1 (A9 t y.2.2.2.1).length 1 0 (A9 t y.2.2.2.1).length,.own 9 1 y.2.2.2.1.length 1 0 y.2.2.2.1.length]),(1,.arr 1 0 false ((A9 t y.2.2.2.1).map UN)),(1,.arr 1 0 false (y.2.2.2.1.map IN)),dd,dd,dd,dd])
  (fun y=>y.2.2.1.toNat) (0,0,FC c C 0 0,[],(FC c C 0 0).toNat) ?_ ?_
 . simp[A9,hW];exact⟨hc.root,h0,i9⟩
 . rintro⟨p,x,m,pre,fu⟩ vs h ⟨y1,y2,y3,y4,y5,y6,y7,y8,rfl,rfl⟩ Q2 hK2 hX2 hR2;dsimp only at y1 y2 y3 y4 y5 y6 y7 y8;have hx:=hc.lt p x y2;have hAok:∀a∈(C0 t).getD x [],a.1<t.rules.length∧a.2<(j4 t).length:=fun a ha=>by
    obtain⟨s',e1,e2⟩:=a8m hx ha;exact⟨a2o e1,by rw[e2];exact a3l (W7 ht (a1A hx) e1)⟩
   obtain⟨A,hA⟩:=p8 ((C0 t).getD x []);have hxA:(C0 t)[x]'i9=A:=(by grind);have hAl:A.length≤64:=by have h1:A=a0p t (j4 t)[x] t.rules.length:=(by rw[←hxA];simp[C0]);have:=b0Z t (j4 t)[x] t.rules.length;have:=ht.l64;rw[h1];omega
   by_cases hm:0<m
   . obtain⟨a,ha⟩:=hc.b9M ht y1 y2 i9;obtain⟨z1,z2,z3,z4,z5,z6,z7,z8⟩:=hc.b6M ht y1 y2 ha;rw[←y3]at ha;have hfa:=ha;unfold wrS at ha;rw[←hA]at ha hAok;obtain⟨C1,hC1⟩:=p8 (A9 t pre);rw[←hC1]at y7⊢;simp[hm,hal,hx,hxA];refine I2 (fun(k:Nat) vs h=>k≤A.length∧((A.drop k).find? fun a=>M6 t s p a.1&&decide (0≤FC c C (p+A7 t a.1) a.2)&&decide (FC c C (p+A7 t a.1) a.2=m-s7 t a.1))=some a∧
      vs=[.fptr [IN t.modes,UN t.accept,.slc (t.rules.map RP),St s,x4,.slc ((C0 t).map SA),.slc (KF s.length c C),x7],.ptr 6 1 0,.ptr 7 1 0,IN p,.uu,I m,.uu,.uu,.uu,.uu,.uu,.uu,.slc (A.map ARw),IN A.length,IN k,.uu,.uu,.uu]∧
      h=[dd,dd,dd,dd,dd,dd,(1,.var [.nils,.nils]),(1,.var [.own 8 1 C1.length 1 0 C1.length,.own 9 1 pre.length 1 0 pre.length]),(1,.arr 1 0 false (C1.map UN)),(1,.arr 1 0 false (pre.map IN)),dd,dd,dd,dd])
      (fun k=>A.length-k) 0 ?_ ?_
     . simp[ha]
     . rintro k vs h ⟨g1,g2,rfl,rfl⟩ Q3 hK3 hX3 hR3;by_cases hk:k<A.length
       . have hwk:=wk1 k i9;obtain⟨ha1,ha2⟩:=hAok _ (B7 hk);have hpr:=fun x5 x6=>b1x t s x4 x5 x6 x7 p A[k].1 y1 hs ht.ok ha1;have hpl:(t.rules[A[k].1]).print.length=A7 t A[k].1:=(by unfold A7;rw[u9,l9 ha1];rfl);have hgo:(t.rules[A[k].1]).print.isPrefixOf (s.drop p)=M6 t s p A[k].1:=(by unfold M6;rw[u9,l9 ha1];rfl);have hcl:(t.rules[A[k].1]).cells.length=s7 t A[k].1:=(by unfold s7;rw[u9,l9 ha1];rfl);have hrg:t.rules.getD A[k].1 default=t.rules[A[k].1]:=(by grind);have hc4:s7 t A[k].1≤4:=hcl▸(a3F (ht.sound _ (B7 ha1))).c4;rw[hgo,hpl]at hpr;rw[b4M hk,List.find?_cons]at g2;simp[hk];refine l7 (hpr _ _) ?_;cases hgg:M6 t s p A[k].1 with
         |false=>
          rw[hgg]at g2;simp[hwk];exact hK3 (k+1) _ _ i9 (by simp;exact⟨i9,g2⟩)
         |true=>
          have hle:=a4O hgg;have hf:=hfind (p+A7 t A[k].1) A[k].2 i9;rw[hgg]at g2;obtain⟨R,hRe⟩:=p8 (FC c C (p+A7 t A[k].1) A[k].2);have hRb:=hc.bd (p:=p+A7 t A[k].1) (x:=A[k].2) i9;rw[←hRe]at hf g2 hRb;obtain⟨nx,hnx⟩:=p8 (p+A7 t A[k].1);rw[←hnx]at hf⊢;have hnx1:(nx:Int)<(s.length:Int)+1:=i9;have hnx2:nx<s.length+1:=i9;have hwm:IntKind.i64.wrap (m-(s7 t A[k].1:Int))=m-(s7 t A[k].1:Int):=O5;simp[hk,ha1,hKl,hKg,hnx2];refine l7 hf ?_;by_cases hr0:R<0
          . have hr0':¬0≤R:=i9;have g3:=g2;simp[hr0']at g3;simp[hr0,hwk];exact hK3 (k+1) _ _ i9 (by simp;exact⟨i9,g3⟩)
          . by_cases hr1:R=m-(s7 t A[k].1:Int)
            . have hr0':0≤R:=i9;have hb:(true&&decide (0≤R)&&decide (R=m-(s7 t A[k].1:Int)))=true:=(by grind);rw[hb]at g2;obtain rfl:A[k]=a:=W6 g2;obtain⟨C2,hC2⟩:=p8 (A9 t (pre++[A[k].1]));have ec:C2=C1++t.rules[A[k].1].cells:=(by rw[hC2,a7a,←hC1];simp only[A9,a2C,a9A,a0E,hrg]);have e3:C1.map UN++t.rules[A[k].1].cells.map UN=C2.map UN:=(by grind);have e4:C1.length+(t.rules[A[k].1]).cells.length=C2.length:=(by grind);have e4':C2.length=C1.length+s7 t A[k].1:=(by rw[←e4,hcl]);obtain⟨P2,hP2⟩:=p8 (pre++[A[k].1]);have e5:pre.map IN++[IN A[k].1]=P2.map IN:=(by grind);have e6:pre.length+1=P2.length:=(by rw[hP2];simp);have b1:C2.length≤140737488355328:=i9;have b2:P2.length*8≤140737488355328:=i9;have b3:P2.length≤140737488355328:=i9;have hwR:IntKind.i64.wrap (m-(s7 t A[k].1:Int))=R:=(by rw[hwm,hr1]);have e4s:C1.length+s7 t A[k].1=C2.length:=e4'.symm;simp[hr0,hcl,hwR,hk,ha1,e3,e4s,e5,e6,b1,b2,b3];refine hX3 _ _ _ ?_;simp;cases fu with
              |zero=>omega
              |succ fu=>
               refine hK2 (nx,A[k].2,R,P2,fu) _ _ (by grind) ?_;rw[←hP2]at hC2;have hw:wr t s (FC c C) (fu+1) p x m=A[k].1::wr t s (FC c C) fu nx A[k].2 R:=by
                rw[hr1,hnx]
                conv=>lhs;unfold wr
                rw[if_pos hm,hfa]
               simp[←hC2];refine⟨i9,by rw[hnx];exact z6,by rw[hRe,hnx],i9,i9,?_,i9,i9⟩;rw[hP2,a3u,←y6,hw];rfl
            . simp[hr0,hr1,hcl,hwm,hwk];have g3:=g2;simp[hr1]at g3;exact hK3 (k+1) _ _ i9 (by simp;exact⟨i9,g3⟩)
       . grind
   . have hm0:m=0:=i9;simp[hm];refine hX2 _ _ _ ?_;have e:wr t s (FC c C) fu p x m=[]:=by
      cases fu with
      |zero=>rfl
      |succ n=>unfold wr;rw[if_neg hm]
     rw[e,a0E]at y6;subst y6;simp;refine hR _ _ ?_;simp[X40]
def gTo(g:State→Nat→Option (Nat×Nat))(s:State)(n:Nat):List (Nat×Nat):=(List.range n).filterMap (g s)
def gL(g:State→Nat→Option (Nat×Nat))(t:j9):List (List (Nat×Nat)):=(j4 t).map fun s=>gTo g s t.rules.length
def gU(g:State→Nat→Option (Nat×Nat))(t:j9)(k j:Nat):List (List (Nat×Nat)):=(List.range (j4 t).length).map fun i=>if i<k then gTo g ((j4 t).getD i B9) t.rules.length else if i=k then gTo g ((j4 t).getD i B9) j else []
section
variable{g:State→Nat→Option (Nat×Nat)}{t:j9}
theorem b8p(s:State):gTo g s 0=[]:=rfl
theorem b2n(s:State)(n:Nat):gTo g s (n+1)=gTo g s n++(g s n).toList:=by unfold gTo;rw[a2F,b4J];cases h:g s n<;>simp[h]
theorem b2h(s:State)(n:Nat):(gTo g s n).length≤n:=by have:=List.length_filterMap_le (g s) (List.range n);simpa[gTo]using this
theorem b0g(k j:Nat):(gU g t k j).length=(j4 t).length:=by simp[gU]
theorem b9j:gU g t 0 0=List.replicate (j4 t).length []:=by refine a7M.2 ⟨b0g 0 0,fun b hb=>?_⟩;obtain⟨i,_,rfl⟩:=E9.1 hb;simp[b8p]
theorem c0s(k:Nat):gU g t k t.rules.length=gU g t (k+1) 0:=by
 unfold gU;refine L9 fun i _=>?_;by_cases h1:i<k
 . simp[h1,show i<k+1 by omega]
 . by_cases h2:i=k
   . subst h2;simp
   . have h3:¬i<k+1:=i9;simp[h1,h2,h3,b8p]
theorem a9Q:gU g t (j4 t).length 0=gL g t:=by
 apply a0t (by simp[gU,gL]);intro i h1 h2;have hi:i<(j4 t).length:=by simpa[gL]using h2
 simp[gU,gL,hi]
theorem b3r{k:Nat}(hk:k<(j4 t).length)(j:Nat):(gU g t k j)[k]'(by rw[b0g];exact hk)=gTo g (j4 t)[k] j:=by simp[gU,hk]
theorem b4B{k:Nat}(hk:k<(j4 t).length)(j:Nat):gU g t k (j+1)=(gU g t k j).set k (gTo g (j4 t)[k] (j+1)):=by
 apply a0t (by simp[gU]);intro i h1 h2;have hi:i<(j4 t).length:=by simpa[gU]using h1
 rw[a4a];simp only[gU,a1e,a4G];by_cases h:k=i
 . subst h;simp[hk]
 . grind
theorem b0I{k:Nat}(hk:k<(j4 t).length){j:Nat}(h:g (j4 t)[k] j=none):gU g t k (j+1)=gU g t k j:=by
 rw[b4B hk,b2n,h];apply a0t k7;intro i h1 h2;rw[a4a];split
 . rename_i e;subst e;rw[b3r hk];simp
 . rfl
end
open Classical in
noncomputable def E0(t:j9)(s:State)(k:Nat):Option (Nat×Nat):=(step t s k).bind fun s'=>if Live t s' then some (k,P7 t s')else none
theorem a9S(t:j9):(L4 t).length=(j4 t).length:=by simp[L4]
open Classical in
theorem c0l{t:j9}{s:State}(h:s∈j4 t):(L4 t)[P7 t s]'(by rw[a9S];exact a3l h)=decide (Live t s):=by have h1:=b9U h;rw[l9 (a3l h)]at h1;simp only[L4,a1e,W6 h1]
def a0T(t:j9)(k:Nat):List Bool:=(List.range (j4 t).length).map fun i=>decide (i<k)&&B6 t ((j4 t).getD i B9)
def O4(t:j9):List Bool:=(j4 t).map (B6 t)
theorem b2s(t:j9)(k:Nat):(a0T t k).length=(j4 t).length:=by simp[a0T]
theorem b7Y(t:j9):a0T t 0=List.replicate (j4 t).length false:=by refine a7M.2 ⟨b2s t 0,fun b hb=>?_⟩;obtain⟨i,_,rfl⟩:=E9.1 hb;simp
theorem a9V(t:j9):a0T t (j4 t).length=O4 t:=by
 apply a0t (by simp[a0T,O4]);intro i h1 h2;have hi:i<(j4 t).length:=by simpa[O4]using h2
 simp[a0T,O4,hi]
theorem b9R{t:j9}{k:Nat}(hk:k<(j4 t).length):(a0T t k).set k (B6 t (j4 t)[k])=a0T t (k+1):=by
 apply a0t (by simp[a0T]);intro i h1 h2;have hi:i<(j4 t).length:=by simpa[a0T]using h2
 rw[a4a];simp only[a0T,a1e,a4G];by_cases h:k=i
 . subst h;simp[hk]
 . grind
def prt(t:j9)(k:Nat):By:=(t.rules.getD k default).print
def cls(t:j9)(k:Nat):List Nat:=(t.rules.getD k default).cells
def X78:A0:=
 ⟨109,[0,1,2,3,4,5,6,7,8,9,10,11,12,13,19,20,21,22,40,41,42,43,57,58,59,60,82],13,[(2,none)],sq [.reg [I0 1 0 0,odn 2],.reg [ok 3 1,W4 71 0 1 3,oc 3 1],.reg [oa 3,ox 0,oq (.makeMap 2 (some (.l 1))),oc 4 2],sq [kah 14 3 15 0 16 0,.block 0 (.loop (sq [kh 17 16 15,C4 17 0,.block 1 (sq [.reg [oa 16,N4 3 14 16,J0 3 1,oak 6 3 0 0 0,oc 5 0,ol 3 3 2],.reg [oa 4,ok 3 6,oa 5,odt 46 0 1 2]]),kc 16 1 16 0]))],.reg [obs 3 5 6,⟨.len false (.l 0),none,none,[5,6]⟩,⟨.makeSlice 4 1 24 .nils (.l 1) (.l 1),none,none,[5,6]⟩,obs 3 4 6,⟨.len false (.l 3),none,none,[4,6]⟩,⟨.makeSlice 5 1 1 (.bool false) (.l 4) (.l 4),none,none,[4,6]⟩,⟨.load true 3 (.v 1),none,none,[4,5]⟩,⟨.call 87 [.l 6] [(6,1)] false,none,none,[4,5]⟩,oq (.build [.nils,.nils,.nils] [(0,1,.l 2),(1,1,.l 5),(2,1,.l 7)]),oq (.box 7 (.l 8)),oc 7 9],sq [kah 18 3 19 0 20 0,.block 2 (.loop (sq [kh 21 20 19,C4 21 2,.block 3 (sq [.reg [oa 20,N4 3 18 20,J0 3 1,oak 9 8 0 0 0,oc 8 0,ol 3 3 2],.reg [oa 7,D5 0,ou 1 1,ob 1 2,oa 8,ok 3 1,ok 3 9,Y6 30 5 6 0 0,ot 1 3 4,ol 1 8 7],.reg [oe 2 1,Z2 22 1 0,N0 23 1,oy 24 0],.block 4 (.loop (sq [kh 25 24 23,C4 25 4,.block 5 (sq [.reg [oa 24,N4 6 22 24,J0 6 1,oav 11 9 0 0 0 0,oc 10 0,ol 6 3 2],.reg [ok 3 1,ok 3 9,oa 10,odl 50 0 1 2 0 0 0 0 0 0 0 0,oo 3,oz 4 0,oz 4 1,oak 12 10 0 0 0,ol 3 7 5,oc 13 6],.reg [oa 13,oo 0,og 7 1,obd 2 1,oaz 2 3 1,od 1 4 1,og 4 1,obj 3 12 1,⟨.lookup 46 false (.int .i64 0) (.l 6) (.l 7),none,some (.l 1,true),[]⟩,oas 1 5 8 1,od 1 9 1,U9 26 1 10],.cond (.v 26) (.G4 8 none 26010 0 (.reg [obs 7 11 12,odu 0 11 12,ocj 0 1 11 12,oey 1 2 11 12,obs 8 11 12,N1 7 11,odo 5 11,ocr 0 6 11,T5 1 7 11,N1 8 11,obo 1 8 9 11,T5 1 10 11,oe 0 11,ob 1 12,oe 1 11,ob 1 14,oa 4,ok 3 12,oq (.lookup 46 false (.int .i64 0) (.l 16) (.l 17)),oq (.build [.str ⟨#[]⟩,.nils,.int .i64 0] [(0,1,.l 13),(1,1,.l 15),(2,1,.l 18)]),oq (.mkarr 11 3 [.agg [.str ⟨#[]⟩,.nils,.int .i64 0]] [(0,.l 19)]),I7 12 3 48 1 11 20,ot 1 3 4,ol 1 22 21])) kd]),kc 24 1 24 0]))]),kc 20 1 20 0]))],kf 7 2 0,.G6 [(4,true),(5,true),(6,true)] (.G4 2 none 1 0 ko)]⟩
def X51:A0:=
 ⟨110,[0,1,2,3,4,5,6,7,8,9,10,11,12,13,14,22,23,24,25,44,45,46,47,61,62,63,64,83],13,[(2,none)],sq [.reg [I0 1 0 0,odn 2],.reg [ok 3 1,W4 71 0 1 3,obx 3 1 1,W4 87 2 2 1,oc 3 1,oc 4 3],.reg [oa 3,ox 0,oq (.makeMap 3 (some (.l 1))),oc 5 2],sq [kah 15 3 16 0 17 0,.block 0 (.loop (sq [kh 18 17 16,C4 18 0,.block 1 (sq [.reg [oa 17,N4 3 15 17,J0 3 1,oak 7 4 0 0 0,oc 6 0,ol 3 3 2],.reg [oa 5,ok 3 7,oa 6,odt 46 0 1 2]]),kc 17 1 17 0]))],.reg [N1 3 6,⟨.len false (.l 0),none,none,[6]⟩,⟨.makeSlice 5 1 24 .nils (.l 1) (.l 1),none,none,[6]⟩,N1 3 5,⟨.len false (.l 3),none,none,[5]⟩,⟨.makeSlice 6 1 1 (.bool false) (.l 4) (.l 4),none,none,[5]⟩,obs 4 5 6,⟨.indexAddr 1 (.l 6) (oi 0),none,none,[5,6]⟩,ocq 1 7 5 6,oq (.build [.nils,.nils,.bool false] [(0,1,.l 2),(1,1,.l 5),(2,1,.l 8)]),oq (.box 7 (.l 9)),oc 8 10],sq [kah 19 3 20 0 21 0,.block 2 (.loop (sq [kh 22 21 20,C4 22 2,.block 3 (sq [.reg [oa 21,N4 3 19 21,J0 3 1,oak 10 8 0 0 0,oc 9 0,ol 3 3 2],.reg [oa 8,D5 0,ou 1 1,ob 1 2,oa 9,ok 3 1,ok 3 10,Y6 30 5 6 0 0,ot 1 3 4,ol 1 8 7],.reg [oe 2 1,Z2 23 1 0,N0 24 1,oy 25 0],.block 4 (.loop (sq [kh 26 25 24,C4 26 4,.block 5 (sq [.reg [oa 25,N4 6 23 25,J0 6 1,oav 12 9 0 0 0 0,oc 11 0,ol 6 3 2],.reg [ok 3 1,ok 3 10,oa 11,odl 50 0 1 2 0 0 0 0 0 0 0 0,oo 3,oz 4 0,oz 4 1,oak 13 10 0 0 0,ol 3 7 5,oc 14 6],.reg [oa 14,oo 0,og 4 1,og 5 1,obj 3 13 1,⟨.lookup 46 false (.int .i64 0) (.l 3) (.l 4),none,some (.l 1,true),[]⟩,oas 1 2 5 1,od 1 6 1,U9 27 1 7],.cond (.v 27) (.G4 9 none 26012 0 (.reg [obs 8 11 12,odu 0 11 12,ocj 0 1 11 12,oey 1 2 11 12,obs 9 11 12,N1 8 11,odo 5 11,ocr 0 6 11,T5 1 7 11,N1 9 11,obo 1 8 9 11,T5 1 10 11,oe 0 12,ob 1 12,oe 1 12,ob 1 14,oa 5,ok 3 13,oq (.lookup 46 false (.int .i64 0) (.l 16) (.l 17)),oq (.build [.str ⟨#[]⟩,.nils,.int .i64 0] [(0,1,.l 13),(1,1,.l 15),(2,1,.l 18)]),oq (.mkarr 11 3 [.agg [.str ⟨#[]⟩,.nils,.int .i64 0]] [(0,.l 19)]),I7 12 3 48 1 11 20,ot 1 3 4,ol 1 22 21])) kd]),kc 25 1 25 0]))]),kc 21 1 21 0]))],kf 8 2 0,.G6 [(5,true),(6,true)] (.G4 2 none 1 0 ko)]⟩
theorem c78:D0 78 X78:=D3
theorem c51:D0 51 X51:=D3
abbrev AG(t:j9)(a:Nat×Nat):PV:=.agg [St (prt t a.1),CL (cls t a.1),IN a.2]
abbrev FG(t:j9)(l:List (Nat×Nat)):PV:=if l=[]then .nils else .uslc (l.map (AG t))
abbrev SG(t:j9)(l:List (Nat×Nat)):PV:=.slc (l.map (AG t))
abbrev AV(t:j9)(a:Nat×Nat):PV:=.agg [St (prt t a.1),IN (cls t a.1).length,IN a.2]
abbrev FV(t:j9)(l:List (Nat×Nat)):PV:=if l=[]then .nils else .uslc (l.map (AV t))
@[simp] theorem d0G(t:j9):FG t []=.nils:=rfl
@[simp] theorem d0u(t:j9)(a:Nat×Nat)(l:List (Nat×Nat)):FG t (a::l)=.uslc (AG t a::l.map (AG t)):=rfl
@[simp] theorem d1r(t:j9):FV t []=.nils:=rfl
@[simp] theorem d1i(t:j9)(a:Nat×Nat)(l:List (Nat×Nat)):FV t (a::l)=.uslc (AV t a::l.map (AV t)):=rfl
@[simp] theorem d0f(t:j9)(l:List (Nat×Nat)):List.map (B3∘AG t) l=l.map (AG t):=L9 fun _ _=>rfl
theorem b4O(t:j9)(l:List (Nat×Nat)):B3 (FG t l)=SG t l:=by
 cases l with
 |nil=>rfl
 |cons a l=>simp[B3,M1]<;>rfl
theorem b8h(t:j9)(l:List (Nat×Nat)):D4 (FG t l)=true:=by unfold FG;split<;>rfl
structure GV where
 (w0 w1 w2 w3 w4 w5 w6 w7 w8 w9 w10 w11:PV)
theorem c1D(t:j9)(ht:s5 t):F0 78 [0] [TP t] (.fptr [.slc ((gL (E0 t) t).map (SG t)),.slc ((O4 t).map B),.slc ((L4 t).map B)]):=by
 have hNN:=a1g ht;have hpos:=a1X ht;have b1:(j4 t).length≤140737488355328:=i9;have b2:(j4 t).length≤9223372036854775807:=i9;have b3:((j4 t).length:Int)*24≤140737488355328:=i9;have haL:=a9S t;refine E7 c78 14 (by simp[X78]) fun Q hR hN=>?_;simp[X78];refine l7 (b3y t ht) ?_;simp[b1,b2];refine E3 (fun(x:Nat×PV×PV×PV×Row) vs h=>x.1≤(j4 t).length∧vs=[TP t,.ptr 0 1 0,.lit (.pointer none),.own 1 1 (j4 t).length 3 0 (j4 t).length,.mapv 2 1,x.2.1,x.2.2.1,.uu,.uu,.uu,.uu,.uu,.uu,.uu,.own 1 1 (j4 t).length 3 0 (j4 t).length,IN (j4 t).length,IN x.1,x.2.2.2.1,.uu,.uu,.uu,.uu,.uu,.uu,.uu,.uu,.uu]∧h=[(1,.var (TC t)),(1,.arr 3 0 false (F4 (j4 t))),(1,.mp false (F4 (V8 t x.1)) ((List.range x.1).map IN)),x.2.2.2.2,dd,dd,dd,dd,dd,dd,dd,dd,dd,dd]) (fun x=>(j4 t).length-x.1) (0,.uu,.uu,.uu,dd) ?_ ?_
 . simp[V8]
 . rintro⟨i,v5,v6,v17,R3⟩ vs h ⟨g1,rfl,rfl⟩ Q' hK hX hR';dsimp only at g1;by_cases hi:i<(j4 t).length
   . have hw:=wk1 i i9;have hf:(V8 t i).idxOf? (j4 t)[i]=none:=b2o (b0Q ht) hi;have e1:F4 (V8 t i)++[.agg [IN (j4 t)[i].mode,IN (j4 t)[i].last,UN (j4 t)[i].need]]=F4 (V8 t (i+1)):=(by rw[show V8 t (i+1)=V8 t i++[(j4 t)[i]]by unfold V8;rw[List.take_append_getElem]];simp);have e3:List.map IN (List.range i)++[IN i]=List.map IN (List.range (i+1)):=(by rw[a2F];simp);simp[hi,hw,hf,e1,e3];exact hK (i+1,_,_,_,_) _ _ i9 ⟨m7,rfl,rfl⟩
   . obtain rfl:i=(j4 t).length:=i9;have hall:V8 t (j4 t).length=j4 t:=J7;simp;refine hX _ _ _ ?_;simp[b2,b3,b1,hall];refine l7 (b9t t ht) ?_;simp[haL];refine E3 (fun(x:Nat×Nat×Nat×GV×Row×Row×Row×Nat×Nat×Nat) vs h=>x.1≤(j4 t).length∧vs=[TP t,.ptr 0 1 0,.lit (.pointer none),.own 1 1 (j4 t).length 3 0 (j4 t).length,.mapv 2 1,v5,v6,.ptr 7 1 0,x.2.2.2.1.w0,x.2.2.2.1.w1,x.2.2.2.1.w2,x.2.2.2.1.w3,x.2.2.2.1.w4,x.2.2.2.1.w5,.own 1 1 (j4 t).length 3 0 (j4 t).length,IN (j4 t).length,IN (j4 t).length,.bool false,.own 1 1 (j4 t).length 3 0 (j4 t).length,IN (j4 t).length,IN x.1,x.2.2.2.1.w6,x.2.2.2.1.w7,x.2.2.2.1.w8,x.2.2.2.1.w9,x.2.2.2.1.w10,x.2.2.2.1.w11]∧h=[(1,.var (TC t)),(1,.arr 3 0 false (F4 (j4 t))),(1,.mp false (F4 (j4 t)) ((List.range (j4 t).length).map IN)),R3,(1,.arr 1 x.2.1 false ((gU (E0 t) t x.1 0).map (FG t))),(1,.arr 1 x.2.2.1 false ((a0T t x.1).map B)),(1,.arr 1 0 false ((L4 t).map B)),(1,.var [.own 4 1 (j4 t).length 1 0 (j4 t).length,.own 5 1 (j4 t).length 1 0 (j4 t).length,.own 6 1 (j4 t).length 1 0 (j4 t).length]),x.2.2.2.2.1,x.2.2.2.2.2.1,x.2.2.2.2.2.2.1,(x.2.2.2.2.2.2.2.1,.dead),(x.2.2.2.2.2.2.2.2.1,.dead),(x.2.2.2.2.2.2.2.2.2,.dead)]) (fun x=>(j4 t).length-x.1) (0,0,0,⟨.uu,.uu,.uu,.uu,.uu,.uu,.uu,.uu,.uu,.uu,.uu,.uu⟩,dd,dd,dd,0,0,0) ?_ ?_
     . simp[b9j,b7Y]
     . rintro⟨k,ver,ver5,⟨v8,v9,v10,v11,v12,v13,v21,v22,v23,v24,v25,v26⟩,R8,R9,R10,g11,g12,g13⟩ vs h ⟨g2,rfl,rfl⟩ Q2 hK2 hX2 hR2;dsimp only at g2;by_cases hk:k<(j4 t).length
       . have hwk:=wk1 k i9;have hsv:=a3o ht (B7 hk);have hac:=a6k t (j4 t)[k] ht.ok hsv.ok;have haK:=b2s t k;have e5:((a0T t k).map B).set k (B (B6 t (j4 t)[k]))=(a0T t (k+1)).map B:=(by rw[←b9R hk,J8]);simp[hk];refine l7 hac ?_;simp[hk,haK,e5];refine E3 (fun(x:Nat×Nat×Nat×GV×Row×Row×Row×Nat×Nat×Nat) vs h=>x.1≤t.rules.length∧vs=[TP t,.ptr 0 1 0,.lit (.pointer none),.own 1 1 (j4 t).length 3 0 (j4 t).length,.mapv 2 1,v5,v6,.ptr 7 1 0,IN k,.ptr 8 (R8.1+1) 0,x.2.2.2.1.w2,x.2.2.2.1.w3,x.2.2.2.1.w4,x.2.2.2.1.w5,.own 1 1 (j4 t).length 3 0 (j4 t).length,IN (j4 t).length,IN (j4 t).length,.bool false,.own 1 1 (j4 t).length 3 0 (j4 t).length,IN (j4 t).length,IN k,.bool true,.slc (t.rules.map RP),IN t.rules.length,IN x.1,x.2.2.2.1.w10,x.2.2.2.1.w11]∧h=[(1,.var (TC t)),(1,.arr 3 0 false (F4 (j4 t))),(1,.mp false (F4 (j4 t)) ((List.range (j4 t).length).map IN)),R3,(1,.arr 1 x.2.1 false ((gU (E0 t) t k x.1).map (FG t))),(1,.arr 1 x.2.2.1 false ((a0T t (k+1)).map B)),(1,.arr 1 0 false ((L4 t).map B)),(1,.var [.own 4 1 (j4 t).length 1 0 (j4 t).length,.own 5 1 (j4 t).length 1 0 (j4 t).length,.own 6 1 (j4 t).length 1 0 (j4 t).length]),(R8.1+1,.var [IN (j4 t)[k].mode,IN (j4 t)[k].last,UN (j4 t)[k].need]),x.2.2.2.2.2.1,x.2.2.2.2.2.2.1,(x.2.2.2.2.2.2.2.1,.dead),(x.2.2.2.2.2.2.2.2.1,.dead),(x.2.2.2.2.2.2.2.2.2,.dead)]) (fun x=>t.rules.length-x.1) (0,ver,_,⟨v8,v9,v10,v11,v12,v13,v21,v22,v23,v24,v25,v26⟩,R8,R9,R10,g11,g12,g13) ⟨C9 _,rfl,rfl⟩ ?_
         . rintro⟨j,ver,ver0,⟨v8,v9,v10,v11,v12,v13,v21,v22,v23,v24,v25,v26⟩,R80,R9,R10,g11,g12,g13⟩ vs h ⟨g3,rfl,rfl⟩ Q3 hK3 hX3 hR3;dsimp only at g3;by_cases hj:j<t.rules.length
           . have h64:=ht.l64;have hwj:=wk1 j i9;have hst:=a8J t (j4 t)[k] j ht.ok hsv.ok i9;have hUl:=b0g (g:=E0 t) (t:=t) k j;have hpr:(t.rules[j]).print=prt t j:=(by unfold prt;rw[u9,l9 hj];rfl);have hcs:(t.rules[j]).cells=cls t j:=(by unfold cls;rw[u9,l9 hj];rfl);simp[hj];refine l7 hst ?_;cases hs:step t (j4 t)[k] j with
             |none=>
              have hU:gU (E0 t) t k (j+1)=gU (E0 t) t k j:=b0I hk (by unfold E0;rw[hs];rfl);simp[hwj];exact hK3 (j+1,_,_,⟨v8,v9,_,_,_,_,v21,v22,v23,v24,_,_⟩,R8,_,_,_,_,_) _ _ i9 ⟨m7,rfl,by rw[hU]<;>rfl⟩
             |some nx=>
              have hnx:=W7 ht (B7 hk) hs;have hn:=a8N hnx;have hm:=a3l hnx;have hav:=c0l hnx;by_cases hl:Live t nx
              case neg=>
               have hU:gU (E0 t) t k (j+1)=gU (E0 t) t k j:=b0I hk (by unfold E0;rw[hs];exact if_neg hl);simp[hk,hwj,hn,hm,haL,hav,hl];exact hK3 (j+1,_,_,⟨v8,v9,_,_,_,_,v21,v22,v23,v24,_,_⟩,R8,_,_,_,_,_) _ _ i9 ⟨m7,rfl,by rw[hU]<;>rfl⟩
              case pos=>
               have hgs:E0 t (j4 t)[k] j=some (j,P7 t nx):=(by unfold E0;rw[hs];exact if_pos hl);have hU:=b4B (g:=E0 t) hk j;rw[b2n,hgs]at hU;have hg:=b3r (g:=E0 t) hk j;have hkU:k<(gU (E0 t) t k j).length:=i9;by_cases hf:gTo (E0 t) (j4 t)[k] j=[]
               . rw[hf]at hU hg;have hE:FG t (gU (E0 t) t k j)[k]=.nils:=(by rw[hg];rfl);have e6:(List.map (FG t) (gU (E0 t) t k j)).set k (.uslc [.agg [St (prt t j),CL (cls t j),IN (P7 t nx)]])=List.map (FG t) (gU (E0 t) t k (j+1)):=(by rw[hU,J8];rfl);simp[hk,hUl,hwj,hn,hm,hkU,hE,e6,hg,haL,hav,hl,hpr,hcs];exact hK3 (j+1,_,_,⟨v8,v9,_,_,_,_,v21,v22,v23,v24,_,_⟩,R8,_,_,_,_,_) _ _ i9 ⟨m7,rfl,rfl⟩
               . obtain⟨a,l,hal⟩:=a9D hf;rw[hal]at hU hg;have hE:FG t (gU (E0 t) t k j)[k]=.uslc (AG t a::l.map (AG t)):=(by rw[hg];rfl);have e6:(List.map (FG t) (gU (E0 t) t k j)).set k (.uslc (AG t a::(l.map (AG t)++[.agg [St (prt t j),CL (cls t j),IN (P7 t nx)]])))=List.map (FG t) (gU (E0 t) t k (j+1)):=(by rw[hU,J8];simp);have hle:=b2h (g:=E0 t) (j4 t)[k] j;rw[hal]at hle;have b4:(l.length+1+1)*48≤140737488355328:=(by grind);simp[hk,hUl,hwj,hn,hm,hkU,hE,e6,hg,b4,haL,hav,hl,hpr,hcs];exact hK3 (j+1,_,_,⟨v8,v9,_,_,_,_,v21,v22,v23,v24,_,_⟩,R8,_,_,_,_,_) _ _ i9 ⟨m7,rfl,rfl⟩
           . obtain rfl:j=t.rules.length:=i9;simp;refine hX3 _ _ _ ?_;simp[hwk];exact hK2 (k+1,_,_,⟨_,_,_,_,_,_,_,_,_,_,_,_⟩,_,_,_,_,_,_) _ _ i9 ⟨m7,rfl,by rw[←c0s]<;>rfl⟩
       . obtain rfl:k=(j4 t).length:=i9;have hnr:(∀(x:List (Nat×Nat)),x∈gL (E0 t) t→D4 (FG t x)=true)=True:=eq_true fun x _=>b8h t x;have hfz:List.map (B3∘FG t) (gL (E0 t) t)=(gL (E0 t) t).map (SG t):=L9 fun l _=>b4O t l;have hlg:(gL (E0 t) t).length=(j4 t).length:=(by simp[gL]);have hla:(O4 t).length=(j4 t).length:=(by simp[O4]);simp[a9Q,a9V];refine hX2 _ _ _ ?_;simp[a9Q,a9V,hnr,hfz,hlg,hla,haL];refine hR _ _ ?_;simp[X78]
open Classical in
theorem c0z(t:j9)(ht:s5 t):F0 51 [0] [TP t] (.fptr [.slc ((gL (E0 t) t).map (SG t)),.slc ((O4 t).map B),B (decide (Live t start))]):=by
 have hNN:=a1g ht;have hpos:=a1X ht;have b1:(j4 t).length≤140737488355328:=i9;have b2:(j4 t).length≤9223372036854775807:=i9;have b3:((j4 t).length:Int)*24≤140737488355328:=i9;have haL:=a9S t;have hAL0:(L4 t)[0]'(by rw[haL];omega)=decide (Live t start):=by have h1:=a1T ht;rw[l9 i9]at h1;simp only[L4,a1e,W6 h1]
 have hp0:0<(j4 t).length:=hpos;refine E7 c51 14 (by simp[X51]) fun Q hR hN=>?_;simp[X51];refine l7 (b3y t ht) ?_;simp[b1,b2];refine l7 (b9t t ht) ?_;simp[b1,b2,haL];refine E3 (fun(x:Nat×PV×PV×PV×Row) vs h=>x.1≤(j4 t).length∧vs=[TP t,.ptr 0 1 0,.lit (.pointer none),.own 1 1 (j4 t).length 3 0 (j4 t).length,.own 2 1 (j4 t).length 1 0 (j4 t).length,.mapv 3 1,x.2.1,x.2.2.1,.uu,.uu,.uu,.uu,.uu,.uu,.uu,.own 1 1 (j4 t).length 3 0 (j4 t).length,IN (j4 t).length,IN x.1,x.2.2.2.1,.uu,.uu,.uu,.uu,.uu,.uu,.uu,.uu,.uu]∧h=[(1,.var (TC t)),(1,.arr 3 0 false (F4 (j4 t))),(1,.arr 1 0 false ((L4 t).map B)),(1,.mp false (F4 (V8 t x.1)) ((List.range x.1).map IN)),x.2.2.2.2,dd,dd,dd,dd,dd,dd,dd,dd,dd]) (fun x=>(j4 t).length-x.1) (0,.uu,.uu,.uu,dd) ?_ ?_
 . simp[V8]
 . rintro⟨i,v5,v6,v17,R3⟩ vs h ⟨g1,rfl,rfl⟩ Q' hK hX hR';dsimp only at g1;by_cases hi:i<(j4 t).length
   . have hw:=wk1 i i9;have hf:(V8 t i).idxOf? (j4 t)[i]=none:=b2o (b0Q ht) hi;have e1:F4 (V8 t i)++[.agg [IN (j4 t)[i].mode,IN (j4 t)[i].last,UN (j4 t)[i].need]]=F4 (V8 t (i+1)):=(by rw[show V8 t (i+1)=V8 t i++[(j4 t)[i]]by unfold V8;rw[List.take_append_getElem]];simp);have e3:List.map IN (List.range i)++[IN i]=List.map IN (List.range (i+1)):=(by rw[a2F];simp);simp[hi,hw,hf,e1,e3];exact hK (i+1,_,_,_,_) _ _ i9 ⟨m7,rfl,rfl⟩
   . obtain rfl:i=(j4 t).length:=i9;have hall:V8 t (j4 t).length=j4 t:=J7;simp;refine hX _ _ _ ?_;simp[b2,b3,b1,hall,haL,hp0,hAL0];refine E3 (fun(x:Nat×Nat×Nat×GV×Row×Row×Row×Nat×Nat×Nat) vs h=>x.1≤(j4 t).length∧vs=[TP t,.ptr 0 1 0,.lit (.pointer none),.own 1 1 (j4 t).length 3 0 (j4 t).length,.own 2 1 (j4 t).length 1 0 (j4 t).length,.mapv 3 1,v5,v6,.ptr 7 1 0,x.2.2.2.1.w0,x.2.2.2.1.w1,x.2.2.2.1.w2,x.2.2.2.1.w3,x.2.2.2.1.w4,x.2.2.2.1.w5,.own 1 1 (j4 t).length 3 0 (j4 t).length,IN (j4 t).length,IN (j4 t).length,.bool false,.own 1 1 (j4 t).length 3 0 (j4 t).length,IN (j4 t).length,IN x.1,x.2.2.2.1.w6,x.2.2.2.1.w7,x.2.2.2.1.w8,x.2.2.2.1.w9,x.2.2.2.1.w10,x.2.2.2.1.w11]∧h=[(1,.var (TC t)),(1,.arr 3 0 false (F4 (j4 t))),(1,.arr 1 0 false ((L4 t).map B)),(1,.mp false (F4 (j4 t)) ((List.range (j4 t).length).map IN)),R3,(1,.arr 1 x.2.1 false ((gU (E0 t) t x.1 0).map (FG t))),(1,.arr 1 x.2.2.1 false ((a0T t x.1).map B)),(1,.var [.own 5 1 (j4 t).length 1 0 (j4 t).length,.own 6 1 (j4 t).length 1 0 (j4 t).length,B (decide (Live t start))]),x.2.2.2.2.1,x.2.2.2.2.2.1,x.2.2.2.2.2.2.1,(x.2.2.2.2.2.2.2.1,.dead),(x.2.2.2.2.2.2.2.2.1,.dead),(x.2.2.2.2.2.2.2.2.2,.dead)]) (fun x=>(j4 t).length-x.1) (0,0,0,⟨.uu,.uu,.uu,.uu,.uu,.uu,.uu,.uu,.uu,.uu,.uu,.uu⟩,dd,dd,dd,0,0,0) ?_ ?_
     . simp[b9j,b7Y]
     . rintro⟨k,ver,ver5,⟨v8,v9,v10,v11,v12,v13,v21,v22,v23,v24,v25,v26⟩,R8,R9,R10,g11,g12,g13⟩ vs h ⟨g2,rfl,rfl⟩ Q2 hK2 hX2 hR2;dsimp only at g2;by_cases hk:k<(j4 t).length
       . have hwk:=wk1 k i9;have hsv:=a3o ht (B7 hk);have hac:=a6k t (j4 t)[k] ht.ok hsv.ok;have haK:=b2s t k;have e5:((a0T t k).map B).set k (B (B6 t (j4 t)[k]))=(a0T t (k+1)).map B:=(by rw[←b9R hk,J8]);simp[hk];refine l7 hac ?_;simp[hk,haK,e5];refine E3 (fun(x:Nat×Nat×Nat×GV×Row×Row×Row×Nat×Nat×Nat) vs h=>x.1≤t.rules.length∧vs=[TP t,.ptr 0 1 0,.lit (.pointer none),.own 1 1 (j4 t).length 3 0 (j4 t).length,.own 2 1 (j4 t).length 1 0 (j4 t).length,.mapv 3 1,v5,v6,.ptr 7 1 0,IN k,.ptr 8 (R8.1+1) 0,x.2.2.2.1.w2,x.2.2.2.1.w3,x.2.2.2.1.w4,x.2.2.2.1.w5,.own 1 1 (j4 t).length 3 0 (j4 t).length,IN (j4 t).length,IN (j4 t).length,.bool false,.own 1 1 (j4 t).length 3 0 (j4 t).length,IN (j4 t).length,IN k,.bool true,.slc (t.rules.map RP),IN t.rules.length,IN x.1,x.2.2.2.1.w10,x.2.2.2.1.w11]∧h=[(1,.var (TC t)),(1,.arr 3 0 false (F4 (j4 t))),(1,.arr 1 0 false ((L4 t).map B)),(1,.mp false (F4 (j4 t)) ((List.range (j4 t).length).map IN)),R3,(1,.arr 1 x.2.1 false ((gU (E0 t) t k x.1).map (FG t))),(1,.arr 1 x.2.2.1 false ((a0T t (k+1)).map B)),(1,.var [.own 5 1 (j4 t).length 1 0 (j4 t).length,.own 6 1 (j4 t).length 1 0 (j4 t).length,B (decide (Live t start))]),(R8.1+1,.var [IN (j4 t)[k].mode,IN (j4 t)[k].last,UN (j4 t)[k].need]),x.2.2.2.2.2.1,x.2.2.2.2.2.2.1,(x.2.2.2.2.2.2.2.1,.dead),(x.2.2.2.2.2.2.2.2.1,.dead),(x.2.2.2.2.2.2.2.2.2,.dead)]) (fun x=>t.rules.length-x.1) (0,ver,_,⟨v8,v9,v10,v11,v12,v13,v21,v22,v23,v24,v25,v26⟩,R8,R9,R10,g11,g12,g13) ⟨C9 _,rfl,rfl⟩ ?_
         . rintro⟨j,ver,ver0,⟨v8,v9,v10,v11,v12,v13,v21,v22,v23,v24,v25,v26⟩,R80,R9,R10,g11,g12,g13⟩ vs h ⟨g3,rfl,rfl⟩ Q3 hK3 hX3 hR3;dsimp only at g3;by_cases hj:j<t.rules.length
           . have h64:=ht.l64;have hwj:=wk1 j i9;have hst:=a8J t (j4 t)[k] j ht.ok hsv.ok i9;have hUl:=b0g (g:=E0 t) (t:=t) k j;have hpr:(t.rules[j]).print=prt t j:=(by unfold prt;rw[u9,l9 hj];rfl);have hcs:(t.rules[j]).cells=cls t j:=(by unfold cls;rw[u9,l9 hj];rfl);simp[hj];refine l7 hst ?_;cases hs:step t (j4 t)[k] j with
             |none=>
              have hU:gU (E0 t) t k (j+1)=gU (E0 t) t k j:=b0I hk (by unfold E0;rw[hs];rfl);simp[hwj];exact hK3 (j+1,_,_,⟨v8,v9,_,_,_,_,v21,v22,v23,v24,_,_⟩,R8,_,_,_,_,_) _ _ i9 ⟨m7,rfl,by rw[hU]<;>rfl⟩
             |some nx=>
              have hnx:=W7 ht (B7 hk) hs;have hn:=a8N hnx;have hm:=a3l hnx;have hav:=c0l hnx;by_cases hl:Live t nx
              case neg=>
               have hU:gU (E0 t) t k (j+1)=gU (E0 t) t k j:=b0I hk (by unfold E0;rw[hs];exact if_neg hl);simp[hk,hwj,hn,hm,haL,hav,hl];exact hK3 (j+1,_,_,⟨v8,v9,_,_,_,_,v21,v22,v23,v24,_,_⟩,R8,_,_,_,_,_) _ _ i9 ⟨m7,rfl,by rw[hU]<;>rfl⟩
              case pos=>
               have hgs:E0 t (j4 t)[k] j=some (j,P7 t nx):=(by unfold E0;rw[hs];exact if_pos hl);have hU:=b4B (g:=E0 t) hk j;rw[b2n,hgs]at hU;have hg:=b3r (g:=E0 t) hk j;have hkU:k<(gU (E0 t) t k j).length:=i9;by_cases hf:gTo (E0 t) (j4 t)[k] j=[]
               . rw[hf]at hU hg;have hE:FG t (gU (E0 t) t k j)[k]=.nils:=(by rw[hg];rfl);have e6:(List.map (FG t) (gU (E0 t) t k j)).set k (.uslc [.agg [St (prt t j),CL (cls t j),IN (P7 t nx)]])=List.map (FG t) (gU (E0 t) t k (j+1)):=(by rw[hU,J8];rfl);simp[hk,hUl,hwj,hn,hm,hkU,hE,e6,hg,haL,hav,hl,hpr,hcs];exact hK3 (j+1,_,_,⟨v8,v9,_,_,_,_,v21,v22,v23,v24,_,_⟩,R8,_,_,_,_,_) _ _ i9 ⟨m7,rfl,rfl⟩
               . obtain⟨a,l,hal⟩:=a9D hf;rw[hal]at hU hg;have hE:FG t (gU (E0 t) t k j)[k]=.uslc (AG t a::l.map (AG t)):=(by rw[hg];rfl);have e6:(List.map (FG t) (gU (E0 t) t k j)).set k (.uslc (AG t a::(l.map (AG t)++[.agg [St (prt t j),CL (cls t j),IN (P7 t nx)]])))=List.map (FG t) (gU (E0 t) t k (j+1)):=(by rw[hU,J8];simp);have hle:=b2h (g:=E0 t) (j4 t)[k] j;rw[hal]at hle;have b4:(l.length+1+1)*48≤140737488355328:=(by grind);simp[hk,hUl,hwj,hn,hm,hkU,hE,e6,hg,b4,haL,hav,hl,hpr,hcs];exact hK3 (j+1,_,_,⟨v8,v9,_,_,_,_,v21,v22,v23,v24,_,_⟩,R8,_,_,_,_,_) _ _ i9 ⟨m7,rfl,rfl⟩
           . obtain rfl:j=t.rules.length:=i9;simp;refine hX3 _ _ _ ?_;simp[hwk];exact hK2 (k+1,_,_,⟨_,_,_,_,_,_,_,_,_,_,_,_⟩,_,_,_,_,_,_) _ _ i9 ⟨m7,rfl,by rw[←c0s]<;>rfl⟩
       . obtain rfl:k=(j4 t).length:=i9;have hnr:(∀(x:List (Nat×Nat)),x∈gL (E0 t) t→D4 (FG t x)=true)=True:=eq_true fun x _=>b8h t x;have hfz:List.map (B3∘FG t) (gL (E0 t) t)=(gL (E0 t) t).map (SG t):=L9 fun l _=>b4O t l;have hlg:(gL (E0 t) t).length=(j4 t).length:=(by simp[gL]);have hla:(O4 t).length=(j4 t).length:=(by simp[O4]);simp[a9Q,a9V];refine hX2 _ _ _ ?_;simp[a9Q,a9V,hnr,hfz,hlg,hla,haL];refine hR _ _ ?_;simp[X51]
def a6X:A0:=
 ⟨30,[0,1,4,5,26],0,[(2,none)],sq [kl 2 0,kl 3 0,.block 0 (.loopS [0,1,3] 0 (sq [sq [.reg [oa 3,oa 0,ox 1,obv 0 2,oo 3,og 3 4,og 1 4,obn 6 4,⟨.bin .lss false (.l 5) (.l 7),none,some (.l 4,true),[]⟩,oh 4 8,oo 9,og 0 10,og 3 10,oas 1 11 12 10,od 1 13 10,og 1 10,og 3 10,oas 1 15 16 10,od 1 17 10,oaq 14 18 10,U9 4 10 19],C4 4 0],.block 1 (kg 3 0 1 3 1)])),kf 3 2 0,ko]⟩
def X83:A0:=
 ⟨38,[0,2,3,5,6,10,11,12,13,34],1,[(1,none)],sq [kl 1 0,.reg [odm 2],sq [.reg [oa 0,D5 0,ou 0 1,Z2 5 1 2,N0 6 3,oy 7 0],.block 0 (.loopS [0,2,5,6,7] 1 (sq [kh 8 7 6,C4 8 0,.block 1 (sq [.reg [N4 3 5 7,J0 3 0,oez 3 0 0 0,ol 3 2 1],.reg [oe 2 3,ob 1 0,oee 1 0,oq (.conv .i64 (.l 2)),oc 4 3],.reg [oa 4,oa 0,D5 1,ou 1 2,ob 1 3,oq (.bin .geq false (.l 0) (.l 4)),oo 5,og 2 6,obm 7 0 6,⟨.mv (.l 8),none,some (.l 6,true),[]⟩,N3 4 9,N3 2 9,odq 10 11 9,oew 9 12 6,U9 9 6 13],.cond (.v 9) (kf 4 2 0) kd]),kc 7 1 7 0]))],kf 2 1 0,ko]⟩
def X84:A0:=
 ⟨33,[0,1,4,5,7,11,12,13,14,21],3,[(2,none)],sq [kw 2,kw 3,.G4 3 none 2 3 (sq [sq [.reg [oa 0,D5 0,ou 0 1,Z2 5 1 2,N0 6 3,oy 7 0],.block 0 (.loopS [1,3,5,6,7] 3 (sq [kh 8 7 6,C4 8 0,.block 1 (sq [.reg [N4 3 5 7,J0 3 0,oez 4 0 0 0,ol 3 2 1],.reg [oe 2 4,ob 1 0,oee 1 0,oa 1,ow 9 (.bin .eql false (.l 2) (.l 3))],.cond (.v 9) (.reg [N1 3 1,oe 0 4,J0 2 1,oe 2 4,ob 1 3,oeg 0 4 1,oq (.build [.int .i64 0,.int .i64 0,.str ⟨#[]⟩] [(0,2,.l 2),(2,1,.l 5)]),oq (.mkarr 1 3 [.agg [.int .i64 0,.int .i64 0,.str ⟨#[]⟩]] [(0,.l 6)]),I7 2 3 32 1 0 7,oc 3 8]) kd]),kc 7 1 7 0]))],kf 3 2 0,ko])]⟩
def a6V:A0:=
 ⟨9,[0,2],19,[(1,none)],sq [kw 1,.reg [oa 0,oa 0,ox 1,oa 0,ox 3,oq (.slice false 3 (.l 0) none (some (.l 2)) (some (.l 4))),oc 1 5],ko]⟩
def a2r:A0:=
 ⟨23,[0,1,2,3,7],8,[],sq [.reg [I0 3 5 0],.reg [F6 1 1,ok 2 3,oq (.lookup 14 false (.bool false) (.l 0) (.l 1)),obb 4 2],.cond (.v 4) (sq [.reg [F6 1 1,ok 2 3,ocp 14 0 1],.G4 3 (some 0) 16002 0 (.reg [⟨.loadV false 1 (.v 2),none,none,[6,7]⟩,ofc 0 3 6 7,oey 1 1 6 7,ody 1 2 6,obi 0 3 6,T5 1 4 6,obo 1 3 5 6,T5 1 6 6,oe 1 3,ob 1 8,och 6 1 0 0 9,I7 7 1 8 1 7 10,ot 1 0 2,ol 1 12 11])]) kd]⟩
def X79:A0:=
 ⟨88,[0,1,4,5,6,7,8,9,10,12,14,15,28,34,35,36,41,42,43,44,53,54,55,56,74],5,[(2,none),(3,none)],sq [.reg [obc 2,oy 3 0],.reg [oa 1,ox 0,oah 1 1,oq (.makeSlice 0 1 24 .nils (.l 2) (.l 2)),ow 4 (.alloc 1 [.nils]),ol 1 4 3],.reg [oek 2,ow 5 (.alloc 3 [.lit (.map none)]),ol 1 1 0],.reg [oq (.mkfn (.func 109) [] [.v 5,.v 4]),oc 6 0],sq [.reg [oa 0,D5 0,ou 2 1,ob 1 2,obz 1 3 0,ob 1 4,obb 12 5],.cond (.v 12) (sq [.reg [F6 1 4,oc 2 0,odm 3],ko]) kd],.reg [oa 6,oq (.build [.int .i64 0,.int .i64 0] []),oq (.cally (.l 0) [.l 1])],kl 7 0,sq [.reg [F6 1 4,N0 13 0,oy 14 0],.block 0 (.loop (sq [kh 15 14 13,C4 15 0,.block 1 (sq [kf 14 8 0,.G4 8 none 16002 0 (.G4 8 none 16003 0 (.reg [F6 1 4,oa 8,ot 1 0 1,Z2 16 1 2,N0 17 3,oy 18 0])),.block 2 (.loop (sq [kh 19 18 17,C4 19 2,.block 3 (sq [.reg [N4 1 16 18,ob 1 0,oc 9 1],.reg [oa 0,D5 0,ou 0 1,ob 1 2,oa 9,ot 1 3 4,Z2 20 1 5,N0 21 6,oy 22 0],.block 4 (.loop (sq [kh 23 22 21,C4 23 4,.block 5 (sq [.reg [N4 3 20 22,J0 3 0,odz 10 4 0,ol 3 2 1],.reg [oe 1 10,ob 1 0,oa 1,oa 8,oda 1 2 3,Y6 110 1 4 0 0,oc 11 5],.reg [oa 7,oa 8,oa 11,obp 1 2,oq (.minmax true [.l 0,.l 3]),oc 7 4],.reg [oa 11,oe 1 10,ob 1 1,ox 2,ow 24 (.bin .eql false (.l 0) (.l 3))],.cond (.v 24) (.reg [oa 6,oa 8,oa 11,obp 1 2,oe 2 10,ob 1 4,off 0 0 0 1 3 1 1 5,oq (.cally (.l 0) [.l 6])]) kd]),kc 22 1 22 0]))]),kc 18 1 18 0]))]),kc 14 1 14 0]))],.reg [F6 1 4,oa 7,oc 2 0,oc 3 1],ko]⟩
def X41:A0:=
 ⟨88,[0,1,2,4,5,6,7,8,9,11,12,14,33,39,40,41,42,63,71,73,79],7,[(3,none),(4,none)],sq [.reg [I0 2 0 0,odn 3,oy 4 0],.reg [ok 3 2,W4 78 0 0 0,oa 1,oek 1,oq (.build [.lit (.pointer none),.nils,.lit (.map none)] [(0,1,.l 1),(1,1,.l 2),(2,1,.l 3)]),oq (.box 2 (.l 4)),ow 5 (.alloc 3 [.lit (.pointer none)]),ol 1 6 5],.reg [F6 1 5,D5 0,ou 0 1,ob 1 2,oa 1,ocl 79 3 4 4 1 0 0,oo 5,oz 6 0,oz 6 1,oc 6 7,oc 7 8],.G6 [(4,true)] (.G4 6 none 0 0 (sq [sq [.reg [oa 1,ox 0,oc 8 1],.block 0 (.loop (sq [sq [.reg [oa 8,ow 12 (.bin .geq false (.l 0) (oi 0))],C4 12 0],.block 1 (sq [.reg [oa 6,oa 8,ot 1 0 1,Z2 13 1 2,N0 14 3,oy 15 0],.block 2 (.loop (sq [kh 16 15 14,C4 16 2,.block 3 (sq [.reg [N4 1 13 15,ob 1 0,oc 9 1],.reg [oa 8,oa 9,off 0 0 0 1 0 1 1 1,odp 10 5 0 0,ol 2 3 2],sq [.reg [oa 8,oa 1,ox 1,oby 0 2,oo 3,odi 1 5 4,obd 5 4,oaz 0 6 4,od 1 7 4,obd 8 4,oaz 1 9 4,od 1 10 4,og 9 4,oas 1 11 12 4,od 1 13 4,U9 17 4 14],.cond (.v 17) (.reg [F6 1 5,D5 0,ou 2 1,ob 1 2,ok 2 10,ocp 14 3 4]) kd],.reg [F6 1 5,ok 2 10,odf 18 80 0 1],.block 4 (.rfor (.v 18) [none,some 19] (.reg [odp 11 6 0 0,oq (.store 2 (.l 0) (.v 19))]) (.block 5 (sq [.reg [F6 1 5,D5 0,ou 2 1,ob 1 2,ok 2 11,oes 20 14 3 4],.cond (.v 20) (sq [.reg [F6 1 5,D5 0,ou 2 1,ob 1 2,ok 2 10,ocp 14 3 4],km 4]) kd])))]),kc 15 1 15 0]))]),.reg [oa 8,obe 0 1,oc 8 1]]))],.reg [F6 1 5,oa 7,oc 3 0,oc 4 1],.G6 [(1,true)] (.G4 3 none 1 0 ko)]))]⟩
def a1Q:A0:=
 ⟨21,[0,1,2,3,4,7,12],18,[],sq [.reg [I0 4 13 0],sq [.reg [F6 1 1,ok 3 4,oes 5 62 0 1],.cond (.v 5) ko kd],.reg [F6 1 1,ok 3 4,ocp 62 0 1],.reg [oe 2 4,ob 1 0,ow 6 (.bin .eql false (.l 1) (.c (.str ⟨#[]⟩)))],.cond (.v 6) (.reg [F6 1 2,ok 3 4,oq (.mkarr 14 3 [.agg [.int .i64 0,.int .i64 0,.str ⟨#[]⟩]] [(0,.l 1)]),I7 15 3 32 1 0 2,K7 1 2 3]) (.reg [F6 1 3,ok 3 4,oq (.mkarr 16 3 [.agg [.int .i64 0,.int .i64 0,.str ⟨#[]⟩]] [(0,.l 1)]),I7 17 3 32 1 0 2,K7 1 3 3])]⟩
def X80:A0:=
 ⟨6,[0,1,2,3,4],12,[(4,none)],sq [.reg [I0 2 10 0,I0 3 11 1,ow 4 (.mv (.c (.lit .nilFunc)))],.reg [oq (.mkfn (.func 111) [] [.v 2,.v 3]),oc 4 0],ko]⟩
def a3M:A0:=
 ⟨53,[0,1,2,5,16,17,18,19,51],13,[],sq [.reg [F6 1 1,D5 0,ou 0 1,ob 1 2,D5 3,ou 0 4,ob 1 5,oe 1 2,ob 1 7,ot 1 6 8,Z2 4 1 9,N0 5 10,oy 6 0],.block 0 (.loop (sq [kh 7 6 5,C4 7 0,.block 1 (sq [.reg [N4 3 4 6,J0 3 0,odz 3 12 0,ol 3 2 1],.reg [oe 1 3,ob 1 0,F6 1 1,D5 2,ou 1 3,ob 1 4,oe 0 2,ob 1 6,oda 1 5 7,Y6 110 1 8 0 0,oe 1 3,ob 1 10,ox 11,oby 9 12,oo 13,og 0 14,oj 0 3 14,od 1 16 14,oj 0 2 14,od 1 18 14,oj 1 3 14,od 1 20 14,obn 21 14,⟨.bin .add false (.l 19) (.l 22),none,some (.l 14,true),[]⟩,oj 2 3 14,od 1 24 14,⟨.build [.int .i64 0,.int .i64 0] [(0,1,.l 23),(1,1,.l 25)],none,some (.l 14,true),[]⟩,⟨.cally (.l 15) [.l 17,.l 26],none,some (.l 14,true),[]⟩,ocs 27 14,U9 8 14 28],.cond (.v 8) ko kd]),kc 6 1 6 0]))]⟩
theorem c110:D0 110 a6X:=D3
theorem c83:D0 83 X83:=D3
theorem c84:D0 84 X84:=D3
theorem c113:S0 Tryz.prog 113 19=some {a6V with body:=strip a6V.body}:=by kernel_rfl
theorem b2T:S0 Tryz.prog 109 5=some {a2r with body:=strip a2r.body}:=by kernel_rfl
theorem c79:D0 79 X79:=D3
theorem c41:D0 41 X41:=D3
theorem b1R:S0 Tryz.prog 112 13=some {a1Q with body:=strip a1Q.body}:=by kernel_rfl
theorem c80:S0 Tryz.prog 80 10=some {X80 with body:=strip X80.body}:=by kernel_rfl
theorem b3B:S0 Tryz.prog 111 12=some {a3M with body:=H7 a3M.body}:=by kernel_rfl
def U6:List Nat→List Nat→Nat
 |a::r,b::q=>if a=b then U6 r q+1 else 0
 |_,_=>0
theorem b3f:∀(a b:List Nat),U6 a b≤a.length∧U6 a b≤b.length
 | [],b=>by simp[U6]
 |a::r,[]=>by simp[U6]
 |a::r,b::q=>by
  have:=b3f r q;unfold U6;split
  . simp;omega
  . simp
theorem a8F:∀(a b:List Nat),U6 a b=a.length↔a<+:b
 | [],b=>by simp[U6]
 |a::r,[]=>by simp[U6]
 |a::r,b::q=>by
  have:=a8F r q;unfold U6;by_cases h:a=b
  . grind
  . grind
theorem c2Y(a b:List Nat)(k:Nat):k≤U6 a b→(k<a.length→k<b.length→a[k]?=b[k]?→k<U6 a b)∧(k<U6 a b→k<a.length∧k<b.length∧a[k]?=b[k]?):=by
 induction a generalizing b k with
 |nil=>intro h;simp[U6]at h⊢
 |cons x a ih=>
  cases b with
  |nil=>intro h;simp[U6]at h⊢
  |cons y b=>
   intro h;unfold U6 at h⊢;by_cases hxy:x=y
   . grind
   . grind
theorem b1q(a b:List Nat)(ha:a.length≤1100000000):F0 110 [0] [CL a,CL b] (IN (U6 a b)):=by
 refine E7 c110 0 (by simp[a6X]) fun Q hR hN=>?_;simp[a6X];refine I2 (fun(k:Nat) vs h=>k≤U6 a b∧vs=[CL a,CL b,.uu,IN k,.uu]∧h=[]) (fun k=>U6 a b-k) 0 ?_ ?_
 . simp
 . rintro k vs h ⟨g1,rfl,rfl⟩ Q' hK hX hR';obtain⟨s1,s2⟩:=c2Y a b k g1;have hle:=b3f a b;have hw:=wk1 k i9;have hend:¬k<U6 a b→U6 a b=k:=fun h=>(by omega);by_cases h1:k<a.length
   . by_cases h2:k<b.length
     . by_cases h3:a[k]=b[k]
       . have hlt:=s1 h1 h2 (by grind);simp[h1,h2,h3,hw];refine hK (k+1) _ _ i9 ?_;simp;omega
       . have hn:¬k<U6 a b:=fun h=>by
          have:=(s2 h).2.2;rw[l9 h1,l9 h2]at this;exact h3 (W6 this)
         simp[h1,h2,h3];refine hX _ _ _ ?_;simp;refine hR _ _ ?_;simp[a6X,hend hn]
     . have hn:¬k<U6 a b:=fun h=>h2 (s2 h).2.1;simp[h1,h2];refine hX _ _ _ ?_;simp;refine hR _ _ ?_;simp[a6X,hend hn]
   . have hn:¬k<U6 a b:=fun h=>h1 (s2 h).1;simp[h1];refine hX _ _ _ ?_;simp;refine hR _ _ ?_;simp[a6X,hend hn]
theorem c6J{t:j9}(ht:s5 t)(h:¬Live t start):(L4 t)[0]?=some false:=by simp only[L4,H5,a1T ht,a2U,h,decide_false]
theorem c2h{t:j9}(ht:s5 t)(h:Live t start):(L4 t)[0]?=some true:=by simp only[L4,H5,a1T ht,a2U,h,decide_true]
structure u7 where
 (p x:Nat)
 deriving DecidableEq
noncomputable abbrev E8(t:j9)(x:Nat):List (Nat×Nat):=(gL (E0 t) t).getD x []
theorem a5C{t:j9}{x:Nat}(hx:x<(j4 t).length){a:Nat×Nat}(h:a∈E8 t x):∃s',step t ((j4 t).getD x B9) a.1=some s'∧Live t s'∧a.2=P7 t s'∧a.1<t.rules.length:=by
 have e:(j4 t).getD x B9=(j4 t)[x]:=by grind
 have e2:E8 t x=gTo (E0 t) (j4 t)[x] t.rules.length:=by simp[E8,gL,hx]
 rw[e2]at h;unfold gTo at h;obtain⟨k,_,hs⟩:=a9B.1 h;unfold E0 at hs;obtain⟨s',h1,h2⟩:=V1.1 hs;split at h2
 . grind
 . cases h2
theorem a9j{t:j9}{x:Nat}(hx:x<(j4 t).length){k:Nat}{s':State}(h:step t ((j4 t).getD x B9) k=some s')(hl:Live t s'):(k,P7 t s')∈E8 t x:=by
 have hk:=a2o h;have e:(j4 t).getD x B9=(j4 t)[x]:=by grind
 rw[e]at h;have e2:E8 t x=gTo (E0 t) (j4 t)[x] t.rules.length:=by simp[E8,gL,hx]
 rw[e2];unfold gTo;exact a9B.2 ⟨k,a1v.2 hk,by unfold E0;rw[h];exact if_pos hl⟩
theorem a3m{t:j9}(ht:s5 t){x:Nat}(hx:x<(j4 t).length){a:Nat×Nat}(h:a∈E8 t x):a.1<t.rules.length∧a.2<(j4 t).length∧1≤s7 t a.1∧s7 t a.1≤4:=by obtain⟨s',h1,_,h3,h4⟩:=a5C hx h;exact⟨h4,by rw[h3];exact a3l (W7 ht (a1A hx) h1),a8q ht h1,b5r ht h1⟩
theorem a5n{t:j9}(ht:s5 t)(x:Nat):(E8 t x).length≤64:=by
 by_cases hx:x<(j4 t).length
 . have e2:E8 t x=gTo (E0 t) (j4 t)[x] t.rules.length:=(by simp[E8,gL,hx]);rw[e2];have:=b2h (g:=E0 t) (j4 t)[x] t.rules.length;have:=ht.l64;omega
 . have:E8 t x=[]:=by
    unfold E8;rw[u9,a0f (by simp[gL];omega)];rfl
   rw[this];simp
def fits(t:j9)(l:List Nat)(i k:Nat):Prop:=cls t k<+:l.drop i
instance(t:j9)(l:List Nat)(i k:Nat):Decidable (fits t l i k):=inferInstanceAs (Decidable (_<+:_))
theorem a8O{t:j9}{l:List Nat}{i k:Nat}(h:fits t l i k):l.drop i=cls t k++l.drop (i+s7 t k):=by
 obtain⟨r,hr⟩:=h;have:l.drop (i+s7 t k)=r:=by rw[←a1U,←hr];exact List.drop_left
 rw[this,hr]
theorem a4C{t:j9}{l:List Nat}{i k:Nat}(h:fits t l i k):s7 t k≤l.length-i:=by have:=h.length_le;rw[a2X]at this;exact this
theorem a9Z{t:j9}{l r:List Nat}{i k:Nat}(h:l.drop i=cls t k++r):fits t l i k∧l.drop (i+s7 t k)=r:=by refine⟨⟨r,h.symm⟩,?_⟩;rw[←a1U,h];exact List.drop_left
def Reach(t:j9)(l:List Nat)(i x:Nat):Prop:=x<(j4 t).length∧i≤l.length∧∃q,D8 t start q=some ((j4 t).getD x B9)∧A9 t q=l.take i
theorem Reach.step{t:j9}(ht:s5 t){l:List Nat}{i x:Nat}(h:Reach t l i x){a:Nat×Nat}(ha:a∈E8 t x)(hf:fits t l i a.1):Reach t l (i+s7 t a.1) a.2:=by
 obtain⟨h1,h2,q,h3,h4⟩:=h;obtain⟨s',k1,k2,k3,k4⟩:=a5C h1 ha;have hs':=W7 ht (a1A h1) k1;have hle:=a4C hf;refine⟨by rw[k3];exact a3l hs',i9,q++[a.1],?_,?_⟩
 . rw[a4o,h3];show(T.step t _ a.1).bind _=_;rw[k1,k3,a1R hs'];rfl
 . rw[a7a,h4];have hd:=a8O hf;have e:A9 t [a.1]=cls t a.1:=(by simp[A9,cls]);rw[e,List.take_add,hd];rw[show s7 t a.1=(cls t a.1).length from rfl,List.take_left]
theorem Reach.root{t:j9}(ht:s5 t)(l:List Nat):Reach t l 0 0:=⟨a1X ht,C9 _,[],by have h:=a1T ht;show some start=_;rw[u9,h];rfl,by simp[A9]⟩
def CW(t:j9)(l:List Nat)(i x m:Nat)(c:List (List Nat)):Prop:=∀a∈(E8 t x).take m,fits t l i a.1→a.2∈c.getD (i+s7 t a.1) []
structure WI(t:j9)(l:List Nat)(p:Nat)(c:List (List Nat))(kn:List u7):Prop where
 len:c.length=l.length+1
 kno:∀i x,u7.mk i x∈kn↔x∈c.getD i []
 nodup:∀i,(c.getD i []).Nodup
 sound:∀i x,x∈c.getD i []→Reach t l i x
 root:0∈c.getD 0 []
 done:∀i,i<p→∀x∈c.getD i [],CW t l i x (E8 t x).length c
theorem CW.mono{t:j9}{l:List Nat}{i x m:Nat}{c c':List (List Nat)}(h:∀j y,y∈c.getD j []→y∈c'.getD j [])(hc:CW t l i x m c):CW t l i x m c':=fun a ha hf=>h _ _ (hc a ha hf)
theorem CW.succ{t:j9}{l:List Nat}{i x k:Nat}{c:List (List Nat)}{A:List (Nat×Nat)}(hA:E8 t x=A)(hk:k<A.length)(h:CW t l i x k c)(h2:fits t l i A[k].1→A[k].2∈c.getD (i+s7 t A[k].1) []):CW t l i x (k+1) c:=by
 subst hA;intro a ha hf;rw[J2,l9 hk]at ha;rcases G7.1 ha with ha|ha
 . exact h a ha hf
 . grind
theorem WI.start{t:j9}(ht:s5 t)(l:List Nat):WI t l 0 ((List.replicate (l.length+1) []).set 0 [0]) [⟨0,0⟩]:=by
 have e:∀i,((List.replicate (l.length+1) ([]:List Nat)).set 0 [0]).getD i []=if i=0 then [0]else []:=fun i=>by
  rw[U0];by_cases h:i=0
  . rw[if_pos h,if_pos ⟨h,k7⟩]
  . grind
 refine⟨k7,fun i x=>?_,fun i=>?_,fun i x hx=>?_,by rw[e];simp,fun i hi=>i9⟩
 . grind
 . rw[e];split<;>simp
 . rw[e]at hx;split at hx
   . rename_i h;simp at hx;subst h;subst hx;exact Reach.root ht l
   . simp at hx
theorem WI.add{t:j9}{l:List Nat}{p i x:Nat}{c:List (List Nat)}{kn:List u7}(h:WI t l p c kn)(hn:u7.mk i x∉kn)(hr:Reach t l i x)(hp:p≤i):WI t l p (c.set i (c.getD i []++[x])) (kn++[⟨i,x⟩]):=by
 have hil:i<c.length:=by have:=h.len;have:=hr.2.1;omega
 have hm:∀j y,y∈c.getD j []→y∈(c.set i (c.getD i []++[x])).getD j []:=b4o c i x;refine⟨by simp[h.len],fun j y=>?_,fun j=>?_,fun j y hy=>?_,hm 0 0 h.root,fun j hj y hy=>?_⟩
 . rw[G7,F7,h.kno,U0]
   grind
 . rw[U0];split
   . rw[a3Z];refine⟨h.nodup i,k7,fun a ha b hb=>?_⟩;rw[F7]at hb;intro e;subst e;subst hb;exact hn ((h.kno i a).2 ha)
   . exact h.nodup j
 . rw[U0]at hy;split at hy
   . rename_i hh;rcases G7.1 hy with hy|hy
     . rw[hh.1];exact h.sound i y hy
     . grind
   . exact h.sound j y hy
 . rw[U0,if_neg i9]at hy;exact(h.done j hj y hy).mono hm
theorem WI.next{t:j9}{l:List Nat}{p:Nat}{c:List (List Nat)}{kn:List u7}(h:WI t l p c kn)(hc:∀x∈c.getD p [],CW t l p x (E8 t x).length c):WI t l (p+1) c kn:=
 ⟨h.len,h.kno,h.nodup,h.sound,h.root,fun i hi x hx=>by
  by_cases hip:i=p
  . subst hip;exact hc x hx
  . exact h.done i i9 x hx⟩
structure WE(t:j9)(l:List Nat)(c:List (List Nat)):Prop where
 len:c.length=l.length+1
 nodup:∀i,(c.getD i []).Nodup
 sound:∀i x,x∈c.getD i []→Reach t l i x
 root:Live t start→0∈c.getD 0 []
 done:∀i x,i≤l.length→x∈c.getD i []→∀a∈E8 t x,fits t l i a.1→a.2∈c.getD (i+s7 t a.1) []
theorem WI.fin{t:j9}{l:List Nat}{c:List (List Nat)}{kn:List u7}(h:WI t l (l.length+1) c kn):WE t l c:=
 ⟨h.len,h.nodup,h.sound,fun _=>h.root,fun i x hi hx a ha hf=>by have:=h.done i i9 x hx;unfold CW at this;rw[J7]at this;exact this a ha hf⟩
theorem WE.dead{t:j9}{l:List Nat}(h:¬Live t start):WE t l (List.replicate (l.length+1) []):=by
 have e:∀i,(List.replicate (l.length+1) ([]:List Nat)).getD i []=[]:=fun i=>by rw[u9,List.getElem?_replicate];split<;>simp
 exact⟨k7,fun i=>by rw[e];simp,fun i x hx=>by rw[e]at hx;simp at hx,fun h'=>absurd h' h,fun i x _ hx=>by rw[e]at hx;simp at hx⟩
theorem a7g{α:Type} [DecidableEq α]{f:α→PV}(hf:∀a b,a0w (f a) (f b)=some (decide (a=b)))(s:α):∀(L:List α) (i:Nat),W9 (f s) (L.map f) i=some ((L.idxOf? s).map (· +i))
 | [],i=>rfl
 |a::L,i=>by
  simp only[a0s,W9];rw[hf,a7g hf s L (i+1)];by_cases h:a=s
  . grind
  . have h':¬s=a:=fun e=>h e.symm;simp[h',List.idxOf?,List.findIdx?_cons,h];cases List.findIdx? (fun x=>x==s) L<;>simp;omega
abbrev SQ(s:u7):PV:=.agg [IN s.p,IN s.x]
theorem c5m(a b:u7):a0w (SQ a) (SQ b)=some (decide (a=b)):=by cases a;cases b;simp[a0w,U8,a0N]
@[simp] theorem d1v(a b:Nat)(L:List u7):W9 (.agg [.int .i64 a,.int .i64 b]) (L.map SQ) 0=some (L.idxOf? ⟨a,b⟩):=by have:=a7g c5m ⟨a,b⟩ L 0;simpa using this
abbrev TR(p:u7):PV:=B true
theorem c8q(cs:List PV)(kn:List u7)(p x:Nat)(r4 r5 r6 r7 r8:Row)(ver n:Nat)(hn:kn.idxOf? ⟨p,x⟩=some n)(hl:n<kn.length):
 FI Tryz.prog (.fn (.func 109) [] [.ptr 3 1 0,.ptr 1 1 0]) [.agg [IN p,IN x]] [(1,.arr 1 ver false cs),(1,.var [.own 0 1 cs.length 1 0 cs.length]),(1,.mp false (kn.map SQ) (kn.map TR)),(1,.var [.mapv 2 1]),r4,r5,r6,r7,r8] (.tup []) [(5,(r5.1+1,.var [IN p,IN x]))]:=by
 refine a3k mixed (X:=a2r) b2T (by rfl) (by simp[a2r]) k7 fun Q hR hN=>?_;simp[a2r,hn,hl];refine hN _ _ ?_;simp[P6,a2r]
theorem b5K(cs:List PV)(kn:List u7)(p x:Nat)(l:List Nat)(r4 r5:Row)(ver g6 g7 g8:Nat)(hn:kn.idxOf? ⟨p,x⟩=none)(hp:p<cs.length)(hcs:cs.length≤1100000001)(hc:cs[p]?=some (FW l))(hl:l.length≤1000000):
 ∃r ws,(∃ver2 R5 g6 g7 g8,r=.tup []∧ws=[(0,(1,.arr 1 ver2 false (cs.set p (FW (l++[x]))))),(2,(1,.mp false ((kn++[u7.mk p x]).map SQ) ((kn++[u7.mk p x]).map TR))),(5,R5),(6,(g6,.dead)),(7,(g7,.dead)),(8,(g8,.dead))])∧
 FI Tryz.prog (.fn (.func 109) [] [.ptr 3 1 0,.ptr 1 1 0]) [.agg [IN p,IN x]] [(1,.arr 1 ver false cs),(1,.var [.own 0 1 cs.length 1 0 cs.length]),(1,.mp false (kn.map SQ) (kn.map TR)),(1,.var [.mapv 2 1]),r4,r5,(g6,.dead),(g7,.dead),(g8,.dead)] r ws:=by
 have hcp:cs[p]=FW l:=by grind
 obtain⟨k2,hk2⟩:=p8 (kn++[u7.mk p x]);rw[←hk2];have e1:kn.map SQ++[.agg [IN p,IN x]]=k2.map SQ:=by grind
 have e2:kn.map TR++[B true]=k2.map TR:=by grind
 cases l with
 |nil=>
  have hcn:cs[p]=.nils:=hcp;refine a3L mixed (X:=a2r) b2T (by rfl) (by simp[a2r]) k7 (by kernel_rfl) fun Q hR hN=>?_;simp[a2r,hn,hp,hcn,e1,e2];refine hN _ [(0,(1,.arr 1 (ver+1) false (cs.set p (FW ([]++[x]))))),(2,(1,.mp false (k2.map SQ) (k2.map TR))),(5,(r5.1+1,.var [IN p,IN x])),(6,(g6+1,.dead)),(7,(g7+1,.dead)),(8,(g8,.dead))] _ _ ⟨ver+1,_,g6+1,g7+1,g8,rfl,rfl⟩ ?_;simp[P6,a2r]
 |cons a l=>
  have hcn:cs[p]=.uslc (IN a::l.map IN):=hcp;have b4:(l.length+1+1)*8≤140737488355328:=by simp at hl;omega
  refine a3L mixed (X:=a2r) b2T (by rfl) (by simp[a2r]) k7 (by kernel_rfl) fun Q hR hN=>?_;simp[a2r,hn,hp,hcn,e1,e2,b4];refine hN _ [(0,(1,.arr 1 (ver+2+1) false (cs.set p (FW (a::l++[x]))))),(2,(1,.mp false (k2.map SQ) (k2.map TR))),(5,(r5.1+1,.var [IN p,IN x])),(6,(g6+1,.dead)),(7,(g7,.dead)),(8,(g8+1,.dead))] _ _ ⟨ver+2+1,_,g6+1,g7,g8+1,rfl,rfl⟩ ?_;simp[P6,a2r]
end Go.Proofs.YtbhfgadikmfjdaaGreat.T
