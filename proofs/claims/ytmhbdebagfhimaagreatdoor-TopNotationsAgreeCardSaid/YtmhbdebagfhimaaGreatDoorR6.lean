/-
  The plain machine, that it is sound, and walks: part 6 (joined and shortened by a program of the prover's).
-/
import Derived.Test.YtmhbdebagfhimaaGreatDoorR5
import Derived.Test.YtmhbdebagfhimaaGreatDoorProg
import Derived.KernelRfl
set_option linter.unusedSimpArgs false
set_option linter.unusedVariables false
set_option linter.unusedSectionVars false
namespace Go.Proofs.YtmhbdebagfhimaaGreatDoor.T
open Go.Proofs.YtmhbdebagfhimaaGreatDoor.Am
def b7s:List (Nat×Nat):=List.replicate 256 (0,0)
def b0j:List PV:=List.replicate 256 (.int .u8 0)
def X34:u9:=
 ⟨25,[0,2,3,4,5,6,12,22],2,[(1,none)],sq [.reg [obt 1],ku 2,sq [kj 4 0,.block 0 (.loopS [0,2,4] 2 (sq [.reg [ow 5 (.bin .lss false (.v 4) (oi 6))],B9 5 0,.block 1 (sq [kf 4 3 0,.reg [oa 0,oa 3,oq (.bin .shr false (.l 0) (.l 1)),obu 2 1,ocs 6 3 1],.cond (.v 6) (.reg [oa 2,oa 3,oq (.bin .add false (oi 49) (.l 1)),oex 2,ocw 0 1 0 0 3,J3 1 1 1 1 0 4,oc 2 5]) kc]),ke 4 1 4 0]))],sq [.reg [oa 2,E6 0,odb 7 1 0],.cond (.v 7) (sq [.reg [ow 1 (.mv (.c (.str ⟨#[48]⟩)))],ko]) kc],.reg [oa 2,oq (.convStr (.l 0)),oc 1 1],ko]⟩
def X35:u9:=
 ⟨28,[0,2,3,4,6,8,9,10],2,[(1,none)],sq [.reg [obt 1],sq [.reg [oa 0,ow 4 (.bin .eql false (.l 0) (.c (.str ⟨#[]⟩)))],.cond (.v 4) (sq [.reg [ow 1 (.mv (.c (.str ⟨#[46]⟩)))],ko]) kc],ku 2,.G4 2 none 1 1 (sq [sq [kah 0 5 0 6 0,.block 0 (.loopS [0,2,5,6] 2 (sq [ki 7 6 5,B9 7 0,.block 1 (sq [kf 6 3 0,.reg [M9 2 0,oa 0,oa 3,ocg 1 2,oq (.bin .shr false (.l 3) (.c (.int .u64 4))),oq (.indexS (.c (.str ⟨#[48,49,50,51,52,53,54,55,56,57,97,98,99,100,101,102]⟩)) (.l 4)),oa 0,oa 3,ocg 6 7,obu 8 15,oq (.indexS (.c (.str ⟨#[48,49,50,51,52,53,54,55,56,57,97,98,99,100,101,102]⟩)) (.l 9)),oq (.mkarr 0 1 [.int .u8 0,.int .u8 0] [(0,.l 5),(1,.l 10)]),J3 1 1 1 1 0 11,oc 2 12]]),ke 6 1 6 0]))],.reg [oa 2,oq (.convStr (.l 0)),oc 1 1],ko])]⟩
def X13:u9:=
 ⟨24,[0,2,3,4,5,9,10,11,12],1,[(1,none)],sq [.reg [obt 1],.reg [oa 0,E6 0,oq (.makeSlice 0 1 1 (.int .u8 0) (.l 1) (.l 1)),oc 2 2],sq [kal 5 0 6 0 7 0,.block 0 (.loopS [2,5,6,7] 1 (sq [ki 8 7 6,B9 8 0,.block 1 (sq [.reg [oa 7,N8 1 5 7,ob 1 1,oc 3 0,oc 4 2],.reg [oa 2,oa 3,oa 4,Y4 46 2 0 0,ol 1 0 1,og 1 4 3]]),ke 7 1 7 0]))],.reg [oa 2,oq (.convStr (.l 0)),oc 1 1],ko]⟩
def X12:u9:=
 ⟨35,[0,2,3,4,5,6,7,13,14,15,29],2,[(1,none),(2,none),(3,none)],sq [.reg [oax 1,ov 2 0,ov 3 0],.reg [oq (.call 45 [] b7s false),ow 4 (.allocA 0 b0j),ofg 256 1 0],.reg [oa 0,obp 0,oq (.makeSlice 1 1 1 (.int .u8 0) (.l 1) (.l 1)),oc 5 2],sq [kah 0 7 0 8 0,.block 0 (.loopS [0,4,5,7,8] 2 (sq [ki 9 8 7,B9 9 0,.block 1 (sq [kf 8 6 0,.reg [oa 5,oa 6,oa 0,oa 6,ocg 2 3,odw 256 1 4 4,ob 1 5,ol 1 0 1,og 1 7 6],.reg [oa 5,oa 6,ol 1 0 1,ob 1 2,ocs 10 3 255],.cond (.v 10) (sq [.reg [oa 6,oax 1,oc 2 0,ov 3 10],ko]) kc]),ke 8 1 8 0]))],.reg [oa 5,oa 0,obp 1,oc 1 0,oc 2 2,ov 3 0],ko]⟩
def X15:u9:=
 ⟨26,[0,1,4,5,10,14,25],0,[(2,none)],sq [kk 2,sq [.reg [oa 0,E6 0,oa 1,E6 2,ocb 4 1 3],.cond (.v 4) (kaq 2) kc],sq [kj 3 0,.block 0 (.loopS [0,1,3] 0 (sq [sq [kr 3 0 1 5 0 2,B9 5 0],.block 1 (sq [.reg [oa 0,oa 3,ol 1 0 1,ob 1 2,oa 1,oa 3,ol 1 4 5,ob 1 6,ocb 6 3 7],.cond (.v 6) (kaq 2) kc]),kh 3 0 1 3 1]))],kad 2,ko]⟩
def X9:u9:=
 ⟨46,[0,1,2,3,4,5,26,31,45],2,[(4,none)],sq [.reg [H4 2 0 0,H4 3 1 1,oh 4],sq [.reg [od 0 2,ob 1 0,od 0 3,ob 1 2,oek 1 3,om 4,ox 1 2 5,os 1 6 5,ox 1 3 5,os 1 8 5,odl 7 9 5,U9 5 10,om 11,ox 2 2 12,os 1 13 12,obg 14 12,ox 2 3 12,os 1 16 12,obg 17 12,odl 15 18 12,W9 6 12 19],.cond (.v 6) (kaq 4) kc],sq [kj 5 0,.block 0 (.loopS [2,3,5] 2 (sq [sq [.reg [oa 5,od 2 2,ob 1 1,E6 2,oas 7 0 3],B9 7 0],.block 1 (sq [.reg [od 2 2,ob 1 0,oa 5,ol 6 1 2,J7 6 3,od 2 3,ob 1 5,oa 5,ol 6 6 7,J7 6 8,oay 37 4 9 0 0,obd 8 10],.cond (.v 8) (kaq 4) kc]),kh 5 0 1 5 1]))],kad 4,ko]⟩
def X65:u9:=
 ⟨23,[0,1,4,5,6,7,12],0,[(2,none),(3,none),(4,none)],sq [.reg [obt 2,obt 3,oh 4],sq [.reg [oa 0,oa 1,oay 102 0 1 0 0,oc 5 2],.reg [oa 5,ow 6 (.bin .geq false (.l 0) (oi 0))],.cond (.v 6) (sq [.reg [oa 0,oa 5,oq (.slice true 0 (.l 0) none (some (.l 1)) none),oa 0,oa 5,oa 1,obp 5,obq 4 6,oq (.slice true 0 (.l 3) (some (.l 7)) none none),oc 2 2,oc 3 8,oba 4],ko]) kc],.reg [oa 0,oc 2 0,obt 3,oh 4],ko]⟩
def X27:u9:=
 ⟨13,[0,1,4,5,6],0,[(2,none),(3,none),(4,none)],sq [.reg [obt 2,obt 3,oh 4],.reg [oa 0,oa 1,oq (.call 65 [.l 0,.l 1] [(0,0),(0,0),(0,0)] false),oy 2 0,oy 2 1,oy 2 2,oc 2 3,oc 3 4,oc 4 5],ko]⟩
def X44:u9:=
 ⟨26,[0,1,4,5,10,14,25],0,[(2,none)],sq [kk 2,sq [.reg [oa 0,E6 0,oa 1,E6 2,ocb 4 1 3],.cond (.v 4) (kaq 2) kc],sq [kj 3 0,.block 0 (.loopS [0,1,3] 0 (sq [sq [kr 3 0 1 5 0 2,B9 5 0],.block 1 (sq [.reg [oa 0,oa 3,ol 1 0 1,ob 1 2,oa 1,oa 3,ol 1 4 5,ob 1 6,ocb 6 3 7],.cond (.v 6) (kaq 2) kc]),kh 3 0 1 3 1]))],kad 2,ko]⟩
def X11:u9:=
 ⟨17,[0,1,2,3,4],2,[(4,none)],sq [.reg [H4 2 0 0,H4 3 1 1,oh 4],.reg [od 0 2,ob 1 0,od 0 3,ob 1 2,oay 19 1 3 0 0,om 4,ou 1 2 5,oe 1 6 5,ou 1 3 5,oe 1 8 5,obb 44 7 9 0 0 5,ot 5 10,oc 4 11],ko]⟩
theorem c34:D3 34 X34:=D7
theorem c35:D3 35 X35:=D7
theorem J9:D3 13 X13:=D7
theorem c12:D3 12 X12:=D7
theorem c15:D3 15 X15:=D7
theorem c9:D3 9 X9:=D7
theorem c65:D3 65 X65:=D7
theorem c27:D3 27 X27:=D7
theorem c44:D3 44 X44:=D7
theorem K3:D3 11 X11:=D7
def a2a:List Nat:=[32,65,49,66,39,75,50,76,64,67,73,70,47,77,83,80,34,69,51,72,57,79,54,82,94,68,74,71,62,78,84,81,44,42,53,60,45,85,56,86,46,37,91,36,43,88,33,38,59,58,52,92,48,90,55,40,95,63,87,93,35,89,41,61]
theorem b1A{α:Type}{f g:Nat→α}{n:Nat}(h:(List.range n).map f=(List.range n).map g){c:Nat}(a:c<n):f c=g c:=by have:=congrArg (fun l=>l[c]?) h;simpa[a]using this
theorem c2Q:(List.range 64).map (fun c=>(a1E Tryz.prog 12 8 3).fn 34 [0] [UN c])=(List.range 64).map fun c=>some (St (a1s c)):=by kernel_rfl
theorem c2H{c:Nat}(a:c<64):F0 34 [0] [UN c] (St (a1s c)):=b1K mixed (b1A c2Q a)
theorem c8g:(List.range 64).map (fun c=>(a1E Tryz.prog 12 8 3).fn 104 [0,0] [St (a1s c)])=(List.range 64).map fun c=>some (.tup [UN c,I 0]):=by kernel_rfl
theorem c4g{c:Nat}(a:c<64):F0 104 [0,0] [St (a1s c)] (.tup [UN c,I 0]):=b1K mixed (b1A c8g a)
theorem c3z:(List.range 64).map (fun c=>(a1E Tryz.prog 12 8 3).fn 46 [0] [UN c])=(List.range 64).map fun c=>some (UN (a2a.getD c 0)):=by kernel_rfl
theorem c9B{c:Nat}(a:c<64):F0 46 [0] [UN c] (UN (a2a.getD c 0)):=b1K mixed (b1A c3z a)
theorem c4c:(List.range 16).map (fun c=>(a1E Tryz.prog 12 8 3).fn 105 [0] [UN (a0W c).toNat])=(List.range 16).map fun c=>some (IN c):=by kernel_rfl
theorem b9c{c:Nat}(a:c<16):F0 105 [0] [UN (a0W c).toNat] (IN c):=b1K mixed (b1A c4c a)
def a7F:u9:=
 ⟨30,[0,2,3,4,5,6,10],9,[(1,none),(2,none)],sq [.reg [obt 1,oh 2],sq [.reg [oa 0,C7 0,ok 1 1,Z3 6 1 2],.cond (.v 6) (sq [.reg [obt 1,oh 2],ko]) kc],.reg [oa 0,C7 0,ok 0 1,ob 1 2,oq (.call 27 [.l 3,.c (.str ⟨#[32]⟩)] [(0,0),(0,0),(0,0)] false),om 4,oy 5 0,oy 5 1,oy 5 2,oc 3 6,oc 4 7,oc 5 8],.reg [oa 0,oa 0,oa 4,oa 5,odu 3,C7 0,ok 0 5,og 1 6 2,C7 1,ok 1 8,og 1 9 4],.reg [oa 3,oc 1 0,oba 2],ko]⟩
def X66:u9:=
 ⟨75,[0,1,4,5,6,7,8,37,42,43,44,55,70],9,[(2,none)],sq [kj 2 0,.reg [oa 0,C7 0,ok 0 1,obj 103 2,om 3,oy 4 0,oy 4 1,oc 3 5,oc 4 6],sq [.reg [oa 4,odu 0,om 1,N2 3 2,odh 3 2,obs 4 1 2,U9 2 5,om 6,N2 3 7,odh 8 7,obl 9 3 7,U9 7 10,om 11,N2 3 12,odh 13 12,obl 14 1 12,⟨.mv (.l 15),none,some (.l 12,false),[]⟩,oj 3 16,⟨.indexS (.l 17) (oi 0),none,some (.l 16,true),[]⟩,oci 18 48 16,oen 16 19 12,W9 7 12 20],.cond (.v 7) (sq [kai 0 0 2 1 1 2,kj 2 0,ko]) kc],kj 5 0,sq [kah 3 8 0 9 0,.block 0 (.loop (sq [ki 10 9 8,B9 10 0,.block 1 (sq [kf 9 6 0,sq [.reg [oa 3,oa 6,ocg 0 1,oeb 2 48,om 3,N2 3 4,N2 6 4,⟨.indexS (.l 5) (.l 6),none,some (.l 4,false),[]⟩,ocf 7 57 4,W9 11 4 8],.cond (.v 11) (sq [kai 0 0 2 1 1 2,kj 2 0,ko]) kc],.reg [oa 5,oq (.bin .mul false (oi 10) (.l 0)),oa 3,oa 6,ocg 2 3,oq (.bin .sub false (.l 4) (.c (.int .u8 48))),oq (.conv .i64 (.l 5)),obq 1 6,oc 5 7]]),ke 9 1 9 0]))],sq [.reg [oa 5,oa 1,ow 12 (.bin .gtr false (.l 0) (.l 1))],.cond (.v 12) (sq [kai 0 0 2 1 1 2,kj 2 0,ko]) kc],kf 5 2 0,ko]⟩
def X67:u9:=
 ⟨44,[0,2,3,4,5,6,7,8,9,18,22,35],11,[(1,none)],sq [ku 1,.reg [oa 0,C7 0,ok 0 1,obj 103 2,om 3,oy 4 0,oy 4 1,oc 2 5,oc 3 6],sq [kaf 3 9 0,.cond (.v 9) (sq [kai 0 0 2 1 1 2,ku 1,ko]) kc],ku 4,sq [kad 5,.block 0 (.loop (sq [sq [.reg [odf 10 5],B9 10 0],.block 1 (sq [.reg [obt 6],.reg [oa 2,oq (.call 27 [.l 0,.c (.str ⟨#[45]⟩)] [(0,0),(0,0),(0,0)] false),om 1,oy 2 0,oy 2 1,oy 2 2,oc 6 3,oc 2 4,oc 5 5],.reg [oa 6,oco 104 0 0 0 0 0,om 1,oy 2 0,oy 2 1,oc 7 3,oc 8 4],sq [kag 8 11 0 0,.cond (.v 11) (sq [kai 0 0 2 1 1 2,ku 1,ko]) kc],.reg [oa 4,oa 7,ocw 9 1 0 0 1,J3 10 1 1 1 0 2,oc 4 3]])]))],.G6 [(10,true)] (.G4 4 none 0 0 (kf 4 1 0)),ko]⟩
def X68:u9:=
 ⟨70,[0,2,3,4,5,6,7,8,20,32,39,56],11,[(1,none)],sq [.reg [obt 1],.reg [oa 0,C7 0,ok 0 1,obj 103 2,om 3,oy 4 0,oy 4 1,oc 2 5,oc 3 6],sq [.reg [oa 3,om 0,oj 2 1,⟨.bin .eql false (.l 2) (.c (.str ⟨#[46]⟩)),none,some (.l 1,true),[]⟩,V1 8 1 3],.cond (.v 8) (sq [.reg [obt 1],ko]) kc],sq [.reg [oa 3,odu 0,om 1,N2 2 2,⟨.bin .eql false (.l 3) (.c (.str ⟨#[]⟩)),none,some (.l 2,false),[]⟩,U9 2 4,om 5,N2 2 6,odh 7 6,⟨.bin .rem false (.l 8) (oi 2),none,some (.l 6,false),[]⟩,⟨.bin .neq false (.l 9) (oi 0),none,some (.l 6,false),[]⟩,W9 9 6 10],.cond (.v 9) (sq [kai 0 0 2 1 1 2,.reg [obt 1],ko]) kc],ku 4,sq [kj 5 0,.block 0 (.loop (sq [sq [.reg [oa 5,oa 2,obp 1,oas 10 0 2],B9 10 0],.block 1 (sq [.reg [oa 2,oa 5,ocg 0 1,ofc 105 2 0 0,oa 2,oa 5,oaf 5 1,ocg 4 6,ofc 105 7 0 0,oc 6 3,oc 7 8],sq [.reg [oa 6,ocp 0 0,om 1,N2 7 2,obs 3 0 2,W9 11 2 4],.cond (.v 11) (sq [kai 0 0 2 1 1 2,.reg [obt 1],ko]) kc],.reg [oa 4,oa 6,oq (.bin .shl false (.l 1) (.c (.int .u64 4))),oa 7,oq (.bin .or false (.l 2) (.l 3)),oex 4,ocw 9 1 0 0 5,J3 10 1 1 1 0 6,oc 4 7]]),kh 5 0 2 5 1]))],.reg [oa 4,oq (.convStr (.l 0)),oc 1 1],ko]⟩
def X69:u9:=
 ⟨15,[0,2],9,[(1,none)],sq [kk 1,.reg [oa 0,C7 0,ok 2 1,ob 1 2,odu 3,om 4,oj 0 5,obe 6 5,oaw 0 7 5,oaw 1 8 5,oe 1 9 5,ot 5 10,oc 1 11],ko]⟩
def X70:u9:=
 ⟨23,[0,1,4,5,19],9,[],sq [.reg [oa 0,C7 0,ok 0 1,obj 103 2,om 3,oy 4 0,oy 4 1,oc 2 5,oc 3 6],.reg [oa 3,odu 0,om 1,N2 2 2,N2 1 2,odl 3 4 2,W9 4 2 5],.cond (.v 4) (kai 0 0 2 1 1 2) kc]⟩
theorem c103:L9 Tryz.prog 103 9=some a7F:=by kernel_rfl
theorem c66:L9 Tryz.prog 66 9=some X66:=by kernel_rfl
theorem c67:L9 Tryz.prog 67 9=some {X67 with body:=strip X67.body}:=by kernel_rfl
theorem c68:L9 Tryz.prog 68 9=some X68:=by kernel_rfl
theorem c69:L9 Tryz.prog 69 9=some X69:=by kernel_rfl
theorem c70:L9 Tryz.prog 70 9=some X70:=by kernel_rfl
def X28:u9:=
 ⟨35,[0,1,4,5,6],9,[(2,none)],sq [kk 2,.reg [oa 1,oq (.build [.str ⟨#[]⟩,.bool false] [(0,1,.l 0)]),oq (.build [.str ⟨#[]⟩,.bool false,.bool false] [(0,2,.l 1)]),ow 3 (.alloc 5 [.str ⟨#[]⟩,.bool false,.bool false]),og 3 3 2],.reg [oat 4 6 0 0 0 0],.reg [ocl 66 3 999,od 4 4,og 1 1 0],.reg [ocl 66 3 999,od 5 4,og 1 1 0],.reg [ocl 66 3 255,oex 0,od 2 4,og 1 2 1],.reg [ocl 66 3 255,oex 0,od 3 4,og 1 2 1],.reg [oee 67 3,od 1 4,og 1 1 0],.reg [oee 68 3,od 0 4,og 1 1 0],.reg [obv 0 7 8,M9 0 7,ocx 1 7,ock 2 2 7,Q7 1 3 7,oo 6 4,ocr 7 6 0 0 0 0 0 5,J3 8 6 64 1 4 6,C7 0,ok 2 8,og 1 9 7],.reg [oee 69 3,oc 2 0],ko]⟩
def X29:u9:=
 ⟨21,[0,1,4,5],6,[(2,none)],sq [kk 2,.reg [oa 1,oq (.build [.str ⟨#[]⟩,.bool false] [(0,1,.l 0)]),oq (.build [.str ⟨#[]⟩,.bool false,.bool false] [(0,2,.l 1)]),ow 3 (.alloc 5 [.str ⟨#[]⟩,.bool false,.bool false]),og 3 3 2],.reg [oq (.callv (.c (.fn (.func 70) [] [])) [.v 3,.c (.str ⟨#[109,111,100,101,115]⟩)])],.reg [oa 0,ocl 66 3 999,C7 0,ok 0 2,og 1 3 1],.reg [oq (.callv (.c (.fn (.func 70) [] [])) [.v 3,.c (.str ⟨#[97,99,99,101,112,116]⟩)])],.reg [oa 0,ocl 66 3 255,oex 1,C7 0,ok 1 3,og 1 4 2],.reg [oee 69 3,oc 2 0],ko]⟩
theorem c28:L9 Tryz.prog 28 5=some X28:=by kernel_rfl
theorem c29:L9 Tryz.prog 29 5=some X29:=by kernel_rfl
def X7:u9:=
 ⟨51,[0,2,3,4,5,6,7,8,9,10,11,12,18,28,32,36,46],2,[(1,some (true,3)),(2,none),(3,none)],sq [.reg [oca 1 0 0 0,ov 2 0,ov 3 0],.reg [oca 4 1 0 0],.G4 4 (some 2) 2 6 (sq [sq [kj 5 0,.block 0 (.loop (sq [sq [.reg [oa 5,obz 0 0,om 1,N2 0 2,⟨.bin .neq false (.l 3) (.c (.str ⟨#[]⟩)),none,some (.l 2,false),[]⟩,W9 12 2 4],B9 12 0],.block 1 (sq [.reg [oa 0,oq (.call 27 [.l 0,.c (.str ⟨#[10]⟩)] [(0,0),(0,0),(0,0)] false),om 1,oy 2 0,oy 2 1,oy 2 2,oc 6 3,oc 7 4,oc 8 5],sq [kaf 8 13 0,.cond (.v 13) (sq [.reg [oq (.build [.int .i64 0,.int .u8 0,.nils] []),oa 5,L0 3 1 0,oc 2 1,ov 3 3],ko]) kc],.reg [ow 9 (.mv (.c (.fn (.func 28) [] [])))],sq [.reg [oa 5,odb 14 0 0],.cond (.v 14) (.reg [ow 9 (.mv (.c (.fn (.func 29) [] [])))]) kc],sq [.reg [oa 9,oa 6,oq (.cally (.l 0) [.v 4,.l 1]),obd 15 2],.cond (.v 15) (sq [.reg [oq (.build [.int .i64 0,.int .u8 0,.nils] []),oa 5,L0 3 1 0,oc 2 1,ov 3 3],ko]) kc],kf 7 0 0]),kh 5 0 1 5 1]))],sq [.reg [oo 3 4,oco 30 0 0 0 0 0,om 1,oy 2 0,oy 2 1,oc 10 3,oc 11 4],kag 11 16 0 0,.cond (.v 16) (sq [.reg [oq (.build [.int .i64 0,.int .u8 0,.nils] []),oa 10,oa 11,L0 3 1 0,oc 2 1,oc 3 2],ko]) kc],.reg [oo 3 4,L0 3 1 0,ov 2 0,ov 3 0],ko])]⟩
theorem c7:D3 7 X7:=D7
def X3:u9:=
 ⟨127,[0,1,2,4,5,6,7,8,9,11,12,14,15,17,18,20,21,23,24,26,50,52,79],12,[(3,none)],sq [.reg [H4 2 0 0,oh 3],.reg [oq (.call 4 [] [(0,0)] false),oc 4 0],.reg [oo 3 2,oq (.call 5 [.l 0] [(0,0),(0,0),(1,6)] false),oca 5 2 0 0,og 3 2 1],.G6 [(1,true),(2,false)] (.reg [oo 3 5,oa 1,odp 6 0 1 0 0 0 0,om 2,oy 3 0,oy 3 1,oc 6 4,oc 7 5]),.reg [oo 3 5,Y4 8 0 0 0,oq (.call 7 [.l 1] [(0,0),(0,0),(3,6),(0,0),(0,0)] false),om 2,oy 3 0,oy 3 1,oy 3 2,oca 8 4 0 0,og 3 7 4,om 5,oc 9 6],sq [.G6 [(3,true),(4,false)] (.reg [oa 9,oq (.bin .neq false (.l 0) (oi 0)),om 1,oep 3 5 2,oep 3 8 2,odz 9 3 4 0 0 2,oel 5 2,W9 20 2 6]),.cond (.v 20) (kaq 3) kc],sq [kaf 7 21 0,.cond (.v 21) (sq [kf 4 3 0,ko]) kc],.reg [oo 3 5,oa 6,oq (.call 10 [.l 0,.l 1] [(5,1),(6,1),(0,0),(0,0)] false),om 2,oy 3 0,oy 3 1,oy 3 2,oej 10 7,og 2 7 4,om 5,oc 11 6],.reg [oo 3 8,oa 6,oq (.call 10 [.l 0,.l 1] [(8,1),(9,1),(0,0),(0,0)] false),om 2,oy 3 0,oy 3 1,oy 3 2,oej 12 10,og 2 7 4,om 5,oc 13 6],sq [.reg [oa 11,oq (.bin .neq false (.l 0) (oi 0)),om 1,N2 13 2,⟨.bin .neq false (.l 3) (oi 0),none,some (.l 2,false),[]⟩,U9 2 4,om 5,oep 2 10 6,oep 2 12 6,odz 11 7 8 0 0 6,oel 9 6,W9 22 6 10],.cond (.v 22) (kaq 3) kc],.reg [od 0 10,ob 1 0,Y4 13 1 0 0,oq (.call 12 [.l 2] [(11,1),(0,0),(0,0)] false),om 3,oy 4 0,oy 4 1,oy 4 2,oc 14 5,om 6,oc 15 7],.reg [oo 3 5,oa 14,oq (.call 14 [.l 0,.l 1] [(0,0),(0,0),(0,0)] false),om 2,oy 3 0,oy 3 1,oy 3 2,oc 16 4,om 5,oc 17 6],.reg [oo 3 8,od 0 10,ob 1 1,oq (.call 14 [.l 0,.l 2] [(0,0),(0,0),(0,0)] false),om 3,oy 4 0,oy 4 1,oy 4 2,oc 18 5,om 6,oc 19 7],.reg [oa 4,om 0,oj 15 1,obx 2 0 1,ot 1 3,om 4,oj 14 5,ou 0 10 5,oe 1 7 5,obb 15 6 8 0 0 5,ot 5 9,om 10,oj 17 11,obx 12 0 11,ot 11 13,om 14,oj 19 15,obx 16 0 15,ot 15 17,om 18,oj 16 19,oj 18 19,obc 20 21 19,ot 19 22,oc 3 23],ko]⟩
theorem c3:D3 3 X3:=D7
end Go.Proofs.YtmhbdebagfhimaaGreatDoor.T
