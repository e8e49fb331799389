/-
  No cell of these rows narrows 'for every input' (looked for: loops, veiled, ifaces, maps, wideKeys, modest, calm, conditions, laid).
  DERIVED. THE GIVEN ROWS OF THIS SEAT. 7 by the template 'for every input the law returns true; each argument reads behind the call as it read before'; 0 by the template 'total and deterministic' (their statements: YtgdcogoacnghkaaTotals.lean).
  GIVEN WITH THE SEED: the statements are not yours to turn. If you find one false, say at which input.
  Laid BY PROGRAM, IN A SANDBOX (cutbox-rows.mjs): the forced cells as the released guide's own fill.sh prints them over the translation 326cc436fee8c04f… (all of the seat's roots in one cut). By AI agents, Wed Nov 11 2026. No macro, syntax, notation, axiom, sorry.
-/
import Derived.Test.YtgdcogoacnghkaaChecked
import GoSem.Claim
import GoSem.ClaimJoined
import GoSem.ClaimMapViews
import Derived.JoinedTies
import Derived.KernelRfl
namespace Go.Proofs.Ytgdcogoacnghkaa
/- THE CELL 'sum', in the pinned program and in every row, IS THE sha256 OF THE DUMP (.gsa) THAT YtgdcogoacnghkaaProg.lean LOADS. Nothing in Lean hashes anything: it is a label: what it is worth is what the hold of that sum in a sandbox is worth. -/
noncomputable def Try.pinned : Pinned := { name := "ytgdcogoacnghkaa", sum := "326cc436fee8c04f99fc4cb56f0ad0ce21411f83984b8930b1d45c35e9da05ca", checked := Try.checked }
namespace Rows
def none {H : Type} : Left H := { results := [], args := [] }

/-- 'sixdotlaw27.MachineMatchesReference': WHATEVER THE INPUT: true; the input reads as it did. -/
def machineMatchesReferenceSpec : ChangeSpec := { name := "machineMatchesReference", fn := fun _ => fun
  | [d1, d2, d3] => { results := [.lit (.bool true)], args := [d1, d2, d3] }
  | _ => none }
def machineMatchesReferenceRow : OpenClaim := { program := "ytgdcogoacnghkaa", sum := "326cc436fee8c04f99fc4cb56f0ad0ce21411f83984b8930b1d45c35e9da05ca", func := "sixdot/sixdotlaw27.MachineMatchesReference", spec := "machineMatchesReference", unfollowed := true, recurses := true, apart := false }
def MachineMatchesReferenceSaid : Prop := machineMatchesReferenceRow.holds Try.pinned (OpenSpec.ofChange machineMatchesReferenceSpec)

/-- ITS FALSE NEIGHBOUR: 'it returns false'. Refute it at one input. -/
def machineMatchesReferenceWrong : ChangeSpec := { name := "machineMatchesReference", fn := fun _ => fun
  | [d1, d2, d3] => { results := [.lit (.bool false)], args := [d1, d2, d3] }
  | _ => none }
def MachineMatchesReferenceWrongFalsely : Prop := machineMatchesReferenceRow.holds Try.pinned (OpenSpec.ofChange machineMatchesReferenceWrong)

/-- 'sixdotlaw27.MachineGood': WHATEVER THE INPUT: true; the input reads as it did. -/
def machineGoodSpec : ChangeSpec := { name := "machineGood", fn := fun _ => fun
  | [d1, d2] => { results := [.lit (.bool true)], args := [d1, d2] }
  | _ => none }
def machineGoodRow : OpenClaim := { program := "ytgdcogoacnghkaa", sum := "326cc436fee8c04f99fc4cb56f0ad0ce21411f83984b8930b1d45c35e9da05ca", func := "sixdot/sixdotlaw27.MachineGood", spec := "machineGood", unfollowed := true, recurses := true, apart := false }
def MachineGoodSaid : Prop := machineGoodRow.holds Try.pinned (OpenSpec.ofChange machineGoodSpec)

/-- ITS FALSE NEIGHBOUR: 'it returns false'. Refute it at one input. -/
def machineGoodWrong : ChangeSpec := { name := "machineGood", fn := fun _ => fun
  | [d1, d2] => { results := [.lit (.bool false)], args := [d1, d2] }
  | _ => none }
def MachineGoodWrongFalsely : Prop := machineGoodRow.holds Try.pinned (OpenSpec.ofChange machineGoodWrong)

/-- 'sixdotlaw27.MachineStops': WHATEVER THE INPUT: true; the input reads as it did. -/
def machineStopsSpec : ChangeSpec := { name := "machineStops", fn := fun _ => fun
  | [d1, d2] => { results := [.lit (.bool true)], args := [d1, d2] }
  | _ => none }
def machineStopsRow : OpenClaim := { program := "ytgdcogoacnghkaa", sum := "326cc436fee8c04f99fc4cb56f0ad0ce21411f83984b8930b1d45c35e9da05ca", func := "sixdot/sixdotlaw27.MachineStops", spec := "machineStops", unfollowed := true, recurses := true, apart := false }
def MachineStopsSaid : Prop := machineStopsRow.holds Try.pinned (OpenSpec.ofChange machineStopsSpec)

/-- ITS FALSE NEIGHBOUR: 'it returns false'. Refute it at one input. -/
def machineStopsWrong : ChangeSpec := { name := "machineStops", fn := fun _ => fun
  | [d1, d2] => { results := [.lit (.bool false)], args := [d1, d2] }
  | _ => none }
def MachineStopsWrongFalsely : Prop := machineStopsRow.holds Try.pinned (OpenSpec.ofChange machineStopsWrong)

/-- 'sixdotlaw27.MachineWorn': WHATEVER THE INPUT: true; the input reads as it did. -/
def machineWornSpec : ChangeSpec := { name := "machineWorn", fn := fun _ => fun
  | [d1, d2, d3] => { results := [.lit (.bool true)], args := [d1, d2, d3] }
  | _ => none }
def machineWornRow : OpenClaim := { program := "ytgdcogoacnghkaa", sum := "326cc436fee8c04f99fc4cb56f0ad0ce21411f83984b8930b1d45c35e9da05ca", func := "sixdot/sixdotlaw27.MachineWorn", spec := "machineWorn", unfollowed := true, recurses := true, apart := false }
def MachineWornSaid : Prop := machineWornRow.holds Try.pinned (OpenSpec.ofChange machineWornSpec)

/-- ITS FALSE NEIGHBOUR: 'it returns false'. Refute it at one input. -/
def machineWornWrong : ChangeSpec := { name := "machineWorn", fn := fun _ => fun
  | [d1, d2, d3] => { results := [.lit (.bool false)], args := [d1, d2, d3] }
  | _ => none }
def MachineWornWrongFalsely : Prop := machineWornRow.holds Try.pinned (OpenSpec.ofChange machineWornWrong)

/-- 'sixdotlaw27.MachineSlips': WHATEVER THE INPUT: true; the input reads as it did. -/
def machineSlipsSpec : ChangeSpec := { name := "machineSlips", fn := fun _ => fun
  | [d1, d2] => { results := [.lit (.bool true)], args := [d1, d2] }
  | _ => none }
def machineSlipsRow : OpenClaim := { program := "ytgdcogoacnghkaa", sum := "326cc436fee8c04f99fc4cb56f0ad0ce21411f83984b8930b1d45c35e9da05ca", func := "sixdot/sixdotlaw27.MachineSlips", spec := "machineSlips", unfollowed := true, recurses := true, apart := false }
def MachineSlipsSaid : Prop := machineSlipsRow.holds Try.pinned (OpenSpec.ofChange machineSlipsSpec)

/-- ITS FALSE NEIGHBOUR: 'it returns false'. Refute it at one input. -/
def machineSlipsWrong : ChangeSpec := { name := "machineSlips", fn := fun _ => fun
  | [d1, d2] => { results := [.lit (.bool false)], args := [d1, d2] }
  | _ => none }
def MachineSlipsWrongFalsely : Prop := machineSlipsRow.holds Try.pinned (OpenSpec.ofChange machineSlipsWrong)

/-- 'sixdotlaw27.MachineScans': WHATEVER THE INPUT: true; the input reads as it did. -/
def machineScansSpec : ChangeSpec := { name := "machineScans", fn := fun _ => fun
  | [d1, d2, d3] => { results := [.lit (.bool true)], args := [d1, d2, d3] }
  | _ => none }
def machineScansRow : OpenClaim := { program := "ytgdcogoacnghkaa", sum := "326cc436fee8c04f99fc4cb56f0ad0ce21411f83984b8930b1d45c35e9da05ca", func := "sixdot/sixdotlaw27.MachineScans", spec := "machineScans", unfollowed := true, recurses := true, apart := false }
def MachineScansSaid : Prop := machineScansRow.holds Try.pinned (OpenSpec.ofChange machineScansSpec)

/-- ITS FALSE NEIGHBOUR: 'it returns false'. Refute it at one input. -/
def machineScansWrong : ChangeSpec := { name := "machineScans", fn := fun _ => fun
  | [d1, d2, d3] => { results := [.lit (.bool false)], args := [d1, d2, d3] }
  | _ => none }
def MachineScansWrongFalsely : Prop := machineScansRow.holds Try.pinned (OpenSpec.ofChange machineScansWrong)

/-- 'sixdotlaw27.MachineOrders': WHATEVER THE INPUT: true; the input reads as it did. -/
def machineOrdersSpec : ChangeSpec := { name := "machineOrders", fn := fun _ => fun
  | [d1, d2, d3] => { results := [.lit (.bool true)], args := [d1, d2, d3] }
  | _ => none }
def machineOrdersRow : OpenClaim := { program := "ytgdcogoacnghkaa", sum := "326cc436fee8c04f99fc4cb56f0ad0ce21411f83984b8930b1d45c35e9da05ca", func := "sixdot/sixdotlaw27.MachineOrders", spec := "machineOrders", unfollowed := true, recurses := true, apart := false }
def MachineOrdersSaid : Prop := machineOrdersRow.holds Try.pinned (OpenSpec.ofChange machineOrdersSpec)

/-- ITS FALSE NEIGHBOUR: 'it returns false'. Refute it at one input. -/
def machineOrdersWrong : ChangeSpec := { name := "machineOrders", fn := fun _ => fun
  | [d1, d2, d3] => { results := [.lit (.bool false)], args := [d1, d2, d3] }
  | _ => none }
def MachineOrdersWrongFalsely : Prop := machineOrdersRow.holds Try.pinned (OpenSpec.ofChange machineOrdersWrong)

/- THE SECOND FORM. 'bulk': how many values and letters a reading holds, each counted each time it is reached (what is shared counts as often as it is met; a slice's spare places count too). A statement '..UptoSaid' is the law's where the arguments, and the package variables that the reading takes, are together of bulk at most 1048576: NARROWER than '..Said'. Prove '..Said' where nothing that the law and all that it calls make is longer than what came in: it says more and counts as full. Else prove '..UptoSaid'. A law counts once. -/
mutual
def uptoBulk {H : Type} : DataW H → Nat
  | .lit (.string bytes) => bytes.length + 1
  | .lit _ => 1
  | .nil => 1
  | .ptr d => uptoBulk d + 1
  | .slice elems spare => uptoBulkAll elems + uptoBulkAll spare + 1
  | .agg parts => uptoBulkAll parts + 1
  | .iface _ d => uptoBulk d + 1
  | .map entries => uptoBulkEntries entries + 1
  | .held _ => 1
def uptoBulkAll {H : Type} : List (DataW H) → Nat
  | [] => 0
  | d :: r => uptoBulk d + uptoBulkAll r
def uptoBulkEntries {H : Type} : List (Lit × DataW H) → Nat
  | [] => 0
  | x :: r => uptoBulkEntry x + uptoBulkEntries r
def uptoBulkEntry {H : Type} : Lit × DataW H → Nat
  | (.string bytes, d) => bytes.length + uptoBulk d + 1
  | (_, d) => uptoBulk d + 1
 end
def uptoSmall : (H : Type) → List (DataW H) → Bool := fun _ ds => decide (uptoBulkAll ds ≤ 1048576)
def OpenSpec.upto (s : _root_.Go.ChangeSpec) : _root_.Go.OpenSpec := { _root_.Go.OpenSpec.ofChange s with cond := some uptoSmall }

/-- 'sixdotlaw27.MachineMatchesReference', WHERE WHAT IT READS IS OF BULK AT MOST 1048576: true; the input reads as it did. -/
def machineMatchesReferenceUptoRow : OpenClaim := { program := "ytgdcogoacnghkaa", sum := "326cc436fee8c04f99fc4cb56f0ad0ce21411f83984b8930b1d45c35e9da05ca", func := "sixdot/sixdotlaw27.MachineMatchesReference", spec := "machineMatchesReference", unfollowed := true, recurses := true, apart := false, narrowed := true }
def MachineMatchesReferenceUptoSaid : Prop := machineMatchesReferenceUptoRow.holds Try.pinned (OpenSpec.upto machineMatchesReferenceSpec)

/-- 'sixdotlaw27.MachineGood', WHERE WHAT IT READS IS OF BULK AT MOST 1048576: true; the input reads as it did. -/
def machineGoodUptoRow : OpenClaim := { program := "ytgdcogoacnghkaa", sum := "326cc436fee8c04f99fc4cb56f0ad0ce21411f83984b8930b1d45c35e9da05ca", func := "sixdot/sixdotlaw27.MachineGood", spec := "machineGood", unfollowed := true, recurses := true, apart := false, narrowed := true }
def MachineGoodUptoSaid : Prop := machineGoodUptoRow.holds Try.pinned (OpenSpec.upto machineGoodSpec)

/-- 'sixdotlaw27.MachineStops', WHERE WHAT IT READS IS OF BULK AT MOST 1048576: true; the input reads as it did. -/
def machineStopsUptoRow : OpenClaim := { program := "ytgdcogoacnghkaa", sum := "326cc436fee8c04f99fc4cb56f0ad0ce21411f83984b8930b1d45c35e9da05ca", func := "sixdot/sixdotlaw27.MachineStops", spec := "machineStops", unfollowed := true, recurses := true, apart := false, narrowed := true }
def MachineStopsUptoSaid : Prop := machineStopsUptoRow.holds Try.pinned (OpenSpec.upto machineStopsSpec)

/-- 'sixdotlaw27.MachineWorn', WHERE WHAT IT READS IS OF BULK AT MOST 1048576: true; the input reads as it did. -/
def machineWornUptoRow : OpenClaim := { program := "ytgdcogoacnghkaa", sum := "326cc436fee8c04f99fc4cb56f0ad0ce21411f83984b8930b1d45c35e9da05ca", func := "sixdot/sixdotlaw27.MachineWorn", spec := "machineWorn", unfollowed := true, recurses := true, apart := false, narrowed := true }
def MachineWornUptoSaid : Prop := machineWornUptoRow.holds Try.pinned (OpenSpec.upto machineWornSpec)

/-- 'sixdotlaw27.MachineSlips', WHERE WHAT IT READS IS OF BULK AT MOST 1048576: true; the input reads as it did. -/
def machineSlipsUptoRow : OpenClaim := { program := "ytgdcogoacnghkaa", sum := "326cc436fee8c04f99fc4cb56f0ad0ce21411f83984b8930b1d45c35e9da05ca", func := "sixdot/sixdotlaw27.MachineSlips", spec := "machineSlips", unfollowed := true, recurses := true, apart := false, narrowed := true }
def MachineSlipsUptoSaid : Prop := machineSlipsUptoRow.holds Try.pinned (OpenSpec.upto machineSlipsSpec)

/-- 'sixdotlaw27.MachineScans', WHERE WHAT IT READS IS OF BULK AT MOST 1048576: true; the input reads as it did. -/
def machineScansUptoRow : OpenClaim := { program := "ytgdcogoacnghkaa", sum := "326cc436fee8c04f99fc4cb56f0ad0ce21411f83984b8930b1d45c35e9da05ca", func := "sixdot/sixdotlaw27.MachineScans", spec := "machineScans", unfollowed := true, recurses := true, apart := false, narrowed := true }
def MachineScansUptoSaid : Prop := machineScansUptoRow.holds Try.pinned (OpenSpec.upto machineScansSpec)

/-- 'sixdotlaw27.MachineOrders', WHERE WHAT IT READS IS OF BULK AT MOST 1048576: true; the input reads as it did. -/
def machineOrdersUptoRow : OpenClaim := { program := "ytgdcogoacnghkaa", sum := "326cc436fee8c04f99fc4cb56f0ad0ce21411f83984b8930b1d45c35e9da05ca", func := "sixdot/sixdotlaw27.MachineOrders", spec := "machineOrders", unfollowed := true, recurses := true, apart := false, narrowed := true }
def MachineOrdersUptoSaid : Prop := machineOrdersUptoRow.holds Try.pinned (OpenSpec.upto machineOrdersSpec)

end Rows
end Go.Proofs.Ytgdcogoacnghkaa
