/-
  No cell of these rows narrows 'for every input' (looked for: loops, veiled, ifaces, maps, wideKeys, modest, calm, conditions, laid).
  DERIVED. THE GIVEN ROWS OF THIS SEAT. 4 by the template 'for every input the law returns true; each argument reads behind the call as it read before'; 0 by the template 'total and deterministic' (their statements: YtbhfgadikmfjdaaGreatTotals.lean).
  GIVEN WITH THE SEED: the statements are not yours to turn. If you find one false, say at which input.
  Laid BY PROGRAM, IN A SANDBOX (cutbox-rows.mjs): the forced cells as the released guide's own fill.sh prints them over the translation 064c58521a8e8742… (all of the seat's roots in one cut). By AI agents, Wed Nov 11 2026. No macro, syntax, notation, axiom, sorry.
-/
import Derived.Test.YtbhfgadikmfjdaaGreatChecked
import GoSem.Claim
import GoSem.ClaimJoined
import GoSem.ClaimMapViews
import Derived.JoinedTies
import Derived.KernelRfl
namespace Go.Proofs.YtbhfgadikmfjdaaGreat
/- THE CELL 'sum', in the pinned program and in every row, IS THE sha256 OF THE DUMP (.gsa) THAT YtbhfgadikmfjdaaGreatProg.lean LOADS. Nothing in Lean hashes anything: it is a label: what it is worth is what the hold of that sum in a sandbox is worth. -/
noncomputable def Tryz.pinned : Pinned := { name := "ytbhfgadikmfjdaagreat", sum := "064c58521a8e87427ab8fc8e5f7c1529ce016e1eb1f15a08dac405007460519c", checked := Tryz.checked }
namespace Rows
def none {H : Type} : Left H := { results := [], args := [] }

/-- 'sixdottop.TopFewerRulesStayAdmitted': WHATEVER THE INPUT: true; the input reads as it did. -/
def topFewerRulesStayAdmittedSpec : ChangeSpec := { name := "topFewerRulesStayAdmitted", fn := fun _ => fun
  | [d1, d2, d3] => { results := [.lit (.bool true)], args := [d1, d2, d3] }
  | _ => none }
def topFewerRulesStayAdmittedRow : OpenClaim := { program := "ytbhfgadikmfjdaagreat", sum := "064c58521a8e87427ab8fc8e5f7c1529ce016e1eb1f15a08dac405007460519c", func := "sixdot/sixdottop.TopFewerRulesStayAdmitted", spec := "topFewerRulesStayAdmitted", unfollowed := true, recurses := true, plainKeys := false, apart := false }
def TopFewerRulesStayAdmittedSaid : Prop := topFewerRulesStayAdmittedRow.holds Tryz.pinned (OpenSpec.ofChange topFewerRulesStayAdmittedSpec)

/-- ITS FALSE NEIGHBOUR: 'it returns false'. Refute it at one input. -/
def topFewerRulesStayAdmittedWrong : ChangeSpec := { name := "topFewerRulesStayAdmitted", fn := fun _ => fun
  | [d1, d2, d3] => { results := [.lit (.bool false)], args := [d1, d2, d3] }
  | _ => none }
def TopFewerRulesStayAdmittedWrongFalsely : Prop := topFewerRulesStayAdmittedRow.holds Tryz.pinned (OpenSpec.ofChange topFewerRulesStayAdmittedWrong)

/-- 'sixdottop.TopAdmittedTablesReadBack': WHATEVER THE INPUT: true; the input reads as it did. -/
def topAdmittedTablesReadBackSpec : ChangeSpec := { name := "topAdmittedTablesReadBack", fn := fun _ => fun
  | [d1, d2] => { results := [.lit (.bool true)], args := [d1, d2] }
  | _ => none }
def topAdmittedTablesReadBackRow : OpenClaim := { program := "ytbhfgadikmfjdaagreat", sum := "064c58521a8e87427ab8fc8e5f7c1529ce016e1eb1f15a08dac405007460519c", func := "sixdot/sixdottop.TopAdmittedTablesReadBack", spec := "topAdmittedTablesReadBack", unfollowed := true, recurses := true, plainKeys := false, apart := false }
def TopAdmittedTablesReadBackSaid : Prop := topAdmittedTablesReadBackRow.holds Tryz.pinned (OpenSpec.ofChange topAdmittedTablesReadBackSpec)

/-- ITS FALSE NEIGHBOUR: 'it returns false'. Refute it at one input. -/
def topAdmittedTablesReadBackWrong : ChangeSpec := { name := "topAdmittedTablesReadBack", fn := fun _ => fun
  | [d1, d2] => { results := [.lit (.bool false)], args := [d1, d2] }
  | _ => none }
def TopAdmittedTablesReadBackWrongFalsely : Prop := topAdmittedTablesReadBackRow.holds Tryz.pinned (OpenSpec.ofChange topAdmittedTablesReadBackWrong)

/-- 'sixdottop.TopRefusedTablesClash': WHATEVER THE INPUT: true; the input reads as it did. -/
def topRefusedTablesClashSpec : ChangeSpec := { name := "topRefusedTablesClash", fn := fun _ => fun
  | [d] => { results := [.lit (.bool true)], args := [d] }
  | _ => none }
def topRefusedTablesClashRow : OpenClaim := { program := "ytbhfgadikmfjdaagreat", sum := "064c58521a8e87427ab8fc8e5f7c1529ce016e1eb1f15a08dac405007460519c", func := "sixdot/sixdottop.TopRefusedTablesClash", spec := "topRefusedTablesClash", unfollowed := true, recurses := true, plainKeys := false, apart := false }
def TopRefusedTablesClashSaid : Prop := topRefusedTablesClashRow.holds Tryz.pinned (OpenSpec.ofChange topRefusedTablesClashSpec)

/-- ITS FALSE NEIGHBOUR: 'it returns false'. Refute it at one input. -/
def topRefusedTablesClashWrong : ChangeSpec := { name := "topRefusedTablesClash", fn := fun _ => fun
  | [d] => { results := [.lit (.bool false)], args := [d] }
  | _ => none }
def TopRefusedTablesClashWrongFalsely : Prop := topRefusedTablesClashRow.holds Tryz.pinned (OpenSpec.ofChange topRefusedTablesClashWrong)

/-- 'sixdottop.TopEditsAgree': WHATEVER THE INPUT: true; the input reads as it did. -/
def topEditsAgreeSpec : ChangeSpec := { name := "topEditsAgree", fn := fun _ => fun
  | [d1, d2, d3] => { results := [.lit (.bool true)], args := [d1, d2, d3] }
  | _ => none }
def topEditsAgreeRow : OpenClaim := { program := "ytbhfgadikmfjdaagreat", sum := "064c58521a8e87427ab8fc8e5f7c1529ce016e1eb1f15a08dac405007460519c", func := "sixdot/sixdottop.TopEditsAgree", spec := "topEditsAgree", unfollowed := true, recurses := true, plainKeys := false, apart := false }
def TopEditsAgreeSaid : Prop := topEditsAgreeRow.holds Tryz.pinned (OpenSpec.ofChange topEditsAgreeSpec)

/-- ITS FALSE NEIGHBOUR: 'it returns false'. Refute it at one input. -/
def topEditsAgreeWrong : ChangeSpec := { name := "topEditsAgree", fn := fun _ => fun
  | [d1, d2, d3] => { results := [.lit (.bool false)], args := [d1, d2, d3] }
  | _ => none }
def TopEditsAgreeWrongFalsely : Prop := topEditsAgreeRow.holds Tryz.pinned (OpenSpec.ofChange topEditsAgreeWrong)

/- THE SECOND FORM. 'bulk': how many values and letters a reading holds, each counted each time it is reached (what is shared counts as often as it is met; a slice's spare places count too). A statement '..UptoSaid' is the law's where the arguments, and the package variables that the reading takes, are together of bulk at most 1048576: NARROWER than '..Said'. Prove '..Said' where nothing that the law and all that it calls make is longer than what came in: it says more and counts as full. Else prove '..UptoSaid'. A law counts once. -/
mutual
def uptoBulk {H : Type} : DataW H → Nat
  | .lit (.string bytes) => bytes.length + 1
  | .lit _ => 1
  | .nil => 1
  | .ptr d => uptoBulk d + 1
  | .slice elems spare => uptoBulkAll elems + uptoBulkAll spare + 1
  | .agg parts => uptoBulkAll parts + 1
  | .iface _ d => uptoBulk d + 1
  | .map entries => uptoBulkEntries entries + 1
  | .held _ => 1
def uptoBulkAll {H : Type} : List (DataW H) → Nat
  | [] => 0
  | d :: r => uptoBulk d + uptoBulkAll r
def uptoBulkEntries {H : Type} : List (Lit × DataW H) → Nat
  | [] => 0
  | x :: r => uptoBulkEntry x + uptoBulkEntries r
def uptoBulkEntry {H : Type} : Lit × DataW H → Nat
  | (.string bytes, d) => bytes.length + uptoBulk d + 1
  | (_, d) => uptoBulk d + 1
 end
def uptoSmall : (H : Type) → List (DataW H) → Bool := fun _ ds => decide (uptoBulkAll ds ≤ 1048576)
def OpenSpec.upto (s : _root_.Go.ChangeSpec) : _root_.Go.OpenSpec := { _root_.Go.OpenSpec.ofChange s with cond := some uptoSmall }

/-- 'sixdottop.TopFewerRulesStayAdmitted', WHERE WHAT IT READS IS OF BULK AT MOST 1048576: true; the input reads as it did. -/
def topFewerRulesStayAdmittedUptoRow : OpenClaim := { program := "ytbhfgadikmfjdaagreat", sum := "064c58521a8e87427ab8fc8e5f7c1529ce016e1eb1f15a08dac405007460519c", func := "sixdot/sixdottop.TopFewerRulesStayAdmitted", spec := "topFewerRulesStayAdmitted", unfollowed := true, recurses := true, plainKeys := false, apart := false, narrowed := true }
def TopFewerRulesStayAdmittedUptoSaid : Prop := topFewerRulesStayAdmittedUptoRow.holds Tryz.pinned (OpenSpec.upto topFewerRulesStayAdmittedSpec)

/-- 'sixdottop.TopAdmittedTablesReadBack', WHERE WHAT IT READS IS OF BULK AT MOST 1048576: true; the input reads as it did. -/
def topAdmittedTablesReadBackUptoRow : OpenClaim := { program := "ytbhfgadikmfjdaagreat", sum := "064c58521a8e87427ab8fc8e5f7c1529ce016e1eb1f15a08dac405007460519c", func := "sixdot/sixdottop.TopAdmittedTablesReadBack", spec := "topAdmittedTablesReadBack", unfollowed := true, recurses := true, plainKeys := false, apart := false, narrowed := true }
def TopAdmittedTablesReadBackUptoSaid : Prop := topAdmittedTablesReadBackUptoRow.holds Tryz.pinned (OpenSpec.upto topAdmittedTablesReadBackSpec)

/-- 'sixdottop.TopRefusedTablesClash', WHERE WHAT IT READS IS OF BULK AT MOST 1048576: true; the input reads as it did. -/
def topRefusedTablesClashUptoRow : OpenClaim := { program := "ytbhfgadikmfjdaagreat", sum := "064c58521a8e87427ab8fc8e5f7c1529ce016e1eb1f15a08dac405007460519c", func := "sixdot/sixdottop.TopRefusedTablesClash", spec := "topRefusedTablesClash", unfollowed := true, recurses := true, plainKeys := false, apart := false, narrowed := true }
def TopRefusedTablesClashUptoSaid : Prop := topRefusedTablesClashUptoRow.holds Tryz.pinned (OpenSpec.upto topRefusedTablesClashSpec)

/-- 'sixdottop.TopEditsAgree', WHERE WHAT IT READS IS OF BULK AT MOST 1048576: true; the input reads as it did. -/
def topEditsAgreeUptoRow : OpenClaim := { program := "ytbhfgadikmfjdaagreat", sum := "064c58521a8e87427ab8fc8e5f7c1529ce016e1eb1f15a08dac405007460519c", func := "sixdot/sixdottop.TopEditsAgree", spec := "topEditsAgree", unfollowed := true, recurses := true, plainKeys := false, apart := false, narrowed := true }
def TopEditsAgreeUptoSaid : Prop := topEditsAgreeUptoRow.holds Tryz.pinned (OpenSpec.upto topEditsAgreeSpec)

end Rows
end Go.Proofs.YtbhfgadikmfjdaaGreat
