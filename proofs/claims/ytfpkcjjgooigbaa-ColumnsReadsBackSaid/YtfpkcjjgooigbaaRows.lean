/-
  No cell of these rows narrows 'for every input' (looked for: loops, veiled, ifaces, maps, wideKeys, modest, calm, conditions, laid).
  DERIVED. THE GIVEN ROWS OF THIS SEAT. 5 by the template 'for every input the law returns true; each argument reads behind the call as it read before'; 0 by the template 'total and deterministic' (their statements: YtfpkcjjgooigbaaTotals.lean).
  GIVEN WITH THE SEED: the statements are not yours to turn. If you find one false, say at which input.
  Laid BY PROGRAM, IN A SANDBOX (cutbox-rows.mjs): the forced cells as the released guide's own fill.sh prints them over the translation 5c1547ebb0e1900f… (all of the seat's roots in one cut). By AI agents, Wed Nov 11 2026. No macro, syntax, notation, axiom, sorry.
-/
import Derived.Test.YtfpkcjjgooigbaaChecked
import GoSem.Claim
import GoSem.ClaimJoined
import GoSem.ClaimMapViews
import Derived.JoinedTies
import Derived.KernelRfl
namespace Go.Proofs.Ytfpkcjjgooigbaa
/- THE CELL 'sum', in the pinned program and in every row, IS THE sha256 OF THE DUMP (.gsa) THAT YtfpkcjjgooigbaaProg.lean LOADS. Nothing in Lean hashes anything: it is a label: what it is worth is what the hold of that sum in a sandbox is worth. -/
noncomputable def Try.pinned : Pinned := { name := "ytfpkcjjgooigbaa", sum := "5c1547ebb0e1900f567964b7d824b0409677bb0e0cdd44f02efe3c00321e85c4", checked := Try.checked }
namespace Rows
def none {H : Type} : Left H := { results := [], args := [] }

/-- 'sixdotlaw20.ColumnsMatchesReference': WHATEVER THE INPUT: true; the input reads as it did. -/
def columnsMatchesReferenceSpec : ChangeSpec := { name := "columnsMatchesReference", fn := fun _ => fun
  | [d1, d2, d3] => { results := [.lit (.bool true)], args := [d1, d2, d3] }
  | _ => none }
def columnsMatchesReferenceRow : OpenClaim := { program := "ytfpkcjjgooigbaa", sum := "5c1547ebb0e1900f567964b7d824b0409677bb0e0cdd44f02efe3c00321e85c4", func := "sixdot/sixdotlaw20.ColumnsMatchesReference", spec := "columnsMatchesReference", unfollowed := true, recurses := true, apart := false }
def ColumnsMatchesReferenceSaid : Prop := columnsMatchesReferenceRow.holds Try.pinned (OpenSpec.ofChange columnsMatchesReferenceSpec)

/-- ITS FALSE NEIGHBOUR: 'it returns false'. Refute it at one input. -/
def columnsMatchesReferenceWrong : ChangeSpec := { name := "columnsMatchesReference", fn := fun _ => fun
  | [d1, d2, d3] => { results := [.lit (.bool false)], args := [d1, d2, d3] }
  | _ => none }
def ColumnsMatchesReferenceWrongFalsely : Prop := columnsMatchesReferenceRow.holds Try.pinned (OpenSpec.ofChange columnsMatchesReferenceWrong)

/-- 'sixdotlaw20.ColumnsReadsBack': WHATEVER THE INPUT: true; the input reads as it did. -/
def columnsReadsBackSpec : ChangeSpec := { name := "columnsReadsBack", fn := fun _ => fun
  | [d1, d2] => { results := [.lit (.bool true)], args := [d1, d2] }
  | _ => none }
def columnsReadsBackRow : OpenClaim := { program := "ytfpkcjjgooigbaa", sum := "5c1547ebb0e1900f567964b7d824b0409677bb0e0cdd44f02efe3c00321e85c4", func := "sixdot/sixdotlaw20.ColumnsReadsBack", spec := "columnsReadsBack", unfollowed := true, recurses := true, apart := false }
def ColumnsReadsBackSaid : Prop := columnsReadsBackRow.holds Try.pinned (OpenSpec.ofChange columnsReadsBackSpec)

/-- ITS FALSE NEIGHBOUR: 'it returns false'. Refute it at one input. -/
def columnsReadsBackWrong : ChangeSpec := { name := "columnsReadsBack", fn := fun _ => fun
  | [d1, d2] => { results := [.lit (.bool false)], args := [d1, d2] }
  | _ => none }
def ColumnsReadsBackWrongFalsely : Prop := columnsReadsBackRow.holds Try.pinned (OpenSpec.ofChange columnsReadsBackWrong)

/-- 'sixdotlaw20.ColumnsLines': WHATEVER THE INPUT: true; the input reads as it did. -/
def columnsLinesSpec : ChangeSpec := { name := "columnsLines", fn := fun _ => fun
  | [d1, d2] => { results := [.lit (.bool true)], args := [d1, d2] }
  | _ => none }
def columnsLinesRow : OpenClaim := { program := "ytfpkcjjgooigbaa", sum := "5c1547ebb0e1900f567964b7d824b0409677bb0e0cdd44f02efe3c00321e85c4", func := "sixdot/sixdotlaw20.ColumnsLines", spec := "columnsLines", unfollowed := true, recurses := true, apart := false }
def ColumnsLinesSaid : Prop := columnsLinesRow.holds Try.pinned (OpenSpec.ofChange columnsLinesSpec)

/-- ITS FALSE NEIGHBOUR: 'it returns false'. Refute it at one input. -/
def columnsLinesWrong : ChangeSpec := { name := "columnsLines", fn := fun _ => fun
  | [d1, d2] => { results := [.lit (.bool false)], args := [d1, d2] }
  | _ => none }
def ColumnsLinesWrongFalsely : Prop := columnsLinesRow.holds Try.pinned (OpenSpec.ofChange columnsLinesWrong)

/-- 'sixdotlaw20.ColumnsWidens': WHATEVER THE INPUT: true; the input reads as it did. -/
def columnsWidensSpec : ChangeSpec := { name := "columnsWidens", fn := fun _ => fun
  | [d1, d2, d3] => { results := [.lit (.bool true)], args := [d1, d2, d3] }
  | _ => none }
def columnsWidensRow : OpenClaim := { program := "ytfpkcjjgooigbaa", sum := "5c1547ebb0e1900f567964b7d824b0409677bb0e0cdd44f02efe3c00321e85c4", func := "sixdot/sixdotlaw20.ColumnsWidens", spec := "columnsWidens", unfollowed := true, recurses := true, apart := false }
def ColumnsWidensSaid : Prop := columnsWidensRow.holds Try.pinned (OpenSpec.ofChange columnsWidensSpec)

/-- ITS FALSE NEIGHBOUR: 'it returns false'. Refute it at one input. -/
def columnsWidensWrong : ChangeSpec := { name := "columnsWidens", fn := fun _ => fun
  | [d1, d2, d3] => { results := [.lit (.bool false)], args := [d1, d2, d3] }
  | _ => none }
def ColumnsWidensWrongFalsely : Prop := columnsWidensRow.holds Try.pinned (OpenSpec.ofChange columnsWidensWrong)

/-- 'sixdotlaw20.ColumnsRows': WHATEVER THE INPUT: true; the input reads as it did. -/
def columnsRowsSpec : ChangeSpec := { name := "columnsRows", fn := fun _ => fun
  | [d1, d2, d3] => { results := [.lit (.bool true)], args := [d1, d2, d3] }
  | _ => none }
def columnsRowsRow : OpenClaim := { program := "ytfpkcjjgooigbaa", sum := "5c1547ebb0e1900f567964b7d824b0409677bb0e0cdd44f02efe3c00321e85c4", func := "sixdot/sixdotlaw20.ColumnsRows", spec := "columnsRows", unfollowed := true, recurses := true, apart := false }
def ColumnsRowsSaid : Prop := columnsRowsRow.holds Try.pinned (OpenSpec.ofChange columnsRowsSpec)

/-- ITS FALSE NEIGHBOUR: 'it returns false'. Refute it at one input. -/
def columnsRowsWrong : ChangeSpec := { name := "columnsRows", fn := fun _ => fun
  | [d1, d2, d3] => { results := [.lit (.bool false)], args := [d1, d2, d3] }
  | _ => none }
def ColumnsRowsWrongFalsely : Prop := columnsRowsRow.holds Try.pinned (OpenSpec.ofChange columnsRowsWrong)

/- THE SECOND FORM. 'bulk': how many values and letters a reading holds, each counted each time it is reached (what is shared counts as often as it is met; a slice's spare places count too). A statement '..UptoSaid' is the law's where the arguments, and the package variables that the reading takes, are together of bulk at most 1048576: NARROWER than '..Said'. Prove '..Said' where nothing that the law and all that it calls make is longer than what came in: it says more and counts as full. Else prove '..UptoSaid'. A law counts once. -/
mutual
def uptoBulk {H : Type} : DataW H → Nat
  | .lit (.string bytes) => bytes.length + 1
  | .lit _ => 1
  | .nil => 1
  | .ptr d => uptoBulk d + 1
  | .slice elems spare => uptoBulkAll elems + uptoBulkAll spare + 1
  | .agg parts => uptoBulkAll parts + 1
  | .iface _ d => uptoBulk d + 1
  | .map entries => uptoBulkEntries entries + 1
  | .held _ => 1
def uptoBulkAll {H : Type} : List (DataW H) → Nat
  | [] => 0
  | d :: r => uptoBulk d + uptoBulkAll r
def uptoBulkEntries {H : Type} : List (Lit × DataW H) → Nat
  | [] => 0
  | x :: r => uptoBulkEntry x + uptoBulkEntries r
def uptoBulkEntry {H : Type} : Lit × DataW H → Nat
  | (.string bytes, d) => bytes.length + uptoBulk d + 1
  | (_, d) => uptoBulk d + 1
 end
def uptoSmall : (H : Type) → List (DataW H) → Bool := fun _ ds => decide (uptoBulkAll ds ≤ 1048576)
def OpenSpec.upto (s : _root_.Go.ChangeSpec) : _root_.Go.OpenSpec := { _root_.Go.OpenSpec.ofChange s with cond := some uptoSmall }

/-- 'sixdotlaw20.ColumnsMatchesReference', WHERE WHAT IT READS IS OF BULK AT MOST 1048576: true; the input reads as it did. -/
def columnsMatchesReferenceUptoRow : OpenClaim := { program := "ytfpkcjjgooigbaa", sum := "5c1547ebb0e1900f567964b7d824b0409677bb0e0cdd44f02efe3c00321e85c4", func := "sixdot/sixdotlaw20.ColumnsMatchesReference", spec := "columnsMatchesReference", unfollowed := true, recurses := true, apart := false, narrowed := true }
def ColumnsMatchesReferenceUptoSaid : Prop := columnsMatchesReferenceUptoRow.holds Try.pinned (OpenSpec.upto columnsMatchesReferenceSpec)

/-- 'sixdotlaw20.ColumnsReadsBack', WHERE WHAT IT READS IS OF BULK AT MOST 1048576: true; the input reads as it did. -/
def columnsReadsBackUptoRow : OpenClaim := { program := "ytfpkcjjgooigbaa", sum := "5c1547ebb0e1900f567964b7d824b0409677bb0e0cdd44f02efe3c00321e85c4", func := "sixdot/sixdotlaw20.ColumnsReadsBack", spec := "columnsReadsBack", unfollowed := true, recurses := true, apart := false, narrowed := true }
def ColumnsReadsBackUptoSaid : Prop := columnsReadsBackUptoRow.holds Try.pinned (OpenSpec.upto columnsReadsBackSpec)

/-- 'sixdotlaw20.ColumnsLines', WHERE WHAT IT READS IS OF BULK AT MOST 1048576: true; the input reads as it did. -/
def columnsLinesUptoRow : OpenClaim := { program := "ytfpkcjjgooigbaa", sum := "5c1547ebb0e1900f567964b7d824b0409677bb0e0cdd44f02efe3c00321e85c4", func := "sixdot/sixdotlaw20.ColumnsLines", spec := "columnsLines", unfollowed := true, recurses := true, apart := false, narrowed := true }
def ColumnsLinesUptoSaid : Prop := columnsLinesUptoRow.holds Try.pinned (OpenSpec.upto columnsLinesSpec)

/-- 'sixdotlaw20.ColumnsWidens', WHERE WHAT IT READS IS OF BULK AT MOST 1048576: true; the input reads as it did. -/
def columnsWidensUptoRow : OpenClaim := { program := "ytfpkcjjgooigbaa", sum := "5c1547ebb0e1900f567964b7d824b0409677bb0e0cdd44f02efe3c00321e85c4", func := "sixdot/sixdotlaw20.ColumnsWidens", spec := "columnsWidens", unfollowed := true, recurses := true, apart := false, narrowed := true }
def ColumnsWidensUptoSaid : Prop := columnsWidensUptoRow.holds Try.pinned (OpenSpec.upto columnsWidensSpec)

/-- 'sixdotlaw20.ColumnsRows', WHERE WHAT IT READS IS OF BULK AT MOST 1048576: true; the input reads as it did. -/
def columnsRowsUptoRow : OpenClaim := { program := "ytfpkcjjgooigbaa", sum := "5c1547ebb0e1900f567964b7d824b0409677bb0e0cdd44f02efe3c00321e85c4", func := "sixdot/sixdotlaw20.ColumnsRows", spec := "columnsRows", unfollowed := true, recurses := true, apart := false, narrowed := true }
def ColumnsRowsUptoSaid : Prop := columnsRowsUptoRow.holds Try.pinned (OpenSpec.upto columnsRowsSpec)

end Rows
end Go.Proofs.Ytfpkcjjgooigbaa
