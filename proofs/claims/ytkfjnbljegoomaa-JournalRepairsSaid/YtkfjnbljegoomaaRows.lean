/-
  No cell of these rows narrows 'for every input' (looked for: loops, veiled, ifaces, maps, wideKeys, modest, calm, conditions, laid).
  DERIVED. THE GIVEN ROWS OF THIS SEAT. 6 by the template 'for every input the law returns true; each argument reads behind the call as it read before'; 0 by the template 'total and deterministic' (their statements: YtkfjnbljegoomaaTotals.lean).
  GIVEN WITH THE SEED: the statements are not yours to turn. If you find one false, say at which input.
  Laid BY PROGRAM, IN A SANDBOX (cutbox-rows.mjs): the forced cells as the released guide's own fill.sh prints them over the translation 5af033e00882199d… (all of the seat's roots in one cut). By AI agents, Wed Nov 11 2026. No macro, syntax, notation, axiom, sorry.
-/
import Derived.Test.YtkfjnbljegoomaaChecked
import GoSem.Claim
import GoSem.ClaimJoined
import GoSem.ClaimMapViews
import Derived.JoinedTies
import Derived.KernelRfl
namespace Go.Proofs.Ytkfjnbljegoomaa
/- THE CELL 'sum', in the pinned program and in every row, IS THE sha256 OF THE DUMP (.gsa) THAT YtkfjnbljegoomaaProg.lean LOADS. Nothing in Lean hashes anything: it is a label: what it is worth is what the hold of that sum in a sandbox is worth. -/
noncomputable def Try.pinned : Pinned := { name := "ytkfjnbljegoomaa", sum := "5af033e00882199d41737819ba7bda305165be36f0f6cafcc4f03a95f19bf93a", checked := Try.checked }
namespace Rows
def none {H : Type} : Left H := { results := [], args := [] }

/-- 'sixdotlaw28.JournalMatchesReference': WHATEVER THE INPUT: true; the input reads as it did. -/
def journalMatchesReferenceSpec : ChangeSpec := { name := "journalMatchesReference", fn := fun _ => fun
  | [d1, d2] => { results := [.lit (.bool true)], args := [d1, d2] }
  | _ => none }
def journalMatchesReferenceRow : OpenClaim := { program := "ytkfjnbljegoomaa", sum := "5af033e00882199d41737819ba7bda305165be36f0f6cafcc4f03a95f19bf93a", func := "sixdot/sixdotlaw28.JournalMatchesReference", spec := "journalMatchesReference", unfollowed := true, recurses := true, apart := false }
def JournalMatchesReferenceSaid : Prop := journalMatchesReferenceRow.holds Try.pinned (OpenSpec.ofChange journalMatchesReferenceSpec)

/-- ITS FALSE NEIGHBOUR: 'it returns false'. Refute it at one input. -/
def journalMatchesReferenceWrong : ChangeSpec := { name := "journalMatchesReference", fn := fun _ => fun
  | [d1, d2] => { results := [.lit (.bool false)], args := [d1, d2] }
  | _ => none }
def JournalMatchesReferenceWrongFalsely : Prop := journalMatchesReferenceRow.holds Try.pinned (OpenSpec.ofChange journalMatchesReferenceWrong)

/-- 'sixdotlaw28.JournalReads': WHATEVER THE INPUT: true; the input reads as it did. -/
def journalReadsSpec : ChangeSpec := { name := "journalReads", fn := fun _ => fun
  | [d] => { results := [.lit (.bool true)], args := [d] }
  | _ => none }
def journalReadsRow : OpenClaim := { program := "ytkfjnbljegoomaa", sum := "5af033e00882199d41737819ba7bda305165be36f0f6cafcc4f03a95f19bf93a", func := "sixdot/sixdotlaw28.JournalReads", spec := "journalReads", unfollowed := true, recurses := true, apart := false }
def JournalReadsSaid : Prop := journalReadsRow.holds Try.pinned (OpenSpec.ofChange journalReadsSpec)

/-- ITS FALSE NEIGHBOUR: 'it returns false'. Refute it at one input. -/
def journalReadsWrong : ChangeSpec := { name := "journalReads", fn := fun _ => fun
  | [d] => { results := [.lit (.bool false)], args := [d] }
  | _ => none }
def JournalReadsWrongFalsely : Prop := journalReadsRow.holds Try.pinned (OpenSpec.ofChange journalReadsWrong)

/-- 'sixdotlaw28.JournalSurvivesCuts': WHATEVER THE INPUT: true; the input reads as it did. -/
def journalSurvivesCutsSpec : ChangeSpec := { name := "journalSurvivesCuts", fn := fun _ => fun
  | [d1, d2] => { results := [.lit (.bool true)], args := [d1, d2] }
  | _ => none }
def journalSurvivesCutsRow : OpenClaim := { program := "ytkfjnbljegoomaa", sum := "5af033e00882199d41737819ba7bda305165be36f0f6cafcc4f03a95f19bf93a", func := "sixdot/sixdotlaw28.JournalSurvivesCuts", spec := "journalSurvivesCuts", unfollowed := true, recurses := true, apart := false }
def JournalSurvivesCutsSaid : Prop := journalSurvivesCutsRow.holds Try.pinned (OpenSpec.ofChange journalSurvivesCutsSpec)

/-- ITS FALSE NEIGHBOUR: 'it returns false'. Refute it at one input. -/
def journalSurvivesCutsWrong : ChangeSpec := { name := "journalSurvivesCuts", fn := fun _ => fun
  | [d1, d2] => { results := [.lit (.bool false)], args := [d1, d2] }
  | _ => none }
def JournalSurvivesCutsWrongFalsely : Prop := journalSurvivesCutsRow.holds Try.pinned (OpenSpec.ofChange journalSurvivesCutsWrong)

/-- 'sixdotlaw28.JournalNoticesDamage': WHATEVER THE INPUT: true; the input reads as it did. -/
def journalNoticesDamageSpec : ChangeSpec := { name := "journalNoticesDamage", fn := fun _ => fun
  | [d1, d2, d3] => { results := [.lit (.bool true)], args := [d1, d2, d3] }
  | _ => none }
def journalNoticesDamageRow : OpenClaim := { program := "ytkfjnbljegoomaa", sum := "5af033e00882199d41737819ba7bda305165be36f0f6cafcc4f03a95f19bf93a", func := "sixdot/sixdotlaw28.JournalNoticesDamage", spec := "journalNoticesDamage", unfollowed := true, recurses := true, apart := false }
def JournalNoticesDamageSaid : Prop := journalNoticesDamageRow.holds Try.pinned (OpenSpec.ofChange journalNoticesDamageSpec)

/-- ITS FALSE NEIGHBOUR: 'it returns false'. Refute it at one input. -/
def journalNoticesDamageWrong : ChangeSpec := { name := "journalNoticesDamage", fn := fun _ => fun
  | [d1, d2, d3] => { results := [.lit (.bool false)], args := [d1, d2, d3] }
  | _ => none }
def JournalNoticesDamageWrongFalsely : Prop := journalNoticesDamageRow.holds Try.pinned (OpenSpec.ofChange journalNoticesDamageWrong)

/-- 'sixdotlaw28.JournalKnowsPlaces': WHATEVER THE INPUT: true; the input reads as it did. -/
def journalKnowsPlacesSpec : ChangeSpec := { name := "journalKnowsPlaces", fn := fun _ => fun
  | [d1, d2] => { results := [.lit (.bool true)], args := [d1, d2] }
  | _ => none }
def journalKnowsPlacesRow : OpenClaim := { program := "ytkfjnbljegoomaa", sum := "5af033e00882199d41737819ba7bda305165be36f0f6cafcc4f03a95f19bf93a", func := "sixdot/sixdotlaw28.JournalKnowsPlaces", spec := "journalKnowsPlaces", unfollowed := true, recurses := true, apart := false }
def JournalKnowsPlacesSaid : Prop := journalKnowsPlacesRow.holds Try.pinned (OpenSpec.ofChange journalKnowsPlacesSpec)

/-- ITS FALSE NEIGHBOUR: 'it returns false'. Refute it at one input. -/
def journalKnowsPlacesWrong : ChangeSpec := { name := "journalKnowsPlaces", fn := fun _ => fun
  | [d1, d2] => { results := [.lit (.bool false)], args := [d1, d2] }
  | _ => none }
def JournalKnowsPlacesWrongFalsely : Prop := journalKnowsPlacesRow.holds Try.pinned (OpenSpec.ofChange journalKnowsPlacesWrong)

/-- 'sixdotlaw28.JournalRepairs': WHATEVER THE INPUT: true; the input reads as it did. -/
def journalRepairsSpec : ChangeSpec := { name := "journalRepairs", fn := fun _ => fun
  | [d1, d2, d3] => { results := [.lit (.bool true)], args := [d1, d2, d3] }
  | _ => none }
def journalRepairsRow : OpenClaim := { program := "ytkfjnbljegoomaa", sum := "5af033e00882199d41737819ba7bda305165be36f0f6cafcc4f03a95f19bf93a", func := "sixdot/sixdotlaw28.JournalRepairs", spec := "journalRepairs", unfollowed := true, recurses := true, apart := false }
def JournalRepairsSaid : Prop := journalRepairsRow.holds Try.pinned (OpenSpec.ofChange journalRepairsSpec)

/-- ITS FALSE NEIGHBOUR: 'it returns false'. Refute it at one input. -/
def journalRepairsWrong : ChangeSpec := { name := "journalRepairs", fn := fun _ => fun
  | [d1, d2, d3] => { results := [.lit (.bool false)], args := [d1, d2, d3] }
  | _ => none }
def JournalRepairsWrongFalsely : Prop := journalRepairsRow.holds Try.pinned (OpenSpec.ofChange journalRepairsWrong)

/- THE SECOND FORM. 'bulk': how many values and letters a reading holds, each counted each time it is reached (what is shared counts as often as it is met; a slice's spare places count too). A statement '..UptoSaid' is the law's where the arguments, and the package variables that the reading takes, are together of bulk at most 1048576: NARROWER than '..Said'. Prove '..Said' where nothing that the law and all that it calls make is longer than what came in: it says more and counts as full. Else prove '..UptoSaid'. A law counts once. -/
mutual
def uptoBulk {H : Type} : DataW H → Nat
  | .lit (.string bytes) => bytes.length + 1
  | .lit _ => 1
  | .nil => 1
  | .ptr d => uptoBulk d + 1
  | .slice elems spare => uptoBulkAll elems + uptoBulkAll spare + 1
  | .agg parts => uptoBulkAll parts + 1
  | .iface _ d => uptoBulk d + 1
  | .map entries => uptoBulkEntries entries + 1
  | .held _ => 1
def uptoBulkAll {H : Type} : List (DataW H) → Nat
  | [] => 0
  | d :: r => uptoBulk d + uptoBulkAll r
def uptoBulkEntries {H : Type} : List (Lit × DataW H) → Nat
  | [] => 0
  | x :: r => uptoBulkEntry x + uptoBulkEntries r
def uptoBulkEntry {H : Type} : Lit × DataW H → Nat
  | (.string bytes, d) => bytes.length + uptoBulk d + 1
  | (_, d) => uptoBulk d + 1
 end
def uptoSmall : (H : Type) → List (DataW H) → Bool := fun _ ds => decide (uptoBulkAll ds ≤ 1048576)
def OpenSpec.upto (s : _root_.Go.ChangeSpec) : _root_.Go.OpenSpec := { _root_.Go.OpenSpec.ofChange s with cond := some uptoSmall }

/-- 'sixdotlaw28.JournalMatchesReference', WHERE WHAT IT READS IS OF BULK AT MOST 1048576: true; the input reads as it did. -/
def journalMatchesReferenceUptoRow : OpenClaim := { program := "ytkfjnbljegoomaa", sum := "5af033e00882199d41737819ba7bda305165be36f0f6cafcc4f03a95f19bf93a", func := "sixdot/sixdotlaw28.JournalMatchesReference", spec := "journalMatchesReference", unfollowed := true, recurses := true, apart := false, narrowed := true }
def JournalMatchesReferenceUptoSaid : Prop := journalMatchesReferenceUptoRow.holds Try.pinned (OpenSpec.upto journalMatchesReferenceSpec)

/-- 'sixdotlaw28.JournalReads', WHERE WHAT IT READS IS OF BULK AT MOST 1048576: true; the input reads as it did. -/
def journalReadsUptoRow : OpenClaim := { program := "ytkfjnbljegoomaa", sum := "5af033e00882199d41737819ba7bda305165be36f0f6cafcc4f03a95f19bf93a", func := "sixdot/sixdotlaw28.JournalReads", spec := "journalReads", unfollowed := true, recurses := true, apart := false, narrowed := true }
def JournalReadsUptoSaid : Prop := journalReadsUptoRow.holds Try.pinned (OpenSpec.upto journalReadsSpec)

/-- 'sixdotlaw28.JournalSurvivesCuts', WHERE WHAT IT READS IS OF BULK AT MOST 1048576: true; the input reads as it did. -/
def journalSurvivesCutsUptoRow : OpenClaim := { program := "ytkfjnbljegoomaa", sum := "5af033e00882199d41737819ba7bda305165be36f0f6cafcc4f03a95f19bf93a", func := "sixdot/sixdotlaw28.JournalSurvivesCuts", spec := "journalSurvivesCuts", unfollowed := true, recurses := true, apart := false, narrowed := true }
def JournalSurvivesCutsUptoSaid : Prop := journalSurvivesCutsUptoRow.holds Try.pinned (OpenSpec.upto journalSurvivesCutsSpec)

/-- 'sixdotlaw28.JournalNoticesDamage', WHERE WHAT IT READS IS OF BULK AT MOST 1048576: true; the input reads as it did. -/
def journalNoticesDamageUptoRow : OpenClaim := { program := "ytkfjnbljegoomaa", sum := "5af033e00882199d41737819ba7bda305165be36f0f6cafcc4f03a95f19bf93a", func := "sixdot/sixdotlaw28.JournalNoticesDamage", spec := "journalNoticesDamage", unfollowed := true, recurses := true, apart := false, narrowed := true }
def JournalNoticesDamageUptoSaid : Prop := journalNoticesDamageUptoRow.holds Try.pinned (OpenSpec.upto journalNoticesDamageSpec)

/-- 'sixdotlaw28.JournalKnowsPlaces', WHERE WHAT IT READS IS OF BULK AT MOST 1048576: true; the input reads as it did. -/
def journalKnowsPlacesUptoRow : OpenClaim := { program := "ytkfjnbljegoomaa", sum := "5af033e00882199d41737819ba7bda305165be36f0f6cafcc4f03a95f19bf93a", func := "sixdot/sixdotlaw28.JournalKnowsPlaces", spec := "journalKnowsPlaces", unfollowed := true, recurses := true, apart := false, narrowed := true }
def JournalKnowsPlacesUptoSaid : Prop := journalKnowsPlacesUptoRow.holds Try.pinned (OpenSpec.upto journalKnowsPlacesSpec)

/-- 'sixdotlaw28.JournalRepairs', WHERE WHAT IT READS IS OF BULK AT MOST 1048576: true; the input reads as it did. -/
def journalRepairsUptoRow : OpenClaim := { program := "ytkfjnbljegoomaa", sum := "5af033e00882199d41737819ba7bda305165be36f0f6cafcc4f03a95f19bf93a", func := "sixdot/sixdotlaw28.JournalRepairs", spec := "journalRepairs", unfollowed := true, recurses := true, apart := false, narrowed := true }
def JournalRepairsUptoSaid : Prop := journalRepairsUptoRow.holds Try.pinned (OpenSpec.upto journalRepairsSpec)

end Rows
end Go.Proofs.Ytkfjnbljegoomaa
