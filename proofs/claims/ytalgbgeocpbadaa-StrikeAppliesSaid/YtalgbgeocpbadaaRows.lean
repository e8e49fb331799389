/-
  No cell of these rows narrows 'for every input' (looked for: loops, veiled, ifaces, maps, wideKeys, modest, calm, conditions, laid).
  DERIVED. THE GIVEN ROWS OF THIS SEAT. 5 by the template 'for every input the law returns true; each argument reads behind the call as it read before'; 0 by the template 'total and deterministic' (their statements: YtalgbgeocpbadaaTotals.lean).
  GIVEN WITH THE SEED: the statements are not yours to turn. If you find one false, say at which input.
  Laid BY PROGRAM, IN A SANDBOX (cutbox-rows.mjs): the forced cells as the released guide's own fill.sh prints them over the translation 0963de752cac9ec1… (all of the seat's roots in one cut). By AI agents, Wed Nov 11 2026. No macro, syntax, notation, axiom, sorry.
-/
import Derived.Test.YtalgbgeocpbadaaChecked
import GoSem.Claim
import GoSem.ClaimJoined
import GoSem.ClaimMapViews
import Derived.JoinedTies
import Derived.KernelRfl
namespace Go.Proofs.Ytalgbgeocpbadaa
/- THE CELL 'sum', in the pinned program and in every row, IS THE sha256 OF THE DUMP (.gsa) THAT YtalgbgeocpbadaaProg.lean LOADS. Nothing in Lean hashes anything: it is a label: what it is worth is what the hold of that sum in a sandbox is worth. -/
noncomputable def Try.pinned : Pinned := { name := "ytalgbgeocpbadaa", sum := "0963de752cac9ec19f54db8c6e11d0b3a525fa011bd4320650405b0d43c63103", checked := Try.checked }
namespace Rows
def none {H : Type} : Left H := { results := [], args := [] }

/-- 'sixdotlaw26.StrikeMatchesReference': WHATEVER THE INPUT: true; the input reads as it did. -/
def strikeMatchesReferenceSpec : ChangeSpec := { name := "strikeMatchesReference", fn := fun _ => fun
  | [d1, d2, d3] => { results := [.lit (.bool true)], args := [d1, d2, d3] }
  | _ => none }
def strikeMatchesReferenceRow : OpenClaim := { program := "ytalgbgeocpbadaa", sum := "0963de752cac9ec19f54db8c6e11d0b3a525fa011bd4320650405b0d43c63103", func := "sixdot/sixdotlaw26.StrikeMatchesReference", spec := "strikeMatchesReference", unfollowed := true, recurses := true, apart := false }
def StrikeMatchesReferenceSaid : Prop := strikeMatchesReferenceRow.holds Try.pinned (OpenSpec.ofChange strikeMatchesReferenceSpec)

/-- ITS FALSE NEIGHBOUR: 'it returns false'. Refute it at one input. -/
def strikeMatchesReferenceWrong : ChangeSpec := { name := "strikeMatchesReference", fn := fun _ => fun
  | [d1, d2, d3] => { results := [.lit (.bool false)], args := [d1, d2, d3] }
  | _ => none }
def StrikeMatchesReferenceWrongFalsely : Prop := strikeMatchesReferenceRow.holds Try.pinned (OpenSpec.ofChange strikeMatchesReferenceWrong)

/-- 'sixdotlaw26.StrikeRaises': WHATEVER THE INPUT: true; the input reads as it did. -/
def strikeRaisesSpec : ChangeSpec := { name := "strikeRaises", fn := fun _ => fun
  | [d1, d2] => { results := [.lit (.bool true)], args := [d1, d2] }
  | _ => none }
def strikeRaisesRow : OpenClaim := { program := "ytalgbgeocpbadaa", sum := "0963de752cac9ec19f54db8c6e11d0b3a525fa011bd4320650405b0d43c63103", func := "sixdot/sixdotlaw26.StrikeRaises", spec := "strikeRaises", unfollowed := true, recurses := true, apart := false }
def StrikeRaisesSaid : Prop := strikeRaisesRow.holds Try.pinned (OpenSpec.ofChange strikeRaisesSpec)

/-- ITS FALSE NEIGHBOUR: 'it returns false'. Refute it at one input. -/
def strikeRaisesWrong : ChangeSpec := { name := "strikeRaises", fn := fun _ => fun
  | [d1, d2] => { results := [.lit (.bool false)], args := [d1, d2] }
  | _ => none }
def StrikeRaisesWrongFalsely : Prop := strikeRaisesRow.holds Try.pinned (OpenSpec.ofChange strikeRaisesWrong)

/-- 'sixdotlaw26.StrikeFewest': WHATEVER THE INPUT: true; the input reads as it did. -/
def strikeFewestSpec : ChangeSpec := { name := "strikeFewest", fn := fun _ => fun
  | [d1, d2] => { results := [.lit (.bool true)], args := [d1, d2] }
  | _ => none }
def strikeFewestRow : OpenClaim := { program := "ytalgbgeocpbadaa", sum := "0963de752cac9ec19f54db8c6e11d0b3a525fa011bd4320650405b0d43c63103", func := "sixdot/sixdotlaw26.StrikeFewest", spec := "strikeFewest", unfollowed := true, recurses := true, apart := false }
def StrikeFewestSaid : Prop := strikeFewestRow.holds Try.pinned (OpenSpec.ofChange strikeFewestSpec)

/-- ITS FALSE NEIGHBOUR: 'it returns false'. Refute it at one input. -/
def strikeFewestWrong : ChangeSpec := { name := "strikeFewest", fn := fun _ => fun
  | [d1, d2] => { results := [.lit (.bool false)], args := [d1, d2] }
  | _ => none }
def StrikeFewestWrongFalsely : Prop := strikeFewestRow.holds Try.pinned (OpenSpec.ofChange strikeFewestWrong)

/-- 'sixdotlaw26.StrikeApplies': WHATEVER THE INPUT: true; the input reads as it did. -/
def strikeAppliesSpec : ChangeSpec := { name := "strikeApplies", fn := fun _ => fun
  | [d1, d2, d3] => { results := [.lit (.bool true)], args := [d1, d2, d3] }
  | _ => none }
def strikeAppliesRow : OpenClaim := { program := "ytalgbgeocpbadaa", sum := "0963de752cac9ec19f54db8c6e11d0b3a525fa011bd4320650405b0d43c63103", func := "sixdot/sixdotlaw26.StrikeApplies", spec := "strikeApplies", unfollowed := true, recurses := true, apart := false }
def StrikeAppliesSaid : Prop := strikeAppliesRow.holds Try.pinned (OpenSpec.ofChange strikeAppliesSpec)

/-- ITS FALSE NEIGHBOUR: 'it returns false'. Refute it at one input. -/
def strikeAppliesWrong : ChangeSpec := { name := "strikeApplies", fn := fun _ => fun
  | [d1, d2, d3] => { results := [.lit (.bool false)], args := [d1, d2, d3] }
  | _ => none }
def StrikeAppliesWrongFalsely : Prop := strikeAppliesRow.holds Try.pinned (OpenSpec.ofChange strikeAppliesWrong)

/-- 'sixdotlaw26.StrikeJoins': WHATEVER THE INPUT: true; the input reads as it did. -/
def strikeJoinsSpec : ChangeSpec := { name := "strikeJoins", fn := fun _ => fun
  | [d1, d2, d3] => { results := [.lit (.bool true)], args := [d1, d2, d3] }
  | _ => none }
def strikeJoinsRow : OpenClaim := { program := "ytalgbgeocpbadaa", sum := "0963de752cac9ec19f54db8c6e11d0b3a525fa011bd4320650405b0d43c63103", func := "sixdot/sixdotlaw26.StrikeJoins", spec := "strikeJoins", unfollowed := true, recurses := true, apart := false }
def StrikeJoinsSaid : Prop := strikeJoinsRow.holds Try.pinned (OpenSpec.ofChange strikeJoinsSpec)

/-- ITS FALSE NEIGHBOUR: 'it returns false'. Refute it at one input. -/
def strikeJoinsWrong : ChangeSpec := { name := "strikeJoins", fn := fun _ => fun
  | [d1, d2, d3] => { results := [.lit (.bool false)], args := [d1, d2, d3] }
  | _ => none }
def StrikeJoinsWrongFalsely : Prop := strikeJoinsRow.holds Try.pinned (OpenSpec.ofChange strikeJoinsWrong)

/- THE SECOND FORM. 'bulk': how many values and letters a reading holds, each counted each time it is reached (what is shared counts as often as it is met; a slice's spare places count too). A statement '..UptoSaid' is the law's where the arguments, and the package variables that the reading takes, are together of bulk at most 1048576: NARROWER than '..Said'. Prove '..Said' where nothing that the law and all that it calls make is longer than what came in: it says more and counts as full. Else prove '..UptoSaid'. A law counts once. -/
mutual
def uptoBulk {H : Type} : DataW H → Nat
  | .lit (.string bytes) => bytes.length + 1
  | .lit _ => 1
  | .nil => 1
  | .ptr d => uptoBulk d + 1
  | .slice elems spare => uptoBulkAll elems + uptoBulkAll spare + 1
  | .agg parts => uptoBulkAll parts + 1
  | .iface _ d => uptoBulk d + 1
  | .map entries => uptoBulkEntries entries + 1
  | .held _ => 1
def uptoBulkAll {H : Type} : List (DataW H) → Nat
  | [] => 0
  | d :: r => uptoBulk d + uptoBulkAll r
def uptoBulkEntries {H : Type} : List (Lit × DataW H) → Nat
  | [] => 0
  | x :: r => uptoBulkEntry x + uptoBulkEntries r
def uptoBulkEntry {H : Type} : Lit × DataW H → Nat
  | (.string bytes, d) => bytes.length + uptoBulk d + 1
  | (_, d) => uptoBulk d + 1
 end
def uptoSmall : (H : Type) → List (DataW H) → Bool := fun _ ds => decide (uptoBulkAll ds ≤ 1048576)
def OpenSpec.upto (s : _root_.Go.ChangeSpec) : _root_.Go.OpenSpec := { _root_.Go.OpenSpec.ofChange s with cond := some uptoSmall }

/-- 'sixdotlaw26.StrikeMatchesReference', WHERE WHAT IT READS IS OF BULK AT MOST 1048576: true; the input reads as it did. -/
def strikeMatchesReferenceUptoRow : OpenClaim := { program := "ytalgbgeocpbadaa", sum := "0963de752cac9ec19f54db8c6e11d0b3a525fa011bd4320650405b0d43c63103", func := "sixdot/sixdotlaw26.StrikeMatchesReference", spec := "strikeMatchesReference", unfollowed := true, recurses := true, apart := false, narrowed := true }
def StrikeMatchesReferenceUptoSaid : Prop := strikeMatchesReferenceUptoRow.holds Try.pinned (OpenSpec.upto strikeMatchesReferenceSpec)

/-- 'sixdotlaw26.StrikeRaises', WHERE WHAT IT READS IS OF BULK AT MOST 1048576: true; the input reads as it did. -/
def strikeRaisesUptoRow : OpenClaim := { program := "ytalgbgeocpbadaa", sum := "0963de752cac9ec19f54db8c6e11d0b3a525fa011bd4320650405b0d43c63103", func := "sixdot/sixdotlaw26.StrikeRaises", spec := "strikeRaises", unfollowed := true, recurses := true, apart := false, narrowed := true }
def StrikeRaisesUptoSaid : Prop := strikeRaisesUptoRow.holds Try.pinned (OpenSpec.upto strikeRaisesSpec)

/-- 'sixdotlaw26.StrikeFewest', WHERE WHAT IT READS IS OF BULK AT MOST 1048576: true; the input reads as it did. -/
def strikeFewestUptoRow : OpenClaim := { program := "ytalgbgeocpbadaa", sum := "0963de752cac9ec19f54db8c6e11d0b3a525fa011bd4320650405b0d43c63103", func := "sixdot/sixdotlaw26.StrikeFewest", spec := "strikeFewest", unfollowed := true, recurses := true, apart := false, narrowed := true }
def StrikeFewestUptoSaid : Prop := strikeFewestUptoRow.holds Try.pinned (OpenSpec.upto strikeFewestSpec)

/-- 'sixdotlaw26.StrikeApplies', WHERE WHAT IT READS IS OF BULK AT MOST 1048576: true; the input reads as it did. -/
def strikeAppliesUptoRow : OpenClaim := { program := "ytalgbgeocpbadaa", sum := "0963de752cac9ec19f54db8c6e11d0b3a525fa011bd4320650405b0d43c63103", func := "sixdot/sixdotlaw26.StrikeApplies", spec := "strikeApplies", unfollowed := true, recurses := true, apart := false, narrowed := true }
def StrikeAppliesUptoSaid : Prop := strikeAppliesUptoRow.holds Try.pinned (OpenSpec.upto strikeAppliesSpec)

/-- 'sixdotlaw26.StrikeJoins', WHERE WHAT IT READS IS OF BULK AT MOST 1048576: true; the input reads as it did. -/
def strikeJoinsUptoRow : OpenClaim := { program := "ytalgbgeocpbadaa", sum := "0963de752cac9ec19f54db8c6e11d0b3a525fa011bd4320650405b0d43c63103", func := "sixdot/sixdotlaw26.StrikeJoins", spec := "strikeJoins", unfollowed := true, recurses := true, apart := false, narrowed := true }
def StrikeJoinsUptoSaid : Prop := strikeJoinsUptoRow.holds Try.pinned (OpenSpec.upto strikeJoinsSpec)

end Rows
end Go.Proofs.Ytalgbgeocpbadaa
