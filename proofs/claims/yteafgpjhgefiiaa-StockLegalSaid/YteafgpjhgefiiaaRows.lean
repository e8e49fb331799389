/-
  No cell of these rows narrows 'for every input' (looked for: loops, veiled, ifaces, maps, wideKeys, modest, calm, conditions, laid).
  DERIVED. THE GIVEN ROWS OF THIS SEAT. 7 by the template 'for every input the law returns true; each argument reads behind the call as it read before'; 0 by the template 'total and deterministic' (their statements: YteafgpjhgefiiaaTotals.lean).
  GIVEN WITH THE SEED: the statements are not yours to turn. If you find one false, say at which input.
  Laid BY PROGRAM, IN A SANDBOX (cutbox-rows.mjs): the forced cells as the released guide's own fill.sh prints them over the translation 06c439d6caf81e6f… (all of the seat's roots in one cut). By AI agents, Wed Nov 11 2026. No macro, syntax, notation, axiom, sorry.
-/
import Derived.Test.YteafgpjhgefiiaaChecked
import GoSem.Claim
import GoSem.ClaimJoined
import GoSem.ClaimMapViews
import Derived.JoinedTies
import Derived.KernelRfl
namespace Go.Proofs.Yteafgpjhgefiiaa
/- THE CELL 'sum', in the pinned program and in every row, IS THE sha256 OF THE DUMP (.gsa) THAT YteafgpjhgefiiaaProg.lean LOADS. Nothing in Lean hashes anything: it is a label: what it is worth is what the hold of that sum in a sandbox is worth. -/
noncomputable def Try.pinned : Pinned := { name := "yteafgpjhgefiiaa", sum := "06c439d6caf81e6f33784d003ffb5bf88bd58f77c290f85441b9ec0b7baeb4d6", checked := Try.checked }
namespace Rows
def none {H : Type} : Left H := { results := [], args := [] }

/-- 'sixdotlaw30.StockMatchesReference': WHATEVER THE INPUT: true; the input reads as it did. -/
def stockMatchesReferenceSpec : ChangeSpec := { name := "stockMatchesReference", fn := fun _ => fun
  | [d1, d2, d3] => { results := [.lit (.bool true)], args := [d1, d2, d3] }
  | _ => none }
def stockMatchesReferenceRow : OpenClaim := { program := "yteafgpjhgefiiaa", sum := "06c439d6caf81e6f33784d003ffb5bf88bd58f77c290f85441b9ec0b7baeb4d6", func := "sixdot/sixdotlaw30.StockMatchesReference", spec := "stockMatchesReference", unfollowed := true, recurses := true, apart := false }
def StockMatchesReferenceSaid : Prop := stockMatchesReferenceRow.holds Try.pinned (OpenSpec.ofChange stockMatchesReferenceSpec)

/-- ITS FALSE NEIGHBOUR: 'it returns false'. Refute it at one input. -/
def stockMatchesReferenceWrong : ChangeSpec := { name := "stockMatchesReference", fn := fun _ => fun
  | [d1, d2, d3] => { results := [.lit (.bool false)], args := [d1, d2, d3] }
  | _ => none }
def StockMatchesReferenceWrongFalsely : Prop := stockMatchesReferenceRow.holds Try.pinned (OpenSpec.ofChange stockMatchesReferenceWrong)

/-- 'sixdotlaw30.StockFewest': WHATEVER THE INPUT: true; the input reads as it did. -/
def stockFewestSpec : ChangeSpec := { name := "stockFewest", fn := fun _ => fun
  | [d1, d2] => { results := [.lit (.bool true)], args := [d1, d2] }
  | _ => none }
def stockFewestRow : OpenClaim := { program := "yteafgpjhgefiiaa", sum := "06c439d6caf81e6f33784d003ffb5bf88bd58f77c290f85441b9ec0b7baeb4d6", func := "sixdot/sixdotlaw30.StockFewest", spec := "stockFewest", unfollowed := true, recurses := true, apart := false }
def StockFewestSaid : Prop := stockFewestRow.holds Try.pinned (OpenSpec.ofChange stockFewestSpec)

/-- ITS FALSE NEIGHBOUR: 'it returns false'. Refute it at one input. -/
def stockFewestWrong : ChangeSpec := { name := "stockFewest", fn := fun _ => fun
  | [d1, d2] => { results := [.lit (.bool false)], args := [d1, d2] }
  | _ => none }
def StockFewestWrongFalsely : Prop := stockFewestRow.holds Try.pinned (OpenSpec.ofChange stockFewestWrong)

/-- 'sixdotlaw30.StockOrders': WHATEVER THE INPUT: true; the input reads as it did. -/
def stockOrdersSpec : ChangeSpec := { name := "stockOrders", fn := fun _ => fun
  | [d1, d2, d3] => { results := [.lit (.bool true)], args := [d1, d2, d3] }
  | _ => none }
def stockOrdersRow : OpenClaim := { program := "yteafgpjhgefiiaa", sum := "06c439d6caf81e6f33784d003ffb5bf88bd58f77c290f85441b9ec0b7baeb4d6", func := "sixdot/sixdotlaw30.StockOrders", spec := "stockOrders", unfollowed := true, recurses := true, apart := false }
def StockOrdersSaid : Prop := stockOrdersRow.holds Try.pinned (OpenSpec.ofChange stockOrdersSpec)

/-- ITS FALSE NEIGHBOUR: 'it returns false'. Refute it at one input. -/
def stockOrdersWrong : ChangeSpec := { name := "stockOrders", fn := fun _ => fun
  | [d1, d2, d3] => { results := [.lit (.bool false)], args := [d1, d2, d3] }
  | _ => none }
def StockOrdersWrongFalsely : Prop := stockOrdersRow.holds Try.pinned (OpenSpec.ofChange stockOrdersWrong)

/-- 'sixdotlaw30.StockTakes': WHATEVER THE INPUT: true; the input reads as it did. -/
def stockTakesSpec : ChangeSpec := { name := "stockTakes", fn := fun _ => fun
  | [d1, d2] => { results := [.lit (.bool true)], args := [d1, d2] }
  | _ => none }
def stockTakesRow : OpenClaim := { program := "yteafgpjhgefiiaa", sum := "06c439d6caf81e6f33784d003ffb5bf88bd58f77c290f85441b9ec0b7baeb4d6", func := "sixdot/sixdotlaw30.StockTakes", spec := "stockTakes", unfollowed := true, recurses := true, apart := false }
def StockTakesSaid : Prop := stockTakesRow.holds Try.pinned (OpenSpec.ofChange stockTakesSpec)

/-- ITS FALSE NEIGHBOUR: 'it returns false'. Refute it at one input. -/
def stockTakesWrong : ChangeSpec := { name := "stockTakes", fn := fun _ => fun
  | [d1, d2] => { results := [.lit (.bool false)], args := [d1, d2] }
  | _ => none }
def StockTakesWrongFalsely : Prop := stockTakesRow.holds Try.pinned (OpenSpec.ofChange stockTakesWrong)

/-- 'sixdotlaw30.StockParts': WHATEVER THE INPUT: true; the input reads as it did. -/
def stockPartsSpec : ChangeSpec := { name := "stockParts", fn := fun _ => fun
  | [d1, d2, d3] => { results := [.lit (.bool true)], args := [d1, d2, d3] }
  | _ => none }
def stockPartsRow : OpenClaim := { program := "yteafgpjhgefiiaa", sum := "06c439d6caf81e6f33784d003ffb5bf88bd58f77c290f85441b9ec0b7baeb4d6", func := "sixdot/sixdotlaw30.StockParts", spec := "stockParts", unfollowed := true, recurses := true, apart := false }
def StockPartsSaid : Prop := stockPartsRow.holds Try.pinned (OpenSpec.ofChange stockPartsSpec)

/-- ITS FALSE NEIGHBOUR: 'it returns false'. Refute it at one input. -/
def stockPartsWrong : ChangeSpec := { name := "stockParts", fn := fun _ => fun
  | [d1, d2, d3] => { results := [.lit (.bool false)], args := [d1, d2, d3] }
  | _ => none }
def StockPartsWrongFalsely : Prop := stockPartsRow.holds Try.pinned (OpenSpec.ofChange stockPartsWrong)

/-- 'sixdotlaw30.StockAdds': WHATEVER THE INPUT: true; the input reads as it did. -/
def stockAddsSpec : ChangeSpec := { name := "stockAdds", fn := fun _ => fun
  | [d1, d2, d3] => { results := [.lit (.bool true)], args := [d1, d2, d3] }
  | _ => none }
def stockAddsRow : OpenClaim := { program := "yteafgpjhgefiiaa", sum := "06c439d6caf81e6f33784d003ffb5bf88bd58f77c290f85441b9ec0b7baeb4d6", func := "sixdot/sixdotlaw30.StockAdds", spec := "stockAdds", unfollowed := true, recurses := true, apart := false }
def StockAddsSaid : Prop := stockAddsRow.holds Try.pinned (OpenSpec.ofChange stockAddsSpec)

/-- ITS FALSE NEIGHBOUR: 'it returns false'. Refute it at one input. -/
def stockAddsWrong : ChangeSpec := { name := "stockAdds", fn := fun _ => fun
  | [d1, d2, d3] => { results := [.lit (.bool false)], args := [d1, d2, d3] }
  | _ => none }
def StockAddsWrongFalsely : Prop := stockAddsRow.holds Try.pinned (OpenSpec.ofChange stockAddsWrong)

/-- 'sixdotlaw30.StockLegal': WHATEVER THE INPUT: true; the input reads as it did. -/
def stockLegalSpec : ChangeSpec := { name := "stockLegal", fn := fun _ => fun
  | [d1, d2, d3] => { results := [.lit (.bool true)], args := [d1, d2, d3] }
  | _ => none }
def stockLegalRow : OpenClaim := { program := "yteafgpjhgefiiaa", sum := "06c439d6caf81e6f33784d003ffb5bf88bd58f77c290f85441b9ec0b7baeb4d6", func := "sixdot/sixdotlaw30.StockLegal", spec := "stockLegal", unfollowed := true, recurses := true, apart := false }
def StockLegalSaid : Prop := stockLegalRow.holds Try.pinned (OpenSpec.ofChange stockLegalSpec)

/-- ITS FALSE NEIGHBOUR: 'it returns false'. Refute it at one input. -/
def stockLegalWrong : ChangeSpec := { name := "stockLegal", fn := fun _ => fun
  | [d1, d2, d3] => { results := [.lit (.bool false)], args := [d1, d2, d3] }
  | _ => none }
def StockLegalWrongFalsely : Prop := stockLegalRow.holds Try.pinned (OpenSpec.ofChange stockLegalWrong)

/- THE SECOND FORM. 'bulk': how many values and letters a reading holds, each counted each time it is reached (what is shared counts as often as it is met; a slice's spare places count too). A statement '..UptoSaid' is the law's where the arguments, and the package variables that the reading takes, are together of bulk at most 1048576: NARROWER than '..Said'. Prove '..Said' where nothing that the law and all that it calls make is longer than what came in: it says more and counts as full. Else prove '..UptoSaid'. A law counts once. -/
mutual
def uptoBulk {H : Type} : DataW H → Nat
  | .lit (.string bytes) => bytes.length + 1
  | .lit _ => 1
  | .nil => 1
  | .ptr d => uptoBulk d + 1
  | .slice elems spare => uptoBulkAll elems + uptoBulkAll spare + 1
  | .agg parts => uptoBulkAll parts + 1
  | .iface _ d => uptoBulk d + 1
  | .map entries => uptoBulkEntries entries + 1
  | .held _ => 1
def uptoBulkAll {H : Type} : List (DataW H) → Nat
  | [] => 0
  | d :: r => uptoBulk d + uptoBulkAll r
def uptoBulkEntries {H : Type} : List (Lit × DataW H) → Nat
  | [] => 0
  | x :: r => uptoBulkEntry x + uptoBulkEntries r
def uptoBulkEntry {H : Type} : Lit × DataW H → Nat
  | (.string bytes, d) => bytes.length + uptoBulk d + 1
  | (_, d) => uptoBulk d + 1
 end
def uptoSmall : (H : Type) → List (DataW H) → Bool := fun _ ds => decide (uptoBulkAll ds ≤ 1048576)
def OpenSpec.upto (s : _root_.Go.ChangeSpec) : _root_.Go.OpenSpec := { _root_.Go.OpenSpec.ofChange s with cond := some uptoSmall }

/-- 'sixdotlaw30.StockMatchesReference', WHERE WHAT IT READS IS OF BULK AT MOST 1048576: true; the input reads as it did. -/
def stockMatchesReferenceUptoRow : OpenClaim := { program := "yteafgpjhgefiiaa", sum := "06c439d6caf81e6f33784d003ffb5bf88bd58f77c290f85441b9ec0b7baeb4d6", func := "sixdot/sixdotlaw30.StockMatchesReference", spec := "stockMatchesReference", unfollowed := true, recurses := true, apart := false, narrowed := true }
def StockMatchesReferenceUptoSaid : Prop := stockMatchesReferenceUptoRow.holds Try.pinned (OpenSpec.upto stockMatchesReferenceSpec)

/-- 'sixdotlaw30.StockFewest', WHERE WHAT IT READS IS OF BULK AT MOST 1048576: true; the input reads as it did. -/
def stockFewestUptoRow : OpenClaim := { program := "yteafgpjhgefiiaa", sum := "06c439d6caf81e6f33784d003ffb5bf88bd58f77c290f85441b9ec0b7baeb4d6", func := "sixdot/sixdotlaw30.StockFewest", spec := "stockFewest", unfollowed := true, recurses := true, apart := false, narrowed := true }
def StockFewestUptoSaid : Prop := stockFewestUptoRow.holds Try.pinned (OpenSpec.upto stockFewestSpec)

/-- 'sixdotlaw30.StockOrders', WHERE WHAT IT READS IS OF BULK AT MOST 1048576: true; the input reads as it did. -/
def stockOrdersUptoRow : OpenClaim := { program := "yteafgpjhgefiiaa", sum := "06c439d6caf81e6f33784d003ffb5bf88bd58f77c290f85441b9ec0b7baeb4d6", func := "sixdot/sixdotlaw30.StockOrders", spec := "stockOrders", unfollowed := true, recurses := true, apart := false, narrowed := true }
def StockOrdersUptoSaid : Prop := stockOrdersUptoRow.holds Try.pinned (OpenSpec.upto stockOrdersSpec)

/-- 'sixdotlaw30.StockTakes', WHERE WHAT IT READS IS OF BULK AT MOST 1048576: true; the input reads as it did. -/
def stockTakesUptoRow : OpenClaim := { program := "yteafgpjhgefiiaa", sum := "06c439d6caf81e6f33784d003ffb5bf88bd58f77c290f85441b9ec0b7baeb4d6", func := "sixdot/sixdotlaw30.StockTakes", spec := "stockTakes", unfollowed := true, recurses := true, apart := false, narrowed := true }
def StockTakesUptoSaid : Prop := stockTakesUptoRow.holds Try.pinned (OpenSpec.upto stockTakesSpec)

/-- 'sixdotlaw30.StockParts', WHERE WHAT IT READS IS OF BULK AT MOST 1048576: true; the input reads as it did. -/
def stockPartsUptoRow : OpenClaim := { program := "yteafgpjhgefiiaa", sum := "06c439d6caf81e6f33784d003ffb5bf88bd58f77c290f85441b9ec0b7baeb4d6", func := "sixdot/sixdotlaw30.StockParts", spec := "stockParts", unfollowed := true, recurses := true, apart := false, narrowed := true }
def StockPartsUptoSaid : Prop := stockPartsUptoRow.holds Try.pinned (OpenSpec.upto stockPartsSpec)

/-- 'sixdotlaw30.StockAdds', WHERE WHAT IT READS IS OF BULK AT MOST 1048576: true; the input reads as it did. -/
def stockAddsUptoRow : OpenClaim := { program := "yteafgpjhgefiiaa", sum := "06c439d6caf81e6f33784d003ffb5bf88bd58f77c290f85441b9ec0b7baeb4d6", func := "sixdot/sixdotlaw30.StockAdds", spec := "stockAdds", unfollowed := true, recurses := true, apart := false, narrowed := true }
def StockAddsUptoSaid : Prop := stockAddsUptoRow.holds Try.pinned (OpenSpec.upto stockAddsSpec)

/-- 'sixdotlaw30.StockLegal', WHERE WHAT IT READS IS OF BULK AT MOST 1048576: true; the input reads as it did. -/
def stockLegalUptoRow : OpenClaim := { program := "yteafgpjhgefiiaa", sum := "06c439d6caf81e6f33784d003ffb5bf88bd58f77c290f85441b9ec0b7baeb4d6", func := "sixdot/sixdotlaw30.StockLegal", spec := "stockLegal", unfollowed := true, recurses := true, apart := false, narrowed := true }
def StockLegalUptoSaid : Prop := stockLegalUptoRow.holds Try.pinned (OpenSpec.upto stockLegalSpec)

end Rows
end Go.Proofs.Yteafgpjhgefiiaa
