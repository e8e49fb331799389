/-
  No cell of these rows narrows 'for every input' (looked for: loops, veiled, ifaces, maps, wideKeys, modest, calm, conditions, laid).
  DERIVED. THE GIVEN ROWS OF THIS SEAT. 6 by the template 'for every input the law returns true; each argument reads behind the call as it read before'; 0 by the template 'total and deterministic' (their statements: YtnlapjkfbodbkaaTotals.lean).
  GIVEN WITH THE SEED: the statements are not yours to turn. If you find one false, say at which input.
  Laid BY PROGRAM, IN A SANDBOX (cutbox-rows.mjs): the forced cells as the released guide's own fill.sh prints them over the translation 5ae0f2824894e2ba… (all of the seat's roots in one cut). By AI agents, Wed Nov 11 2026. No macro, syntax, notation, axiom, sorry.
-/
import Derived.Test.YtnlapjkfbodbkaaChecked
import GoSem.Claim
import GoSem.ClaimJoined
import GoSem.ClaimMapViews
import Derived.JoinedTies
import Derived.KernelRfl
namespace Go.Proofs.Ytnlapjkfbodbkaa
/- THE CELL 'sum', in the pinned program and in every row, IS THE sha256 OF THE DUMP (.gsa) THAT YtnlapjkfbodbkaaProg.lean LOADS. Nothing in Lean hashes anything: it is a label: what it is worth is what the hold of that sum in a sandbox is worth. -/
noncomputable def Try.pinned : Pinned := { name := "ytnlapjkfbodbkaa", sum := "5ae0f2824894e2ba8bd50ff9d3bb0f7d82aaa42e18516272b3b021fd6cec8727", checked := Try.checked }
namespace Rows
def none {H : Type} : Left H := { results := [], args := [] }

/-- 'sixdotlaw18.LineMatchesReference': WHATEVER THE INPUT: true; the input reads as it did. -/
def lineMatchesReferenceSpec : ChangeSpec := { name := "lineMatchesReference", fn := fun _ => fun
  | [d1, d2, d3] => { results := [.lit (.bool true)], args := [d1, d2, d3] }
  | _ => none }
def lineMatchesReferenceRow : OpenClaim := { program := "ytnlapjkfbodbkaa", sum := "5ae0f2824894e2ba8bd50ff9d3bb0f7d82aaa42e18516272b3b021fd6cec8727", func := "sixdot/sixdotlaw18.LineMatchesReference", spec := "lineMatchesReference", apart := false }
def LineMatchesReferenceSaid : Prop := lineMatchesReferenceRow.holds Try.pinned (OpenSpec.ofChange lineMatchesReferenceSpec)

/-- ITS FALSE NEIGHBOUR: 'it returns false'. Refute it at one input. -/
def lineMatchesReferenceWrong : ChangeSpec := { name := "lineMatchesReference", fn := fun _ => fun
  | [d1, d2, d3] => { results := [.lit (.bool false)], args := [d1, d2, d3] }
  | _ => none }
def LineMatchesReferenceWrongFalsely : Prop := lineMatchesReferenceRow.holds Try.pinned (OpenSpec.ofChange lineMatchesReferenceWrong)

/-- 'sixdotlaw18.LineInverts': WHATEVER THE INPUT: true; the input reads as it did. -/
def lineInvertsSpec : ChangeSpec := { name := "lineInverts", fn := fun _ => fun
  | [d1, d2] => { results := [.lit (.bool true)], args := [d1, d2] }
  | _ => none }
def lineInvertsRow : OpenClaim := { program := "ytnlapjkfbodbkaa", sum := "5ae0f2824894e2ba8bd50ff9d3bb0f7d82aaa42e18516272b3b021fd6cec8727", func := "sixdot/sixdotlaw18.LineInverts", spec := "lineInverts", apart := false }
def LineInvertsSaid : Prop := lineInvertsRow.holds Try.pinned (OpenSpec.ofChange lineInvertsSpec)

/-- ITS FALSE NEIGHBOUR: 'it returns false'. Refute it at one input. -/
def lineInvertsWrong : ChangeSpec := { name := "lineInverts", fn := fun _ => fun
  | [d1, d2] => { results := [.lit (.bool false)], args := [d1, d2] }
  | _ => none }
def LineInvertsWrongFalsely : Prop := lineInvertsRow.holds Try.pinned (OpenSpec.ofChange lineInvertsWrong)

/-- 'sixdotlaw18.LineFits': WHATEVER THE INPUT: true; the input reads as it did. -/
def lineFitsSpec : ChangeSpec := { name := "lineFits", fn := fun _ => fun
  | [d1, d2] => { results := [.lit (.bool true)], args := [d1, d2] }
  | _ => none }
def lineFitsRow : OpenClaim := { program := "ytnlapjkfbodbkaa", sum := "5ae0f2824894e2ba8bd50ff9d3bb0f7d82aaa42e18516272b3b021fd6cec8727", func := "sixdot/sixdotlaw18.LineFits", spec := "lineFits", apart := false }
def LineFitsSaid : Prop := lineFitsRow.holds Try.pinned (OpenSpec.ofChange lineFitsSpec)

/-- ITS FALSE NEIGHBOUR: 'it returns false'. Refute it at one input. -/
def lineFitsWrong : ChangeSpec := { name := "lineFits", fn := fun _ => fun
  | [d1, d2] => { results := [.lit (.bool false)], args := [d1, d2] }
  | _ => none }
def LineFitsWrongFalsely : Prop := lineFitsRow.holds Try.pinned (OpenSpec.ofChange lineFitsWrong)

/-- 'sixdotlaw18.LineFewest': WHATEVER THE INPUT: true; the input reads as it did. -/
def lineFewestSpec : ChangeSpec := { name := "lineFewest", fn := fun _ => fun
  | [d1, d2] => { results := [.lit (.bool true)], args := [d1, d2] }
  | _ => none }
def lineFewestRow : OpenClaim := { program := "ytnlapjkfbodbkaa", sum := "5ae0f2824894e2ba8bd50ff9d3bb0f7d82aaa42e18516272b3b021fd6cec8727", func := "sixdot/sixdotlaw18.LineFewest", spec := "lineFewest", apart := false }
def LineFewestSaid : Prop := lineFewestRow.holds Try.pinned (OpenSpec.ofChange lineFewestSpec)

/-- ITS FALSE NEIGHBOUR: 'it returns false'. Refute it at one input. -/
def lineFewestWrong : ChangeSpec := { name := "lineFewest", fn := fun _ => fun
  | [d1, d2] => { results := [.lit (.bool false)], args := [d1, d2] }
  | _ => none }
def LineFewestWrongFalsely : Prop := lineFewestRow.holds Try.pinned (OpenSpec.ofChange lineFewestWrong)

/-- 'sixdotlaw18.LineGrows': WHATEVER THE INPUT: true; the input reads as it did. -/
def lineGrowsSpec : ChangeSpec := { name := "lineGrows", fn := fun _ => fun
  | [d1, d2, d3] => { results := [.lit (.bool true)], args := [d1, d2, d3] }
  | _ => none }
def lineGrowsRow : OpenClaim := { program := "ytnlapjkfbodbkaa", sum := "5ae0f2824894e2ba8bd50ff9d3bb0f7d82aaa42e18516272b3b021fd6cec8727", func := "sixdot/sixdotlaw18.LineGrows", spec := "lineGrows", apart := false }
def LineGrowsSaid : Prop := lineGrowsRow.holds Try.pinned (OpenSpec.ofChange lineGrowsSpec)

/-- ITS FALSE NEIGHBOUR: 'it returns false'. Refute it at one input. -/
def lineGrowsWrong : ChangeSpec := { name := "lineGrows", fn := fun _ => fun
  | [d1, d2, d3] => { results := [.lit (.bool false)], args := [d1, d2, d3] }
  | _ => none }
def LineGrowsWrongFalsely : Prop := lineGrowsRow.holds Try.pinned (OpenSpec.ofChange lineGrowsWrong)

/-- 'sixdotlaw18.LineJoins': WHATEVER THE INPUT: true; the input reads as it did. -/
def lineJoinsSpec : ChangeSpec := { name := "lineJoins", fn := fun _ => fun
  | [d1, d2, d3] => { results := [.lit (.bool true)], args := [d1, d2, d3] }
  | _ => none }
def lineJoinsRow : OpenClaim := { program := "ytnlapjkfbodbkaa", sum := "5ae0f2824894e2ba8bd50ff9d3bb0f7d82aaa42e18516272b3b021fd6cec8727", func := "sixdot/sixdotlaw18.LineJoins", spec := "lineJoins", apart := false }
def LineJoinsSaid : Prop := lineJoinsRow.holds Try.pinned (OpenSpec.ofChange lineJoinsSpec)

/-- ITS FALSE NEIGHBOUR: 'it returns false'. Refute it at one input. -/
def lineJoinsWrong : ChangeSpec := { name := "lineJoins", fn := fun _ => fun
  | [d1, d2, d3] => { results := [.lit (.bool false)], args := [d1, d2, d3] }
  | _ => none }
def LineJoinsWrongFalsely : Prop := lineJoinsRow.holds Try.pinned (OpenSpec.ofChange lineJoinsWrong)

/- THE SECOND FORM. 'bulk': how many values and letters a reading holds, each counted each time it is reached (what is shared counts as often as it is met; a slice's spare places count too). A statement '..UptoSaid' is the law's where the arguments, and the package variables that the reading takes, are together of bulk at most 1048576: NARROWER than '..Said'. Prove '..Said' where nothing that the law and all that it calls make is longer than what came in: it says more and counts as full. Else prove '..UptoSaid'. A law counts once. -/
mutual
def uptoBulk {H : Type} : DataW H → Nat
  | .lit (.string bytes) => bytes.length + 1
  | .lit _ => 1
  | .nil => 1
  | .ptr d => uptoBulk d + 1
  | .slice elems spare => uptoBulkAll elems + uptoBulkAll spare + 1
  | .agg parts => uptoBulkAll parts + 1
  | .iface _ d => uptoBulk d + 1
  | .map entries => uptoBulkEntries entries + 1
  | .held _ => 1
def uptoBulkAll {H : Type} : List (DataW H) → Nat
  | [] => 0
  | d :: r => uptoBulk d + uptoBulkAll r
def uptoBulkEntries {H : Type} : List (Lit × DataW H) → Nat
  | [] => 0
  | x :: r => uptoBulkEntry x + uptoBulkEntries r
def uptoBulkEntry {H : Type} : Lit × DataW H → Nat
  | (.string bytes, d) => bytes.length + uptoBulk d + 1
  | (_, d) => uptoBulk d + 1
 end
def uptoSmall : (H : Type) → List (DataW H) → Bool := fun _ ds => decide (uptoBulkAll ds ≤ 1048576)
def OpenSpec.upto (s : _root_.Go.ChangeSpec) : _root_.Go.OpenSpec := { _root_.Go.OpenSpec.ofChange s with cond := some uptoSmall }

/-- 'sixdotlaw18.LineMatchesReference', WHERE WHAT IT READS IS OF BULK AT MOST 1048576: true; the input reads as it did. -/
def lineMatchesReferenceUptoRow : OpenClaim := { program := "ytnlapjkfbodbkaa", sum := "5ae0f2824894e2ba8bd50ff9d3bb0f7d82aaa42e18516272b3b021fd6cec8727", func := "sixdot/sixdotlaw18.LineMatchesReference", spec := "lineMatchesReference", apart := false, narrowed := true }
def LineMatchesReferenceUptoSaid : Prop := lineMatchesReferenceUptoRow.holds Try.pinned (OpenSpec.upto lineMatchesReferenceSpec)

/-- 'sixdotlaw18.LineInverts', WHERE WHAT IT READS IS OF BULK AT MOST 1048576: true; the input reads as it did. -/
def lineInvertsUptoRow : OpenClaim := { program := "ytnlapjkfbodbkaa", sum := "5ae0f2824894e2ba8bd50ff9d3bb0f7d82aaa42e18516272b3b021fd6cec8727", func := "sixdot/sixdotlaw18.LineInverts", spec := "lineInverts", apart := false, narrowed := true }
def LineInvertsUptoSaid : Prop := lineInvertsUptoRow.holds Try.pinned (OpenSpec.upto lineInvertsSpec)

/-- 'sixdotlaw18.LineFits', WHERE WHAT IT READS IS OF BULK AT MOST 1048576: true; the input reads as it did. -/
def lineFitsUptoRow : OpenClaim := { program := "ytnlapjkfbodbkaa", sum := "5ae0f2824894e2ba8bd50ff9d3bb0f7d82aaa42e18516272b3b021fd6cec8727", func := "sixdot/sixdotlaw18.LineFits", spec := "lineFits", apart := false, narrowed := true }
def LineFitsUptoSaid : Prop := lineFitsUptoRow.holds Try.pinned (OpenSpec.upto lineFitsSpec)

/-- 'sixdotlaw18.LineFewest', WHERE WHAT IT READS IS OF BULK AT MOST 1048576: true; the input reads as it did. -/
def lineFewestUptoRow : OpenClaim := { program := "ytnlapjkfbodbkaa", sum := "5ae0f2824894e2ba8bd50ff9d3bb0f7d82aaa42e18516272b3b021fd6cec8727", func := "sixdot/sixdotlaw18.LineFewest", spec := "lineFewest", apart := false, narrowed := true }
def LineFewestUptoSaid : Prop := lineFewestUptoRow.holds Try.pinned (OpenSpec.upto lineFewestSpec)

/-- 'sixdotlaw18.LineGrows', WHERE WHAT IT READS IS OF BULK AT MOST 1048576: true; the input reads as it did. -/
def lineGrowsUptoRow : OpenClaim := { program := "ytnlapjkfbodbkaa", sum := "5ae0f2824894e2ba8bd50ff9d3bb0f7d82aaa42e18516272b3b021fd6cec8727", func := "sixdot/sixdotlaw18.LineGrows", spec := "lineGrows", apart := false, narrowed := true }
def LineGrowsUptoSaid : Prop := lineGrowsUptoRow.holds Try.pinned (OpenSpec.upto lineGrowsSpec)

/-- 'sixdotlaw18.LineJoins', WHERE WHAT IT READS IS OF BULK AT MOST 1048576: true; the input reads as it did. -/
def lineJoinsUptoRow : OpenClaim := { program := "ytnlapjkfbodbkaa", sum := "5ae0f2824894e2ba8bd50ff9d3bb0f7d82aaa42e18516272b3b021fd6cec8727", func := "sixdot/sixdotlaw18.LineJoins", spec := "lineJoins", apart := false, narrowed := true }
def LineJoinsUptoSaid : Prop := lineJoinsUptoRow.holds Try.pinned (OpenSpec.upto lineJoinsSpec)

end Rows
end Go.Proofs.Ytnlapjkfbodbkaa
