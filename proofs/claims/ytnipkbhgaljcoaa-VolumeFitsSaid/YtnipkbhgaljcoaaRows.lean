/-
  No cell of these rows narrows 'for every input' (looked for: loops, veiled, ifaces, maps, wideKeys, modest, calm, conditions, laid).
  DERIVED. THE GIVEN ROWS OF THIS SEAT. 4 by the template 'for every input the law returns true; each argument reads behind the call as it read before'; 0 by the template 'total and deterministic' (their statements: YtnipkbhgaljcoaaTotals.lean).
  GIVEN WITH THE SEED: the statements are not yours to turn. If you find one false, say at which input.
  Laid BY PROGRAM, IN A SANDBOX (cutbox-rows.mjs): the forced cells as the released guide's own fill.sh prints them over the translation a3aac014374c7473… (all of the seat's roots in one cut). By AI agents, Wed Nov 11 2026. No macro, syntax, notation, axiom, sorry.
-/
import Derived.Test.YtnipkbhgaljcoaaChecked
import GoSem.Claim
import GoSem.ClaimJoined
import GoSem.ClaimMapViews
import Derived.JoinedTies
import Derived.KernelRfl
namespace Go.Proofs.Ytnipkbhgaljcoaa
/- THE CELL 'sum', in the pinned program and in every row, IS THE sha256 OF THE DUMP (.gsa) THAT YtnipkbhgaljcoaaProg.lean LOADS. Nothing in Lean hashes anything: it is a label: what it is worth is what the hold of that sum in a sandbox is worth. -/
noncomputable def Try.pinned : Pinned := { name := "ytnipkbhgaljcoaa", sum := "a3aac014374c74733690d5ca33c229fe6aacef463d73ea93e73fc0f88b05eacb", checked := Try.checked }
namespace Rows
def none {H : Type} : Left H := { results := [], args := [] }

/-- 'sixdotlaw23.VolumeFits': WHATEVER THE INPUT: true; the input reads as it did. -/
def volumeFitsSpec : ChangeSpec := { name := "volumeFits", fn := fun _ => fun
  | [d1, d2, d3] => { results := [.lit (.bool true)], args := [d1, d2, d3] }
  | _ => none }
def volumeFitsRow : OpenClaim := { program := "ytnipkbhgaljcoaa", sum := "a3aac014374c74733690d5ca33c229fe6aacef463d73ea93e73fc0f88b05eacb", func := "sixdot/sixdotlaw23.VolumeFits", spec := "volumeFits", apart := false }
def VolumeFitsSaid : Prop := volumeFitsRow.holds Try.pinned (OpenSpec.ofChange volumeFitsSpec)

/-- ITS FALSE NEIGHBOUR: 'it returns false'. Refute it at one input. -/
def volumeFitsWrong : ChangeSpec := { name := "volumeFits", fn := fun _ => fun
  | [d1, d2, d3] => { results := [.lit (.bool false)], args := [d1, d2, d3] }
  | _ => none }
def VolumeFitsWrongFalsely : Prop := volumeFitsRow.holds Try.pinned (OpenSpec.ofChange volumeFitsWrong)

/-- 'sixdotlaw23.VolumeDivides': WHATEVER THE INPUT: true; the input reads as it did. -/
def volumeDividesSpec : ChangeSpec := { name := "volumeDivides", fn := fun _ => fun
  | [d1, d2] => { results := [.lit (.bool true)], args := [d1, d2] }
  | _ => none }
def volumeDividesRow : OpenClaim := { program := "ytnipkbhgaljcoaa", sum := "a3aac014374c74733690d5ca33c229fe6aacef463d73ea93e73fc0f88b05eacb", func := "sixdot/sixdotlaw23.VolumeDivides", spec := "volumeDivides", apart := false }
def VolumeDividesSaid : Prop := volumeDividesRow.holds Try.pinned (OpenSpec.ofChange volumeDividesSpec)

/-- ITS FALSE NEIGHBOUR: 'it returns false'. Refute it at one input. -/
def volumeDividesWrong : ChangeSpec := { name := "volumeDivides", fn := fun _ => fun
  | [d1, d2] => { results := [.lit (.bool false)], args := [d1, d2] }
  | _ => none }
def VolumeDividesWrongFalsely : Prop := volumeDividesRow.holds Try.pinned (OpenSpec.ofChange volumeDividesWrong)

/-- 'sixdotlaw23.VolumeLimits': WHATEVER THE INPUT: true; the input reads as it did. -/
def volumeLimitsSpec : ChangeSpec := { name := "volumeLimits", fn := fun _ => fun
  | [d1, d2, d3] => { results := [.lit (.bool true)], args := [d1, d2, d3] }
  | _ => none }
def volumeLimitsRow : OpenClaim := { program := "ytnipkbhgaljcoaa", sum := "a3aac014374c74733690d5ca33c229fe6aacef463d73ea93e73fc0f88b05eacb", func := "sixdot/sixdotlaw23.VolumeLimits", spec := "volumeLimits", apart := false }
def VolumeLimitsSaid : Prop := volumeLimitsRow.holds Try.pinned (OpenSpec.ofChange volumeLimitsSpec)

/-- ITS FALSE NEIGHBOUR: 'it returns false'. Refute it at one input. -/
def volumeLimitsWrong : ChangeSpec := { name := "volumeLimits", fn := fun _ => fun
  | [d1, d2, d3] => { results := [.lit (.bool false)], args := [d1, d2, d3] }
  | _ => none }
def VolumeLimitsWrongFalsely : Prop := volumeLimitsRow.holds Try.pinned (OpenSpec.ofChange volumeLimitsWrong)

/-- 'sixdotlaw23.VolumeParts': WHATEVER THE INPUT: true; the input reads as it did. -/
def volumePartsSpec : ChangeSpec := { name := "volumeParts", fn := fun _ => fun
  | [d] => { results := [.lit (.bool true)], args := [d] }
  | _ => none }
def volumePartsRow : OpenClaim := { program := "ytnipkbhgaljcoaa", sum := "a3aac014374c74733690d5ca33c229fe6aacef463d73ea93e73fc0f88b05eacb", func := "sixdot/sixdotlaw23.VolumeParts", spec := "volumeParts", apart := false }
def VolumePartsSaid : Prop := volumePartsRow.holds Try.pinned (OpenSpec.ofChange volumePartsSpec)

/-- ITS FALSE NEIGHBOUR: 'it returns false'. Refute it at one input. -/
def volumePartsWrong : ChangeSpec := { name := "volumeParts", fn := fun _ => fun
  | [d] => { results := [.lit (.bool false)], args := [d] }
  | _ => none }
def VolumePartsWrongFalsely : Prop := volumePartsRow.holds Try.pinned (OpenSpec.ofChange volumePartsWrong)

/- THE SECOND FORM. 'bulk': how many values and letters a reading holds, each counted each time it is reached (what is shared counts as often as it is met; a slice's spare places count too). A statement '..UptoSaid' is the law's where the arguments, and the package variables that the reading takes, are together of bulk at most 1048576: NARROWER than '..Said'. Prove '..Said' where nothing that the law and all that it calls make is longer than what came in: it says more and counts as full. Else prove '..UptoSaid'. A law counts once. -/
mutual
def uptoBulk {H : Type} : DataW H → Nat
  | .lit (.string bytes) => bytes.length + 1
  | .lit _ => 1
  | .nil => 1
  | .ptr d => uptoBulk d + 1
  | .slice elems spare => uptoBulkAll elems + uptoBulkAll spare + 1
  | .agg parts => uptoBulkAll parts + 1
  | .iface _ d => uptoBulk d + 1
  | .map entries => uptoBulkEntries entries + 1
  | .held _ => 1
def uptoBulkAll {H : Type} : List (DataW H) → Nat
  | [] => 0
  | d :: r => uptoBulk d + uptoBulkAll r
def uptoBulkEntries {H : Type} : List (Lit × DataW H) → Nat
  | [] => 0
  | x :: r => uptoBulkEntry x + uptoBulkEntries r
def uptoBulkEntry {H : Type} : Lit × DataW H → Nat
  | (.string bytes, d) => bytes.length + uptoBulk d + 1
  | (_, d) => uptoBulk d + 1
 end
def uptoSmall : (H : Type) → List (DataW H) → Bool := fun _ ds => decide (uptoBulkAll ds ≤ 1048576)
def OpenSpec.upto (s : _root_.Go.ChangeSpec) : _root_.Go.OpenSpec := { _root_.Go.OpenSpec.ofChange s with cond := some uptoSmall }

/-- 'sixdotlaw23.VolumeFits', WHERE WHAT IT READS IS OF BULK AT MOST 1048576: true; the input reads as it did. -/
def volumeFitsUptoRow : OpenClaim := { program := "ytnipkbhgaljcoaa", sum := "a3aac014374c74733690d5ca33c229fe6aacef463d73ea93e73fc0f88b05eacb", func := "sixdot/sixdotlaw23.VolumeFits", spec := "volumeFits", apart := false, narrowed := true }
def VolumeFitsUptoSaid : Prop := volumeFitsUptoRow.holds Try.pinned (OpenSpec.upto volumeFitsSpec)

/-- 'sixdotlaw23.VolumeDivides', WHERE WHAT IT READS IS OF BULK AT MOST 1048576: true; the input reads as it did. -/
def volumeDividesUptoRow : OpenClaim := { program := "ytnipkbhgaljcoaa", sum := "a3aac014374c74733690d5ca33c229fe6aacef463d73ea93e73fc0f88b05eacb", func := "sixdot/sixdotlaw23.VolumeDivides", spec := "volumeDivides", apart := false, narrowed := true }
def VolumeDividesUptoSaid : Prop := volumeDividesUptoRow.holds Try.pinned (OpenSpec.upto volumeDividesSpec)

/-- 'sixdotlaw23.VolumeLimits', WHERE WHAT IT READS IS OF BULK AT MOST 1048576: true; the input reads as it did. -/
def volumeLimitsUptoRow : OpenClaim := { program := "ytnipkbhgaljcoaa", sum := "a3aac014374c74733690d5ca33c229fe6aacef463d73ea93e73fc0f88b05eacb", func := "sixdot/sixdotlaw23.VolumeLimits", spec := "volumeLimits", apart := false, narrowed := true }
def VolumeLimitsUptoSaid : Prop := volumeLimitsUptoRow.holds Try.pinned (OpenSpec.upto volumeLimitsSpec)

/-- 'sixdotlaw23.VolumeParts', WHERE WHAT IT READS IS OF BULK AT MOST 1048576: true; the input reads as it did. -/
def volumePartsUptoRow : OpenClaim := { program := "ytnipkbhgaljcoaa", sum := "a3aac014374c74733690d5ca33c229fe6aacef463d73ea93e73fc0f88b05eacb", func := "sixdot/sixdotlaw23.VolumeParts", spec := "volumeParts", apart := false, narrowed := true }
def VolumePartsUptoSaid : Prop := volumePartsUptoRow.holds Try.pinned (OpenSpec.upto volumePartsSpec)

end Rows
end Go.Proofs.Ytnipkbhgaljcoaa
