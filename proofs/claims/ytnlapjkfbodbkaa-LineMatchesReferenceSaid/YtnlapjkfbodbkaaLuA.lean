/-
  LineMatchesReference of chapter 18: for every input the law's function returns true, and every argument reads behind the call as it read before. No condition.
-/
import Derived.Test.YtnlapjkfbodbkaaRows
import Derived.Test.YtnlapjkfbodbkaaAmGl
import Derived.Test.YtnlapjkfbodbkaaLrA
import Derived.OpenShut
namespace Go.Proofs.Ytnlapjkfbodbkaa.lineMatchesReference
set_option linter.unusedSimpArgs false
set_option linter.unusedVariables false
set_option linter.unusedSectionVars false
open Go.ChangeShapes Go.WideShapes Go.ChangeAt Go.RowKit Go.Proofs.Ytnlapjkfbodbkaa.Am
theorem own : ownKnob Try.prog.godebug = none := by kernel_rfl
theorem laidOut : laidOutB Try.prog = true := by kernel_rfl
def shape : Sh := (.fd (.slc (.int .u8)) (.fd (.int .i8) (.fd (.agg (.fd (.int .i8) (.fd (.int .i8) .en))) .en)))
theorem all_true : ∀ y : shape.T, shape.ok y → Am.Fn Try.prog 3 [0] (shape.pvs y) (.bool true) := by
  rintro ⟨l, W, ⟨a, b, _⟩, _⟩ ⟨h1, h2, ⟨h3, h4, _⟩, _⟩
  exact L.Match_fn l W a b h1.1 (bounds_i8 h2) (bounds_i8 h3) (bounds_i8 h4)
set_option maxRecDepth 100000 in
theorem lifted (os : Os) (started : os.Started) (H : Type) (enc : TypeId × Value → H) :
    ReturnsInHanded {} Try.checked os 3 .any (Rows.lineMatchesReferenceSpec.pre6 enc Try.prog Try.f3 Rows.lineMatchesReferenceRow.domain false) (Rows.lineMatchesReferenceSpec.post enc Try.prog Try.f3 false true false false) :=
  law_lift (C := Try.checked) (F := shape) (n := 8) own started laidOut (by kernel_rfl) Try.func3
    (ChangeSpec.witness6 (enc := enc) (C := Try.checked) false ⟨#[], #[.slice none 0 0, .int .i8 0, .agg #[.int .i8 0, .int .i8 0]], []⟩ 8 (by kernel_rfl) (by kernel_rfl) (by kernel_rfl) (by kernel_rfl))
    (by kernel_rfl) (by kernel_rfl) rfl (by kernel_rfl) rfl (fun ds h => by match ds, h with | [a, b, c], _ => rfl) all_true
theorem over : Rows.lineMatchesReferenceRow.holds Try.pinned (OpenSpec.ofChange Rows.lineMatchesReferenceSpec) :=
  OpenClaim.holds_of_wide 3 Try.f3 rfl rfl rfl rfl rfl rfl rfl ⟨rfl, rfl, rfl, rfl, rfl⟩ rfl rfl rfl rfl rfl (by kernel_rfl) Try.func3 (by kernel_rfl)
    (of_decide_eq_true (by kernel_rfl)) (by unfold Func.isWrapper; first | (rw [if_pos (by decide +kernel)]; kernel_rfl) | (rw [if_neg (by decide +kernel)]; exact ⟨rfl, rfl⟩))
    (fun os started H enc _ => lifted os started H enc)
theorem proved : Rows.LineMatchesReferenceSaid := over
end Go.Proofs.Ytnlapjkfbodbkaa.lineMatchesReference
