/-
  ColumnsReadsBack of chapter 20: for every input the law's function returns true, and every argument reads behind the call as it read before. No condition.
-/
import Derived.Test.YtfpkcjjgooigbaaRows
import Derived.Test.YtfpkcjjgooigbaaMg4
import Derived.Test.YtfpkcjjgooigbaaQDkA
import Derived.OpenShut
namespace Go.Proofs.Ytfpkcjjgooigbaa.columnsReadsBack
set_option linter.unusedSimpArgs false
set_option linter.unusedVariables false
set_option linter.unusedSectionVars false
open Go.ChangeShapes Go.WideShapes Go.ChangeAt Go.RowKit Go.Proofs.Ytfpkcjjgooigbaa.Am
theorem own : ownKnob Try.prog.godebug = none := by kernel_rfl
theorem laidOut : laidOutB Try.prog = true := by kernel_rfl
def shape : Sh := (.fd (.agg (.fd (.int .u8) (.fd (.int .u8) (.fd (.slc (.slc (.int .u8))) .en)))) (.fd (.int .u8) .en))
theorem all_true : ∀ y : shape.T, shape.ok y → Am.Fn Try.prog 4 [0] (shape.pvs y) (.bool true) := by
  rintro ⟨⟨a, b, l, _⟩, w, _⟩ ⟨⟨h1, h2, h3, _⟩, h4, _⟩
  exact C.ReadsBack_fn a b l w (bounds_u8 h1) (bounds_u8 h2) (fun x hx z hz => bounds_u8 ((h3.2 x hx).2 z hz)) (bounds_u8 h4)
set_option maxRecDepth 100000 in
theorem lifted (os : Os) (started : os.Started) (H : Type) (enc : TypeId × Value → H) :
    ReturnsInHanded {} Try.checked os 4 .any (Rows.columnsReadsBackSpec.pre6 enc Try.prog Try.f4 Rows.columnsReadsBackRow.domain false) (Rows.columnsReadsBackSpec.post enc Try.prog Try.f4 false true false false) :=
  law_lift (C := Try.checked) (F := shape) (n := 8) own started laidOut (by kernel_rfl) Try.func4
    (ChangeSpec.witness6 (enc := enc) (C := Try.checked) false ⟨#[], #[.agg #[.int .u8 0, .int .u8 0, .slice none 0 0], .int .u8 0], []⟩ 8 (by kernel_rfl) (by kernel_rfl) (by kernel_rfl) (by kernel_rfl))
    (by kernel_rfl) (by kernel_rfl) rfl (by kernel_rfl) rfl (fun ds h => by match ds, h with | [a, b], _ => rfl) all_true
theorem over : Rows.columnsReadsBackRow.holds Try.pinned (OpenSpec.ofChange Rows.columnsReadsBackSpec) :=
  OpenClaim.holds_of_wide 4 Try.f4 rfl rfl rfl rfl rfl rfl rfl ⟨rfl, rfl, rfl, rfl, rfl⟩ rfl rfl rfl rfl rfl (by kernel_rfl) Try.func4 (by kernel_rfl)
    (of_decide_eq_true (by kernel_rfl)) (by unfold Func.isWrapper; first | (rw [if_pos (by decide +kernel)]; kernel_rfl) | (rw [if_neg (by decide +kernel)]; exact ⟨rfl, rfl⟩))
    (fun os started H enc _ => lifted os started H enc)
theorem proved : Rows.ColumnsReadsBackSaid := over
end Go.Proofs.Ytfpkcjjgooigbaa.columnsReadsBack
