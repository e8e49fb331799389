/-
  VolumeParts of chapter 23: for every input the law's function returns true, and every argument reads behind the call as it read before. No condition.
-/
import Derived.Test.YtnipkbhgaljcoaaRows
import Derived.Test.YtnipkbhgaljcoaaAmGl
import Derived.Test.YtnipkbhgaljcoaaVnA
import Derived.OpenShut
namespace Go.Proofs.Ytnipkbhgaljcoaa.volumeParts
set_option linter.unusedSimpArgs false
set_option linter.unusedVariables false
set_option linter.unusedSectionVars false
open Go.ChangeShapes Go.WideShapes Go.ChangeAt Go.RowKit Go.Proofs.Ytnipkbhgaljcoaa.Am
theorem own : ownKnob Try.prog.godebug = none := by kernel_rfl
theorem laidOut : laidOutB Try.prog = true := by kernel_rfl
def shape : Sh := (.fd (.agg (.fd (.slc (.int .u8)) (.fd (.slc .bool) (.fd (.slc (.int .i8)) (.fd (.int .u8) .en))))) .en)
theorem all_true : ∀ y : shape.T, shape.ok y → Am.Fn Try.prog 6 [0] (shape.pvs y) (.bool true) := by
  rintro ⟨⟨lv, bg, an, mo, _⟩, _⟩ ⟨⟨h1, h2, h3, h4, _⟩, _⟩
  exact V.Parts_fn lv bg an mo h1.1 h2.1 h3.1 (bounds_u8 h4)
set_option maxRecDepth 100000 in
theorem lifted (os : Os) (started : os.Started) (H : Type) (enc : TypeId × Value → H) :
    ReturnsInHanded {} Try.checked os 6 .any (Rows.volumePartsSpec.pre6 enc Try.prog Try.f6 Rows.volumePartsRow.domain false) (Rows.volumePartsSpec.post enc Try.prog Try.f6 false true false false) :=
  law_lift (C := Try.checked) (F := shape) (n := 8) own started laidOut (by kernel_rfl) Try.func6
    (ChangeSpec.witness6 (enc := enc) (C := Try.checked) false ⟨#[], #[.agg #[.slice none 0 0, .slice none 0 0, .slice none 0 0, .int .u8 0]], []⟩ 8 (by kernel_rfl) (by kernel_rfl) (by kernel_rfl) (by kernel_rfl))
    (by kernel_rfl) (by kernel_rfl) rfl (by kernel_rfl) rfl (fun ds h => by match ds, h with | [a], _ => rfl) all_true
theorem over : Rows.volumePartsRow.holds Try.pinned (OpenSpec.ofChange Rows.volumePartsSpec) :=
  OpenClaim.holds_of_wide 6 Try.f6 rfl rfl rfl rfl rfl rfl rfl ⟨rfl, rfl, rfl, rfl, rfl⟩ rfl rfl rfl rfl rfl (by kernel_rfl) Try.func6 (by kernel_rfl)
    (of_decide_eq_true (by kernel_rfl)) (by unfold Func.isWrapper; first | (rw [if_pos (by decide +kernel)]; kernel_rfl) | (rw [if_neg (by decide +kernel)]; exact ⟨rfl, rfl⟩))
    (fun os started H enc _ => lifted os started H enc)
theorem proved : Rows.VolumePartsSaid := over
end Go.Proofs.Ytnipkbhgaljcoaa.volumeParts
