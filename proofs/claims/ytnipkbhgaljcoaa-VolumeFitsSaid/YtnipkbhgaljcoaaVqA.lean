/-
  VolumeFits of chapter 23: for every input the law's function returns true, and every argument reads behind the call as it read before. No condition.
-/
import Derived.Test.YtnipkbhgaljcoaaRows
import Derived.Test.YtnipkbhgaljcoaaAmGl
import Derived.Test.YtnipkbhgaljcoaaVpA
import Derived.OpenShut
namespace Go.Proofs.Ytnipkbhgaljcoaa.volumeFits
set_option linter.unusedSimpArgs false
set_option linter.unusedVariables false
set_option linter.unusedSectionVars false
open Go.ChangeShapes Go.WideShapes Go.ChangeAt Go.RowKit Go.Proofs.Ytnipkbhgaljcoaa.Am
theorem own : ownKnob Try.prog.godebug = none := by kernel_rfl
theorem laidOut : laidOutB Try.prog = true := by kernel_rfl
def shape : Sh := (.fd (.agg (.fd (.slc (.int .u8)) (.fd (.slc .bool) (.fd (.slc (.int .i8)) (.fd (.int .u8) .en))))) (.fd (.slc (.int .i8)) (.fd (.agg (.fd (.int .u8) (.fd (.int .u8) (.fd (.int .u8) .en)))) .en)))
theorem all_true : ∀ y : shape.T, shape.ok y → Am.Fn Try.prog 3 [0] (shape.pvs y) (.bool true) := by
  rintro ⟨⟨lv, bg, an, mo, _⟩, es, ⟨w0, w1, w2, _⟩, _⟩ ⟨⟨h1, h2, h3, h4, _⟩, h5, ⟨h6, h7, h8, _⟩, _⟩
  exact V.FitsLaw_fn lv bg an mo es w0 w1 w2 h1.1 h2.1 h3.1 (bounds_u8 h4) h5.1 (bounds_u8 h8)
set_option maxRecDepth 100000 in
theorem lifted (os : Os) (started : os.Started) (H : Type) (enc : TypeId × Value → H) :
    ReturnsInHanded {} Try.checked os 3 .any (Rows.volumeFitsSpec.pre6 enc Try.prog Try.f3 Rows.volumeFitsRow.domain false) (Rows.volumeFitsSpec.post enc Try.prog Try.f3 false true false false) :=
  law_lift (C := Try.checked) (F := shape) (n := 8) own started laidOut (by kernel_rfl) Try.func3
    (ChangeSpec.witness6 (enc := enc) (C := Try.checked) false ⟨#[], #[.agg #[.slice none 0 0, .slice none 0 0, .slice none 0 0, .int .u8 0], .slice none 0 0, .agg #[.int .u8 0, .int .u8 0, .int .u8 0]], []⟩ 8 (by kernel_rfl) (by kernel_rfl) (by kernel_rfl) (by kernel_rfl))
    (by kernel_rfl) (by kernel_rfl) rfl (by kernel_rfl) rfl (fun ds h => by match ds, h with | [a, b, c], _ => rfl) all_true
theorem over : Rows.volumeFitsRow.holds Try.pinned (OpenSpec.ofChange Rows.volumeFitsSpec) :=
  OpenClaim.holds_of_wide 3 Try.f3 rfl rfl rfl rfl rfl rfl rfl ⟨rfl, rfl, rfl, rfl, rfl⟩ rfl rfl rfl rfl rfl (by kernel_rfl) Try.func3 (by kernel_rfl)
    (of_decide_eq_true (by kernel_rfl)) (by unfold Func.isWrapper; first | (rw [if_pos (by decide +kernel)]; kernel_rfl) | (rw [if_neg (by decide +kernel)]; exact ⟨rfl, rfl⟩))
    (fun os started H enc _ => lifted os started H enc)
theorem proved : Rows.VolumeFitsSaid := over
end Go.Proofs.Ytnipkbhgaljcoaa.volumeFits
