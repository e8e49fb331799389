/-
  StockLegal of chapter 30: for every input the law's function returns true, and every argument reads behind the call as it read before. No condition.
-/
import Derived.Test.YteafgpjhgefiiaaRows
import Derived.Test.YteafgpjhgefiiaaAmGl
import Derived.Test.YteafgpjhgefiiaaSvA
import Derived.OpenShut
namespace Go.Proofs.Yteafgpjhgefiiaa.stockLegal
set_option linter.unusedSimpArgs false
set_option linter.unusedVariables false
set_option linter.unusedSectionVars false
open Go.ChangeShapes Go.WideShapes Go.ChangeAt Go.RowKit Go.Proofs.Yteafgpjhgefiiaa.Am
theorem own : ownKnob Try.prog.godebug = none := by kernel_rfl
theorem laidOut : laidOutB Try.prog = true := by kernel_rfl
def shape : Sh := (.fd (.slc (.int .u8)) (.fd (.slc (.int .u8)) (.fd (.slc (.int .i8)) .en)))
theorem all_true : ∀ y : shape.T, shape.ok y → Am.Fn Try.prog 9 [0] (shape.pvs y) (.bool true) := by
  rintro ⟨a, b, l, _⟩ ⟨h1, h2, h3, _⟩
  exact S.LegalLaw_fn a b l h1.1 h2.1 h3.1 (fun x hx => S.b8 (bounds_u8 (h1.2 x hx))) (fun x hx => S.b8 (bounds_u8 (h2.2 x hx))) (fun x hx => bounds_i8 (h3.2 x hx))
set_option maxRecDepth 100000 in
theorem lifted (os : Os) (started : os.Started) (H : Type) (enc : TypeId × Value → H) :
    ReturnsInHanded {} Try.checked os 9 .any (Rows.stockLegalSpec.pre6 enc Try.prog Try.f9 Rows.stockLegalRow.domain false) (Rows.stockLegalSpec.post enc Try.prog Try.f9 false true false false) :=
  law_lift (C := Try.checked) (F := shape) (n := 8) own started laidOut (by kernel_rfl) Try.func9
    (ChangeSpec.witness6 (enc := enc) (C := Try.checked) false ⟨#[], #[.slice none 0 0, .slice none 0 0, .slice none 0 0], []⟩ 8 (by kernel_rfl) (by kernel_rfl) (by kernel_rfl) (by kernel_rfl))
    (by kernel_rfl) (by kernel_rfl) rfl (by kernel_rfl) rfl (fun ds h => by match ds, h with | [a, b, c], _ => rfl) all_true
theorem over : Rows.stockLegalRow.holds Try.pinned (OpenSpec.ofChange Rows.stockLegalSpec) :=
  OpenClaim.holds_of_wide 9 Try.f9 rfl rfl rfl rfl rfl rfl rfl ⟨rfl, rfl, rfl, rfl, rfl⟩ rfl rfl rfl rfl rfl (by kernel_rfl) Try.func9 (by kernel_rfl)
    (of_decide_eq_true (by kernel_rfl)) (by unfold Func.isWrapper; first | (rw [if_pos (by decide +kernel)]; kernel_rfl) | (rw [if_neg (by decide +kernel)]; exact ⟨rfl, rfl⟩))
    (fun os started H enc _ => lifted os started H enc)
theorem proved : Rows.StockLegalSaid := over
end Go.Proofs.Yteafgpjhgefiiaa.stockLegal
