/-
  StockAdds of chapter 30: for every input the law's function returns true, and every argument reads behind the call as it read before. No condition.
-/
import Derived.Test.YteafgpjhgefiiaaRows
import Derived.Test.YteafgpjhgefiiaaAmGl
import Derived.Test.YteafgpjhgefiiaaSwA
import Derived.OpenShut
namespace Go.Proofs.Yteafgpjhgefiiaa.stockAdds
set_option linter.unusedSimpArgs false
set_option linter.unusedVariables false
set_option linter.unusedSectionVars false
open Go.ChangeShapes Go.WideShapes Go.ChangeAt Go.RowKit Go.Proofs.Yteafgpjhgefiiaa.Am
theorem own : ownKnob Try.prog.godebug = none := by kernel_rfl
theorem laidOut : laidOutB Try.prog = true := by kernel_rfl
def shape : Sh := (.fd (.slc (.int .u8)) (.fd (.slc (.int .u8)) (.fd (.int .u8) .en)))
theorem all_true : ∀ y : shape.T, shape.ok y → Am.Fn Try.prog 8 [0] (shape.pvs y) (.bool true) := by
  rintro ⟨a, b, p, _⟩ ⟨h1, h2, h3, _⟩
  exact S.Adds_fn a b p h1.1 h2.1 (fun x hx => S.b8 (bounds_u8 (h1.2 x hx))) (fun x hx => S.b8 (bounds_u8 (h2.2 x hx))) (S.b8 (bounds_u8 h3))
set_option maxRecDepth 100000 in
theorem lifted (os : Os) (started : os.Started) (H : Type) (enc : TypeId × Value → H) :
    ReturnsInHanded {} Try.checked os 8 .any (Rows.stockAddsSpec.pre6 enc Try.prog Try.f8 Rows.stockAddsRow.domain false) (Rows.stockAddsSpec.post enc Try.prog Try.f8 false true false false) :=
  law_lift (C := Try.checked) (F := shape) (n := 8) own started laidOut (by kernel_rfl) Try.func8
    (ChangeSpec.witness6 (enc := enc) (C := Try.checked) false ⟨#[], #[.slice none 0 0, .slice none 0 0, .int .u8 0], []⟩ 8 (by kernel_rfl) (by kernel_rfl) (by kernel_rfl) (by kernel_rfl))
    (by kernel_rfl) (by kernel_rfl) rfl (by kernel_rfl) rfl (fun ds h => by match ds, h with | [a, b, c], _ => rfl) all_true
theorem over : Rows.stockAddsRow.holds Try.pinned (OpenSpec.ofChange Rows.stockAddsSpec) :=
  OpenClaim.holds_of_wide 8 Try.f8 rfl rfl rfl rfl rfl rfl rfl ⟨rfl, rfl, rfl, rfl, rfl⟩ rfl rfl rfl rfl rfl (by kernel_rfl) Try.func8 (by kernel_rfl)
    (of_decide_eq_true (by kernel_rfl)) (by unfold Func.isWrapper; first | (rw [if_pos (by decide +kernel)]; kernel_rfl) | (rw [if_neg (by decide +kernel)]; exact ⟨rfl, rfl⟩))
    (fun os started H enc _ => lifted os started H enc)
theorem proved : Rows.StockAddsSaid := over
end Go.Proofs.Yteafgpjhgefiiaa.stockAdds
