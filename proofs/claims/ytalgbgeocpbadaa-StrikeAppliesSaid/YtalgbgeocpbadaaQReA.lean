/-
  StrikeApplies of chapter 26: for every input the law's function returns true, and every argument reads behind the call as it read before. No condition.
-/
import Derived.Test.YtalgbgeocpbadaaRows
import Derived.Test.YtalgbgeocpbadaaMg4
import Derived.Test.YtalgbgeocpbadaaQKzA
import Derived.OpenShut
namespace Go.Proofs.Ytalgbgeocpbadaa.strikeApplies
set_option linter.unusedSimpArgs false
set_option linter.unusedVariables false
set_option linter.unusedSectionVars false
open Go.ChangeShapes Go.WideShapes Go.ChangeAt Go.RowKit Go.Proofs.Ytalgbgeocpbadaa.Am
theorem own : ownKnob Try.prog.godebug = none := by kernel_rfl
theorem laidOut : laidOutB Try.prog = true := by kernel_rfl
def shape : Sh := (.fd (.slc (.agg (.fd (.int .u8) (.fd (.slc (.int .u8)) (.fd (.slc (.int .u8)) .en))))) (.fd (.agg (.fd (.int .u8) (.fd (.int .u8) (.fd (.int .u8) (.fd (.int .u8) (.fd (.int .i8) .en)))))) (.fd (.agg (.fd (.int .i8) (.fd (.int .i8) .en))) .en)))
theorem all_true : ∀ y : shape.T, shape.ok y → Am.Fn Try.prog 6 [0] (shape.pvs y) (.bool true) := by
  rintro ⟨s, ⟨a, b, c, d, n, _⟩, ⟨v, w, _⟩, _⟩ ⟨h0, ⟨h1, h2, h3, h4, h5, _⟩, ⟨h6, h7, _⟩, _⟩
  exact (by have := K.Applies_fn a b c d n (s.map fun p => (p.1, p.2.1, p.2.2.1)) v w (bounds_u8 h1) (bounds_u8 h2) (bounds_u8 h3) (bounds_u8 h4) (bounds_i8 h5) (fun x hx => by obtain ⟨q, hq, rfl⟩ := List.mem_map.1 hx; have := h0.2 q hq; exact ⟨bounds_u8 this.1, fun n hn => bounds_u8 (this.2.1.2 n hn), fun n hn => bounds_u8 (this.2.2.1.2 n hn)⟩); rw [List.map_map] at this; exact this)
set_option maxRecDepth 100000 in
theorem lifted (os : Os) (started : os.Started) (H : Type) (enc : TypeId × Value → H) :
    ReturnsInHanded {} Try.checked os 6 .any (Rows.strikeAppliesSpec.pre6 enc Try.prog Try.f6 Rows.strikeAppliesRow.domain false) (Rows.strikeAppliesSpec.post enc Try.prog Try.f6 false true false false) :=
  law_lift (C := Try.checked) (F := shape) (n := 8) own started laidOut (by kernel_rfl) Try.func6
    (ChangeSpec.witness6 (enc := enc) (C := Try.checked) false ⟨#[], #[.slice none 0 0, .agg #[.int .u8 0, .int .u8 0, .int .u8 0, .int .u8 0, .int .i8 0], .agg #[.int .i8 0, .int .i8 0]], []⟩ 8 (by kernel_rfl) (by kernel_rfl) (by kernel_rfl) (by kernel_rfl))
    (by kernel_rfl) (by kernel_rfl) rfl (by kernel_rfl) rfl (fun ds h => by match ds, h with | [a, b, c], _ => rfl) all_true
theorem over : Rows.strikeAppliesRow.holds Try.pinned (OpenSpec.ofChange Rows.strikeAppliesSpec) :=
  OpenClaim.holds_of_wide 6 Try.f6 rfl rfl rfl rfl rfl rfl rfl ⟨rfl, rfl, rfl, rfl, rfl⟩ rfl rfl rfl rfl rfl (by kernel_rfl) Try.func6 (by kernel_rfl)
    (of_decide_eq_true (by kernel_rfl)) (by unfold Func.isWrapper; first | (rw [if_pos (by decide +kernel)]; kernel_rfl) | (rw [if_neg (by decide +kernel)]; exact ⟨rfl, rfl⟩))
    (fun os started H enc _ => lifted os started H enc)
theorem proved : Rows.StrikeAppliesSaid := over
end Go.Proofs.Ytalgbgeocpbadaa.strikeApplies
