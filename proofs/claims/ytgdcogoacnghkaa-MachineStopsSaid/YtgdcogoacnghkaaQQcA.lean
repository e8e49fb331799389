/-
  MachineStops of chapter 27: for every input the law's function returns true, and every argument reads behind the call as it read before. No condition.
-/
import Derived.Test.YtgdcogoacnghkaaRows
import Derived.Test.YtgdcogoacnghkaaMg4
import Derived.Test.YtgdcogoacnghkaaQOmA
import Derived.OpenShut
namespace Go.Proofs.Ytgdcogoacnghkaa.machineStops
set_option linter.unusedSimpArgs false
set_option linter.unusedVariables false
set_option linter.unusedSectionVars false
open Go.ChangeShapes Go.WideShapes Go.ChangeAt Go.RowKit Go.Proofs.Ytgdcogoacnghkaa.Am
theorem own : ownKnob Try.prog.godebug = none := by kernel_rfl
theorem laidOut : laidOutB Try.prog = true := by kernel_rfl
def shape : Sh := (.fd (.agg (.fd (.slc (.agg (.fd (.int .u8) (.fd (.int .u8) (.fd (.int .u8) .en))))) .en)) (.fd (.agg (.fd (.int .u8) (.fd (.int .u8) (.fd (.int .u8) .en)))) .en))
theorem all_true : ∀ y : shape.T, shape.ok y → Am.Fn Try.prog 5 [0] (shape.pvs y) (.bool true) := by
  rintro ⟨⟨x, _⟩, ⟨a, b, c, _⟩, _⟩ ⟨⟨h1, _⟩, ⟨h2, h3, h4, _⟩, _⟩
  exact (by have := N.Stops_fn (x.map fun p => (p.1, p.2.1, p.2.2.1)) a b c (fun p hp => by obtain ⟨q, hq, rfl⟩ := List.mem_map.1 hp; have := h1.2 q hq; exact ⟨bounds_u8 this.1, bounds_u8 this.2.1, bounds_u8 this.2.2.1⟩) (bounds_u8 h2) (bounds_u8 h3) (bounds_u8 h4); simp only [N.TL, List.map_map] at this; exact this)
set_option maxRecDepth 100000 in
theorem lifted (os : Os) (started : os.Started) (H : Type) (enc : TypeId × Value → H) :
    ReturnsInHanded {} Try.checked os 5 .any (Rows.machineStopsSpec.pre6 enc Try.prog Try.f5 Rows.machineStopsRow.domain false) (Rows.machineStopsSpec.post enc Try.prog Try.f5 false true false false) :=
  law_lift (C := Try.checked) (F := shape) (n := 8) own started laidOut (by kernel_rfl) Try.func5
    (ChangeSpec.witness6 (enc := enc) (C := Try.checked) false ⟨#[], #[.agg #[.slice none 0 0], .agg #[.int .u8 0, .int .u8 0, .int .u8 0]], []⟩ 8 (by kernel_rfl) (by kernel_rfl) (by kernel_rfl) (by kernel_rfl))
    (by kernel_rfl) (by kernel_rfl) rfl (by kernel_rfl) rfl (fun ds h => by match ds, h with | [a, b], _ => rfl) all_true
theorem over : Rows.machineStopsRow.holds Try.pinned (OpenSpec.ofChange Rows.machineStopsSpec) :=
  OpenClaim.holds_of_wide 5 Try.f5 rfl rfl rfl rfl rfl rfl rfl ⟨rfl, rfl, rfl, rfl, rfl⟩ rfl rfl rfl rfl rfl (by kernel_rfl) Try.func5 (by kernel_rfl)
    (of_decide_eq_true (by kernel_rfl)) (by unfold Func.isWrapper; first | (rw [if_pos (by decide +kernel)]; kernel_rfl) | (rw [if_neg (by decide +kernel)]; exact ⟨rfl, rfl⟩))
    (fun os started H enc _ => lifted os started H enc)
theorem proved : Rows.MachineStopsSaid := over
end Go.Proofs.Ytgdcogoacnghkaa.machineStops
