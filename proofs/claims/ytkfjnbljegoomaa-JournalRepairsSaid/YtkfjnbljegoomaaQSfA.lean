/-
  JournalRepairs of chapter 28: for every input the law's function returns true, and every argument reads behind the call as it read before. No condition.
-/
import Derived.Test.YtkfjnbljegoomaaRows
import Derived.Test.YtkfjnbljegoomaaMg4
import Derived.Test.YtkfjnbljegoomaaQJoA
import Derived.OpenShut
namespace Go.Proofs.Ytkfjnbljegoomaa.journalRepairs
set_option linter.unusedSimpArgs false
set_option linter.unusedVariables false
set_option linter.unusedSectionVars false
open Go.ChangeShapes Go.WideShapes Go.ChangeAt Go.RowKit Go.Proofs.Ytkfjnbljegoomaa.Am
theorem own : ownKnob Try.prog.godebug = none := by kernel_rfl
theorem laidOut : laidOutB Try.prog = true := by kernel_rfl
def shape : Sh := (.fd (.slc (.agg (.fd (.int .u8) (.fd (.int .u32) (.fd (.int .u32) .en))))) (.fd (.slc (.int .u8)) (.fd (.slc (.agg (.fd (.int .u8) (.fd (.int .u32) (.fd (.int .u32) .en))))) .en)))
theorem all_true : ∀ y : shape.T, shape.ok y → Am.Fn Try.prog 8 [0] (shape.pvs y) (.bool true) := by
  rintro ⟨l, r, k, _⟩ ⟨h0, h1, h2, _⟩
  exact (by have := J.Repairs_fn (l.map fun p => (p.1, p.2.1, p.2.2.1)) r (k.map fun p => (p.1, p.2.1, p.2.2.1)) (fun x hx => by obtain ⟨q, hq, rfl⟩ := List.mem_map.1 hx; have := h0.2 q hq; exact ⟨bounds_u8 this.1, bounds_u32 this.2.1, bounds_u32 this.2.2.1⟩) (fun c hc => bounds_u8 (h1.2 c hc)) (fun x hx => by obtain ⟨q, hq, rfl⟩ := List.mem_map.1 hx; have := h2.2 q hq; exact ⟨bounds_u8 this.1, bounds_u32 this.2.1, bounds_u32 this.2.2.1⟩); rw [List.map_map, List.map_map] at this; exact this)
set_option maxRecDepth 100000 in
theorem lifted (os : Os) (started : os.Started) (H : Type) (enc : TypeId × Value → H) :
    ReturnsInHanded {} Try.checked os 8 .any (Rows.journalRepairsSpec.pre6 enc Try.prog Try.f8 Rows.journalRepairsRow.domain false) (Rows.journalRepairsSpec.post enc Try.prog Try.f8 false true false false) :=
  law_lift (C := Try.checked) (F := shape) (n := 8) own started laidOut (by kernel_rfl) Try.func8
    (ChangeSpec.witness6 (enc := enc) (C := Try.checked) false ⟨#[], #[.slice none 0 0, .slice none 0 0, .slice none 0 0], []⟩ 8 (by kernel_rfl) (by kernel_rfl) (by kernel_rfl) (by kernel_rfl))
    (by kernel_rfl) (by kernel_rfl) rfl (by kernel_rfl) rfl (fun ds h => by match ds, h with | [a, b, c], _ => rfl) all_true
theorem over : Rows.journalRepairsRow.holds Try.pinned (OpenSpec.ofChange Rows.journalRepairsSpec) :=
  OpenClaim.holds_of_wide 8 Try.f8 rfl rfl rfl rfl rfl rfl rfl ⟨rfl, rfl, rfl, rfl, rfl⟩ rfl rfl rfl rfl rfl (by kernel_rfl) Try.func8 (by kernel_rfl)
    (of_decide_eq_true (by kernel_rfl)) (by unfold Func.isWrapper; first | (rw [if_pos (by decide +kernel)]; kernel_rfl) | (rw [if_neg (by decide +kernel)]; exact ⟨rfl, rfl⟩))
    (fun os started H enc _ => lifted os started H enc)
theorem proved : Rows.JournalRepairsSaid := over
end Go.Proofs.Ytkfjnbljegoomaa.journalRepairs
