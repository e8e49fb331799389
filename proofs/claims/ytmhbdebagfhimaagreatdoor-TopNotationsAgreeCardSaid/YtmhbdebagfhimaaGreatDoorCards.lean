/-
  DERIVED. GIVEN WITH THE SEED: THE CARDS: each row of YtmhbdebagfhimaaGreatDoorRows.lean that lists a variable, with what it lists TIED to the program's text (the seventh form; the later family's looks); each row that meets fmt, with fmt's text TOLD by the authors' own Lean function (tested against real Go, not proved from fmt's source: count such statements apart). THE CARD IS WHAT COUNTS. Prove the row's statement (the work); the ties are given (YtmhbdebagfhimaaGreatDoorTie.lean); close each card by the builder's one call (the guide's Derived/Test/ToyasCard.lean, 'card_holds'). Laid BY PROGRAM, IN A SANDBOX (cutbox-door.mjs). By AI agents, Wed Nov 11 2026. No macro, syntax, notation, axiom, sorry.
-/
import Derived.Test.YtmhbdebagfhimaaGreatDoorRows
import GoSem.ClaimSeven
namespace Go.Proofs.YtmhbdebagfhimaaGreatDoor
namespace Rows

/-- THE TIED CARD OF 'sixdottop.TopNotationsAgree'. -/
def topNotationsAgreeCard : Claim7 := { stood := { row := topNotationsAgreeRow, standIns := [], harness := (true, "f8d829afd785d0b7dc22aae7c97f4cf650916c93816e6217e44b384f56bd801e"), looks := false }, kinds := [], alts := [], laidByText := true, laidKinds := [.data, .data, .data], laidTests := true, laidLooks := .later }
def TopNotationsAgreeCardSaid : Prop := Claim7.holds Tryz.pinned (.plain (OpenSpec.ofChange topNotationsAgreeSpec)) topNotationsAgreeCard

/-- THE SECOND FORM's CARD OF 'sixdottop.TopNotationsAgree'. -/
def topNotationsAgreeUptoCard : Claim7 := { stood := { row := topNotationsAgreeUptoRow, standIns := [], harness := (true, "f8d829afd785d0b7dc22aae7c97f4cf650916c93816e6217e44b384f56bd801e"), looks := false }, kinds := [], alts := [], laidByText := true, laidKinds := [.data, .data, .data], laidTests := true, laidLooks := .later }
def TopNotationsAgreeUptoCardSaid : Prop := Claim7.holds Tryz.pinned (.plain (OpenSpec.upto topNotationsAgreeSpec)) topNotationsAgreeUptoCard
end Rows
end Go.Proofs.YtmhbdebagfhimaaGreatDoor
