/-
  DERIVED. GIVEN WITH THE SEED: THE CARDS: each row of YtlaclkiedjhphaaGreatDoorRows.lean that lists a variable, with what it lists TIED to the program's text (the seventh form; the later family's looks); each row that meets fmt, with fmt's text TOLD by the authors' own Lean function (tested against real Go, not proved from fmt's source: count such statements apart). THE CARD IS WHAT COUNTS. Prove the row's statement (the work); the ties are given (YtlaclkiedjhphaaGreatDoorTie.lean); close each card by the builder's one call (the guide's Derived/Test/ToyasCard.lean, 'card_holds'). Laid BY PROGRAM, IN A SANDBOX (cutbox-door.mjs). By AI agents, Wed Nov 11 2026. No macro, syntax, notation, axiom, sorry.
-/
import Derived.Test.YtlaclkiedjhphaaGreatDoorRows
import GoSem.ClaimSeven
namespace Go.Proofs.YtlaclkiedjhphaaGreatDoor
namespace Rows

/-- THE TIED CARD OF 'supercargolaw38.DraftDue'. -/
def draftDueCard : Claim7 := { stood := { row := draftDueRow, standIns := [], harness := (true, "7baaf7584a30085cfd9827b82ea98cdc6158f149f3956ed64bd7f67af86c93dc"), looks := true }, kinds := [], alts := [], laidByText := true, laidKinds := [.data, .data, .data], laidTests := true, laidLooks := .later }
def DraftDueCardSaid : Prop := Claim7.holds Tryz.pinned (.plain (OpenSpec.ofChange draftDueSpec)) draftDueCard

/-- THE SECOND FORM's CARD OF 'supercargolaw38.DraftDue'. -/
def draftDueUptoCard : Claim7 := { stood := { row := draftDueUptoRow, standIns := [], harness := (true, "7baaf7584a30085cfd9827b82ea98cdc6158f149f3956ed64bd7f67af86c93dc"), looks := true }, kinds := [], alts := [], laidByText := true, laidKinds := [.data, .data, .data], laidTests := true, laidLooks := .later }
def DraftDueUptoCardSaid : Prop := Claim7.holds Tryz.pinned (.plain (OpenSpec.upto draftDueSpec)) draftDueUptoCard
end Rows
end Go.Proofs.YtlaclkiedjhphaaGreatDoor
