/-
  DERIVED. GIVEN WITH THE SEED: THE CARDS: each row of YtdanjegnhdpnlaaGreatDoorRows.lean that lists a variable, with what it lists TIED to the program's text (the seventh form; the later family's looks); each row that meets fmt, with fmt's text TOLD by the authors' own Lean function (tested against real Go, not proved from fmt's source: count such statements apart). THE CARD IS WHAT COUNTS. Prove the row's statement (the work); the ties are given (YtdanjegnhdpnlaaGreatDoorTie.lean); close each card by the builder's one call (the guide's Derived/Test/ToyasCard.lean, 'card_holds'). Laid BY PROGRAM, IN A SANDBOX (cutbox-door.mjs). By AI agents, Wed Nov 11 2026. No macro, syntax, notation, axiom, sorry.
-/
import Derived.Test.YtdanjegnhdpnlaaGreatDoorRows
import GoSem.ClaimSeven
namespace Go.Proofs.YtdanjegnhdpnlaaGreatDoor
namespace Rows

/-- THE TIED CARD OF 'supercargolaw53.OfficePlays'. -/
def officePlaysCard : Claim7 := { stood := { row := officePlaysRow, standIns := [], harness := (true, "dcde4aa06f76e5336fd413d77548cde30d9db3dfb537e4a1a43ff0809ab004d7"), looks := false }, kinds := [], alts := [], laidByText := true, laidKinds := [.data, .data, .data], laidTests := true, laidLooks := .later }
def OfficePlaysCardSaid : Prop := Claim7.holds Tryz.pinned (.plain (OpenSpec.ofChange officePlaysSpec)) officePlaysCard

/-- THE SECOND FORM's CARD OF 'supercargolaw53.OfficePlays'. -/
def officePlaysUptoCard : Claim7 := { stood := { row := officePlaysUptoRow, standIns := [], harness := (true, "dcde4aa06f76e5336fd413d77548cde30d9db3dfb537e4a1a43ff0809ab004d7"), looks := false }, kinds := [], alts := [], laidByText := true, laidKinds := [.data, .data, .data], laidTests := true, laidLooks := .later }
def OfficePlaysUptoCardSaid : Prop := Claim7.holds Tryz.pinned (.plain (OpenSpec.upto officePlaysSpec)) officePlaysUptoCard
end Rows
end Go.Proofs.YtdanjegnhdpnlaaGreatDoor
