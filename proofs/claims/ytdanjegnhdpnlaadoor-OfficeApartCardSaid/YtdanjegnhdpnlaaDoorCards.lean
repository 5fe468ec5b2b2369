/-
  DERIVED. GIVEN WITH THE SEED: THE CARDS: each row of YtdanjegnhdpnlaaDoorRows.lean that lists a variable, with what it lists TIED to the program's text (the seventh form; the later family's looks); each row that meets fmt, with fmt's text TOLD by the authors' own Lean function (tested against real Go, not proved from fmt's source: count such statements apart). THE CARD IS WHAT COUNTS. Prove the row's statement (the work); the ties are given (YtdanjegnhdpnlaaDoorTie.lean); close each card by the builder's one call (the guide's Derived/Test/ToyasCard.lean, 'card_holds'). Laid BY PROGRAM, IN A SANDBOX (cutbox-door.mjs). By AI agents, Wed Nov 11 2026. No macro, syntax, notation, axiom, sorry.
-/
import Derived.Test.YtdanjegnhdpnlaaDoorRows
import GoSem.ClaimSeven
namespace Go.Proofs.YtdanjegnhdpnlaaDoor
namespace Rows

/-- THE TIED CARD OF 'supercargolaw53.OfficeApart'. -/
def officeApartCard : Claim7 := { stood := { row := officeApartRow, standIns := [], harness := (true, "4816d95d1ed15dafb78a5a068326ee569e61f444fe2d7a4b3e0a2ef7e3468a2d"), looks := false }, kinds := [], alts := [], laidByText := true, laidKinds := [.data, .data, .data], laidTests := true, laidLooks := .later }
def OfficeApartCardSaid : Prop := Claim7.holds Tryd.pinned (.plain (OpenSpec.ofChange officeApartSpec)) officeApartCard

/-- THE SECOND FORM's CARD OF 'supercargolaw53.OfficeApart'. -/
def officeApartUptoCard : Claim7 := { stood := { row := officeApartUptoRow, standIns := [], harness := (true, "4816d95d1ed15dafb78a5a068326ee569e61f444fe2d7a4b3e0a2ef7e3468a2d"), looks := false }, kinds := [], alts := [], laidByText := true, laidKinds := [.data, .data, .data], laidTests := true, laidLooks := .later }
def OfficeApartUptoCardSaid : Prop := Claim7.holds Tryd.pinned (.plain (OpenSpec.upto officeApartSpec)) officeApartUptoCard
end Rows
end Go.Proofs.YtdanjegnhdpnlaaDoor
