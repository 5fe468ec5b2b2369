/-
  DERIVED. GIVEN WITH THE SEED: THE CARDS: each row of YtlicmhgpldmliaaDoorRows.lean that lists a variable, with what it lists TIED to the program's text (the seventh form; the later family's looks); each row that meets fmt, with fmt's text TOLD by the authors' own Lean function (tested against real Go, not proved from fmt's source: count such statements apart). THE CARD IS WHAT COUNTS. Prove the row's statement (the work); the ties are given (YtlicmhgpldmliaaDoorTie.lean); close each card by the builder's one call (the guide's Derived/Test/ToyasCard.lean, 'card_holds'). Laid BY PROGRAM, IN A SANDBOX (cutbox-door.mjs). By AI agents, Wed Nov 11 2026. No macro, syntax, notation, axiom, sorry.
-/
import Derived.Test.YtlicmhgpldmliaaDoorRows
import GoSem.ClaimSeven
namespace Go.Proofs.YtlicmhgpldmliaaDoor
namespace Rows

/-- THE TIED CARD OF 'supercargotop.TopTime'. -/
def topTimeCard : Claim7 := { stood := { row := topTimeRow, standIns := [], harness := (true, "34c4d159d62807a7a3393e12abbfd90c36b9d67ed2a70730b2b27541a7c6d251"), looks := false }, kinds := [], alts := [], laidByText := true, laidKinds := [.data, .data, .data], laidTests := true, laidLooks := .later }
def TopTimeCardSaid : Prop := Claim7.holds Tryd.pinned (.plain (OpenSpec.ofChange topTimeSpec)) topTimeCard

/-- THE SECOND FORM's CARD OF 'supercargotop.TopTime'. -/
def topTimeUptoCard : Claim7 := { stood := { row := topTimeUptoRow, standIns := [], harness := (true, "34c4d159d62807a7a3393e12abbfd90c36b9d67ed2a70730b2b27541a7c6d251"), looks := false }, kinds := [], alts := [], laidByText := true, laidKinds := [.data, .data, .data], laidTests := true, laidLooks := .later }
def TopTimeUptoCardSaid : Prop := Claim7.holds Tryd.pinned (.plain (OpenSpec.upto topTimeSpec)) topTimeUptoCard
end Rows
end Go.Proofs.YtlicmhgpldmliaaDoor
