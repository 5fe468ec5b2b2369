/-
  No cell of these rows narrows 'for every input' (looked for: loops, veiled, ifaces, maps, wideKeys, modest, calm, conditions, laid).
  DERIVED. THE GIVEN ROWS OF THIS SEAT. 3 by the template 'for every input the law returns true; each argument reads behind the call as it read before'; 0 by the template 'total and deterministic' (their statements: YtlicmhgpldmliaaTotals.lean).
  GIVEN WITH THE SEED: the statements are not yours to turn. If you find one false, say at which input.
  Laid BY PROGRAM, IN A SANDBOX (cutbox-rows.mjs): the forced cells as the released guide's own fill.sh prints them over the translation 1d4d3330ce01f841… (all of the seat's roots in one cut). By AI agents, Wed Nov 11 2026. No macro, syntax, notation, axiom, sorry.
-/
import Derived.Test.YtlicmhgpldmliaaChecked
import GoSem.Claim
import GoSem.ClaimJoined
import GoSem.ClaimMapViews
import Derived.JoinedTies
import Derived.KernelRfl
namespace Go.Proofs.Ytlicmhgpldmliaa
/- THE CELL 'sum', in the pinned program and in every row, IS THE sha256 OF THE DUMP (.gsa) THAT YtlicmhgpldmliaaProg.lean LOADS. Nothing in Lean hashes anything: it is a label: what it is worth is what the hold of that sum in a sandbox is worth. -/
noncomputable def Try.pinned : Pinned := { name := "ytlicmhgpldmliaa", sum := "1d4d3330ce01f841b10457a99d207268133b38c4e4de668b07d40fbf9e4a2451", checked := Try.checked }
namespace Rows
def none {H : Type} : Left H := { results := [], args := [] }

/-- 'supercargotop.TopLetters': WHATEVER THE INPUT: true; the input reads as it did. -/
def topLettersSpec : ChangeSpec := { name := "topLetters", fn := fun _ => fun
  | [d] => { results := [.lit (.bool true)], args := [d] }
  | _ => none }
def topLettersRow : OpenClaim := { program := "ytlicmhgpldmliaa", sum := "1d4d3330ce01f841b10457a99d207268133b38c4e4de668b07d40fbf9e4a2451", func := "supercargo/supercargotop.TopLetters", spec := "topLetters", unfollowed := true, recurses := true, named := ["math/bits.divideError", "math/bits.overflowError"], plainKeys := false, apart := false }
def TopLettersSaid : Prop := topLettersRow.holds Try.pinned (OpenSpec.ofChange topLettersSpec)

/-- ITS FALSE NEIGHBOUR: 'it returns false'. Refute it at one input. -/
def topLettersWrong : ChangeSpec := { name := "topLetters", fn := fun _ => fun
  | [d] => { results := [.lit (.bool false)], args := [d] }
  | _ => none }
def TopLettersWrongFalsely : Prop := topLettersRow.holds Try.pinned (OpenSpec.ofChange topLettersWrong)

/-- 'supercargotop.TopWay': WHATEVER THE INPUT: true; the input reads as it did. -/
def topWaySpec : ChangeSpec := { name := "topWay", fn := fun _ => fun
  | [d1, d2, d3] => { results := [.lit (.bool true)], args := [d1, d2, d3] }
  | _ => none }
def topWayRow : OpenClaim := { program := "ytlicmhgpldmliaa", sum := "1d4d3330ce01f841b10457a99d207268133b38c4e4de668b07d40fbf9e4a2451", func := "supercargo/supercargotop.TopWay", spec := "topWay", inPlace := ["maps.clone"], unfollowed := true, recurses := true, named := ["math/bits.divideError", "math/bits.overflowError"], plainKeys := false, apart := false }
def TopWaySaid : Prop := topWayRow.holds Try.pinned (OpenSpec.ofChange topWaySpec)

/-- ITS FALSE NEIGHBOUR: 'it returns false'. Refute it at one input. -/
def topWayWrong : ChangeSpec := { name := "topWay", fn := fun _ => fun
  | [d1, d2, d3] => { results := [.lit (.bool false)], args := [d1, d2, d3] }
  | _ => none }
def TopWayWrongFalsely : Prop := topWayRow.holds Try.pinned (OpenSpec.ofChange topWayWrong)

/-- 'supercargotop.TopLay': WHATEVER THE INPUT: true; the input reads as it did. -/
def topLaySpec : ChangeSpec := { name := "topLay", fn := fun _ => fun
  | [d1, d2, d3, d4, d5] => { results := [.lit (.bool true)], args := [d1, d2, d3, d4, d5] }
  | _ => none }
def topLayRow : OpenClaim := { program := "ytlicmhgpldmliaa", sum := "1d4d3330ce01f841b10457a99d207268133b38c4e4de668b07d40fbf9e4a2451", func := "supercargo/supercargotop.TopLay", spec := "topLay", unfollowed := true, recurses := true, plainKeys := false, apart := false }
def TopLaySaid : Prop := topLayRow.holds Try.pinned (OpenSpec.ofChange topLaySpec)

/-- ITS FALSE NEIGHBOUR: 'it returns false'. Refute it at one input. -/
def topLayWrong : ChangeSpec := { name := "topLay", fn := fun _ => fun
  | [d1, d2, d3, d4, d5] => { results := [.lit (.bool false)], args := [d1, d2, d3, d4, d5] }
  | _ => none }
def TopLayWrongFalsely : Prop := topLayRow.holds Try.pinned (OpenSpec.ofChange topLayWrong)

/- THE SECOND FORM. 'bulk': how many values and letters a reading holds, each counted each time it is reached (what is shared counts as often as it is met; a slice's spare places count too). A statement '..UptoSaid' is the law's where the arguments, and the package variables that the reading takes, are together of bulk at most 1048576: NARROWER than '..Said'. Prove '..Said' where nothing that the law and all that it calls make is longer than what came in: it says more and counts as full. Else prove '..UptoSaid'. A law counts once. -/
mutual
def uptoBulk {H : Type} : DataW H → Nat
  | .lit (.string bytes) => bytes.length + 1
  | .lit _ => 1
  | .nil => 1
  | .ptr d => uptoBulk d + 1
  | .slice elems spare => uptoBulkAll elems + uptoBulkAll spare + 1
  | .agg parts => uptoBulkAll parts + 1
  | .iface _ d => uptoBulk d + 1
  | .map entries => uptoBulkEntries entries + 1
  | .held _ => 1
def uptoBulkAll {H : Type} : List (DataW H) → Nat
  | [] => 0
  | d :: r => uptoBulk d + uptoBulkAll r
def uptoBulkEntries {H : Type} : List (Lit × DataW H) → Nat
  | [] => 0
  | x :: r => uptoBulkEntry x + uptoBulkEntries r
def uptoBulkEntry {H : Type} : Lit × DataW H → Nat
  | (.string bytes, d) => bytes.length + uptoBulk d + 1
  | (_, d) => uptoBulk d + 1
 end
def uptoSmall : (H : Type) → List (DataW H) → Bool := fun _ ds => decide (uptoBulkAll ds ≤ 1048576)
def OpenSpec.upto (s : _root_.Go.ChangeSpec) : _root_.Go.OpenSpec := { _root_.Go.OpenSpec.ofChange s with cond := some uptoSmall }

/-- 'supercargotop.TopLetters', WHERE WHAT IT READS IS OF BULK AT MOST 1048576: true; the input reads as it did. -/
def topLettersUptoRow : OpenClaim := { program := "ytlicmhgpldmliaa", sum := "1d4d3330ce01f841b10457a99d207268133b38c4e4de668b07d40fbf9e4a2451", func := "supercargo/supercargotop.TopLetters", spec := "topLetters", unfollowed := true, recurses := true, named := ["math/bits.divideError", "math/bits.overflowError"], plainKeys := false, apart := false, narrowed := true }
def TopLettersUptoSaid : Prop := topLettersUptoRow.holds Try.pinned (OpenSpec.upto topLettersSpec)

/-- 'supercargotop.TopWay', WHERE WHAT IT READS IS OF BULK AT MOST 1048576: true; the input reads as it did. -/
def topWayUptoRow : OpenClaim := { program := "ytlicmhgpldmliaa", sum := "1d4d3330ce01f841b10457a99d207268133b38c4e4de668b07d40fbf9e4a2451", func := "supercargo/supercargotop.TopWay", spec := "topWay", inPlace := ["maps.clone"], unfollowed := true, recurses := true, named := ["math/bits.divideError", "math/bits.overflowError"], plainKeys := false, apart := false, narrowed := true }
def TopWayUptoSaid : Prop := topWayUptoRow.holds Try.pinned (OpenSpec.upto topWaySpec)

/-- 'supercargotop.TopLay', WHERE WHAT IT READS IS OF BULK AT MOST 1048576: true; the input reads as it did. -/
def topLayUptoRow : OpenClaim := { program := "ytlicmhgpldmliaa", sum := "1d4d3330ce01f841b10457a99d207268133b38c4e4de668b07d40fbf9e4a2451", func := "supercargo/supercargotop.TopLay", spec := "topLay", unfollowed := true, recurses := true, plainKeys := false, apart := false, narrowed := true }
def TopLayUptoSaid : Prop := topLayUptoRow.holds Try.pinned (OpenSpec.upto topLaySpec)

end Rows
end Go.Proofs.Ytlicmhgpldmliaa
