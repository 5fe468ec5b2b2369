/-
  No cell of these rows narrows 'for every input' (looked for: loops, veiled, ifaces, maps, wideKeys, modest, calm, conditions, laid).
  DERIVED. THE GIVEN ROWS OF THIS SEAT. 6 by the template 'for every input the law returns true; each argument reads behind the call as it read before'; 0 by the template 'total and deterministic' (their statements: YteannbphaodadaaTotals.lean).
  GIVEN WITH THE SEED: the statements are not yours to turn. If you find one false, say at which input.
  Laid BY PROGRAM, IN A SANDBOX (cutbox-rows.mjs): the forced cells as the released guide's own fill.sh prints them over the translation 995dcdc2a4baf4bb… (all of the seat's roots in one cut). By AI agents, Wed Nov 11 2026. No macro, syntax, notation, axiom, sorry.
-/
import Derived.Test.YteannbphaodadaaChecked
import GoSem.Claim
import GoSem.ClaimJoined
import GoSem.ClaimMapViews
import Derived.JoinedTies
import Derived.KernelRfl
namespace Go.Proofs.Yteannbphaodadaa
/- THE CELL 'sum', in the pinned program and in every row, IS THE sha256 OF THE DUMP (.gsa) THAT YteannbphaodadaaProg.lean LOADS. Nothing in Lean hashes anything: it is a label: what it is worth is what the hold of that sum in a sandbox is worth. -/
noncomputable def Try.pinned : Pinned := { name := "yteannbphaodadaa", sum := "995dcdc2a4baf4bb36a0421717b691b124f8d5b5aed2c4a59bdd8622d4917694", checked := Try.checked }
namespace Rows
def none {H : Type} : Left H := { results := [], args := [] }

/-- 'supercargolaw38.DraftWay': WHATEVER THE INPUT: true; the input reads as it did. -/
def draftWaySpec : ChangeSpec := { name := "draftWay", fn := fun _ => fun
  | [d1, d2, d3] => { results := [.lit (.bool true)], args := [d1, d2, d3] }
  | _ => none }
def draftWayRow : OpenClaim := { program := "yteannbphaodadaa", sum := "995dcdc2a4baf4bb36a0421717b691b124f8d5b5aed2c4a59bdd8622d4917694", func := "supercargo/supercargolaw38.DraftWay", spec := "draftWay", inPlace := ["maps.clone"], unfollowed := true, recurses := true, apart := false }
def DraftWaySaid : Prop := draftWayRow.holds Try.pinned (OpenSpec.ofChange draftWaySpec)

/-- ITS FALSE NEIGHBOUR: 'it returns false'. Refute it at one input. -/
def draftWayWrong : ChangeSpec := { name := "draftWay", fn := fun _ => fun
  | [d1, d2, d3] => { results := [.lit (.bool false)], args := [d1, d2, d3] }
  | _ => none }
def DraftWayWrongFalsely : Prop := draftWayRow.holds Try.pinned (OpenSpec.ofChange draftWayWrong)

/-- 'supercargolaw38.DraftPlays': WHATEVER THE INPUT: true; the input reads as it did. -/
def draftPlaysSpec : ChangeSpec := { name := "draftPlays", fn := fun _ => fun
  | [d1, d2] => { results := [.lit (.bool true)], args := [d1, d2] }
  | _ => none }
def draftPlaysRow : OpenClaim := { program := "yteannbphaodadaa", sum := "995dcdc2a4baf4bb36a0421717b691b124f8d5b5aed2c4a59bdd8622d4917694", func := "supercargo/supercargolaw38.DraftPlays", spec := "draftPlays", inPlace := ["maps.clone"], unfollowed := true, recurses := true, apart := false }
def DraftPlaysSaid : Prop := draftPlaysRow.holds Try.pinned (OpenSpec.ofChange draftPlaysSpec)

/-- ITS FALSE NEIGHBOUR: 'it returns false'. Refute it at one input. -/
def draftPlaysWrong : ChangeSpec := { name := "draftPlays", fn := fun _ => fun
  | [d1, d2] => { results := [.lit (.bool false)], args := [d1, d2] }
  | _ => none }
def DraftPlaysWrongFalsely : Prop := draftPlaysRow.holds Try.pinned (OpenSpec.ofChange draftPlaysWrong)

/-- 'supercargolaw38.DraftOnce': WHATEVER THE INPUT: true; the input reads as it did. -/
def draftOnceSpec : ChangeSpec := { name := "draftOnce", fn := fun _ => fun
  | [d1, d2] => { results := [.lit (.bool true)], args := [d1, d2] }
  | _ => none }
def draftOnceRow : OpenClaim := { program := "yteannbphaodadaa", sum := "995dcdc2a4baf4bb36a0421717b691b124f8d5b5aed2c4a59bdd8622d4917694", func := "supercargo/supercargolaw38.DraftOnce", spec := "draftOnce", inPlace := ["maps.clone"], unfollowed := true, recurses := true, apart := false }
def DraftOnceSaid : Prop := draftOnceRow.holds Try.pinned (OpenSpec.ofChange draftOnceSpec)

/-- ITS FALSE NEIGHBOUR: 'it returns false'. Refute it at one input. -/
def draftOnceWrong : ChangeSpec := { name := "draftOnce", fn := fun _ => fun
  | [d1, d2] => { results := [.lit (.bool false)], args := [d1, d2] }
  | _ => none }
def DraftOnceWrongFalsely : Prop := draftOnceRow.holds Try.pinned (OpenSpec.ofChange draftOnceWrong)

/-- 'supercargolaw38.DraftLiable': WHATEVER THE INPUT: true; the input reads as it did. -/
def draftLiableSpec : ChangeSpec := { name := "draftLiable", fn := fun _ => fun
  | [d1, d2] => { results := [.lit (.bool true)], args := [d1, d2] }
  | _ => none }
def draftLiableRow : OpenClaim := { program := "yteannbphaodadaa", sum := "995dcdc2a4baf4bb36a0421717b691b124f8d5b5aed2c4a59bdd8622d4917694", func := "supercargo/supercargolaw38.DraftLiable", spec := "draftLiable", inPlace := ["maps.clone"], unfollowed := true, recurses := true, apart := false }
def DraftLiableSaid : Prop := draftLiableRow.holds Try.pinned (OpenSpec.ofChange draftLiableSpec)

/-- ITS FALSE NEIGHBOUR: 'it returns false'. Refute it at one input. -/
def draftLiableWrong : ChangeSpec := { name := "draftLiable", fn := fun _ => fun
  | [d1, d2] => { results := [.lit (.bool false)], args := [d1, d2] }
  | _ => none }
def DraftLiableWrongFalsely : Prop := draftLiableRow.holds Try.pinned (OpenSpec.ofChange draftLiableWrong)

/-- 'supercargolaw38.DraftCopies': WHATEVER THE INPUT: true; the input reads as it did. -/
def draftCopiesSpec : ChangeSpec := { name := "draftCopies", fn := fun _ => fun
  | [d1, d2, d3] => { results := [.lit (.bool true)], args := [d1, d2, d3] }
  | _ => none }
def draftCopiesRow : OpenClaim := { program := "yteannbphaodadaa", sum := "995dcdc2a4baf4bb36a0421717b691b124f8d5b5aed2c4a59bdd8622d4917694", func := "supercargo/supercargolaw38.DraftCopies", spec := "draftCopies", inPlace := ["maps.clone"], unfollowed := true, recurses := true, apart := false }
def DraftCopiesSaid : Prop := draftCopiesRow.holds Try.pinned (OpenSpec.ofChange draftCopiesSpec)

/-- ITS FALSE NEIGHBOUR: 'it returns false'. Refute it at one input. -/
def draftCopiesWrong : ChangeSpec := { name := "draftCopies", fn := fun _ => fun
  | [d1, d2, d3] => { results := [.lit (.bool false)], args := [d1, d2, d3] }
  | _ => none }
def DraftCopiesWrongFalsely : Prop := draftCopiesRow.holds Try.pinned (OpenSpec.ofChange draftCopiesWrong)

/-- 'supercargolaw38.DraftRises': WHATEVER THE INPUT: true; the input reads as it did. -/
def draftRisesSpec : ChangeSpec := { name := "draftRises", fn := fun _ => fun
  | [d1, d2, d3] => { results := [.lit (.bool true)], args := [d1, d2, d3] }
  | _ => none }
def draftRisesRow : OpenClaim := { program := "yteannbphaodadaa", sum := "995dcdc2a4baf4bb36a0421717b691b124f8d5b5aed2c4a59bdd8622d4917694", func := "supercargo/supercargolaw38.DraftRises", spec := "draftRises", inPlace := ["maps.clone"], unfollowed := true, recurses := true, apart := false }
def DraftRisesSaid : Prop := draftRisesRow.holds Try.pinned (OpenSpec.ofChange draftRisesSpec)

/-- ITS FALSE NEIGHBOUR: 'it returns false'. Refute it at one input. -/
def draftRisesWrong : ChangeSpec := { name := "draftRises", fn := fun _ => fun
  | [d1, d2, d3] => { results := [.lit (.bool false)], args := [d1, d2, d3] }
  | _ => none }
def DraftRisesWrongFalsely : Prop := draftRisesRow.holds Try.pinned (OpenSpec.ofChange draftRisesWrong)

/- THE SECOND FORM. 'bulk': how many values and letters a reading holds, each counted each time it is reached (what is shared counts as often as it is met; a slice's spare places count too). A statement '..UptoSaid' is the law's where the arguments, and the package variables that the reading takes, are together of bulk at most 1048576: NARROWER than '..Said'. Prove '..Said' where nothing that the law and all that it calls make is longer than what came in: it says more and counts as full. Else prove '..UptoSaid'. A law counts once. -/
mutual
def uptoBulk {H : Type} : DataW H → Nat
  | .lit (.string bytes) => bytes.length + 1
  | .lit _ => 1
  | .nil => 1
  | .ptr d => uptoBulk d + 1
  | .slice elems spare => uptoBulkAll elems + uptoBulkAll spare + 1
  | .agg parts => uptoBulkAll parts + 1
  | .iface _ d => uptoBulk d + 1
  | .map entries => uptoBulkEntries entries + 1
  | .held _ => 1
def uptoBulkAll {H : Type} : List (DataW H) → Nat
  | [] => 0
  | d :: r => uptoBulk d + uptoBulkAll r
def uptoBulkEntries {H : Type} : List (Lit × DataW H) → Nat
  | [] => 0
  | x :: r => uptoBulkEntry x + uptoBulkEntries r
def uptoBulkEntry {H : Type} : Lit × DataW H → Nat
  | (.string bytes, d) => bytes.length + uptoBulk d + 1
  | (_, d) => uptoBulk d + 1
 end
def uptoSmall : (H : Type) → List (DataW H) → Bool := fun _ ds => decide (uptoBulkAll ds ≤ 1048576)
def OpenSpec.upto (s : _root_.Go.ChangeSpec) : _root_.Go.OpenSpec := { _root_.Go.OpenSpec.ofChange s with cond := some uptoSmall }

/-- 'supercargolaw38.DraftWay', WHERE WHAT IT READS IS OF BULK AT MOST 1048576: true; the input reads as it did. -/
def draftWayUptoRow : OpenClaim := { program := "yteannbphaodadaa", sum := "995dcdc2a4baf4bb36a0421717b691b124f8d5b5aed2c4a59bdd8622d4917694", func := "supercargo/supercargolaw38.DraftWay", spec := "draftWay", inPlace := ["maps.clone"], unfollowed := true, recurses := true, apart := false, narrowed := true }
def DraftWayUptoSaid : Prop := draftWayUptoRow.holds Try.pinned (OpenSpec.upto draftWaySpec)

/-- 'supercargolaw38.DraftPlays', WHERE WHAT IT READS IS OF BULK AT MOST 1048576: true; the input reads as it did. -/
def draftPlaysUptoRow : OpenClaim := { program := "yteannbphaodadaa", sum := "995dcdc2a4baf4bb36a0421717b691b124f8d5b5aed2c4a59bdd8622d4917694", func := "supercargo/supercargolaw38.DraftPlays", spec := "draftPlays", inPlace := ["maps.clone"], unfollowed := true, recurses := true, apart := false, narrowed := true }
def DraftPlaysUptoSaid : Prop := draftPlaysUptoRow.holds Try.pinned (OpenSpec.upto draftPlaysSpec)

/-- 'supercargolaw38.DraftOnce', WHERE WHAT IT READS IS OF BULK AT MOST 1048576: true; the input reads as it did. -/
def draftOnceUptoRow : OpenClaim := { program := "yteannbphaodadaa", sum := "995dcdc2a4baf4bb36a0421717b691b124f8d5b5aed2c4a59bdd8622d4917694", func := "supercargo/supercargolaw38.DraftOnce", spec := "draftOnce", inPlace := ["maps.clone"], unfollowed := true, recurses := true, apart := false, narrowed := true }
def DraftOnceUptoSaid : Prop := draftOnceUptoRow.holds Try.pinned (OpenSpec.upto draftOnceSpec)

/-- 'supercargolaw38.DraftLiable', WHERE WHAT IT READS IS OF BULK AT MOST 1048576: true; the input reads as it did. -/
def draftLiableUptoRow : OpenClaim := { program := "yteannbphaodadaa", sum := "995dcdc2a4baf4bb36a0421717b691b124f8d5b5aed2c4a59bdd8622d4917694", func := "supercargo/supercargolaw38.DraftLiable", spec := "draftLiable", inPlace := ["maps.clone"], unfollowed := true, recurses := true, apart := false, narrowed := true }
def DraftLiableUptoSaid : Prop := draftLiableUptoRow.holds Try.pinned (OpenSpec.upto draftLiableSpec)

/-- 'supercargolaw38.DraftCopies', WHERE WHAT IT READS IS OF BULK AT MOST 1048576: true; the input reads as it did. -/
def draftCopiesUptoRow : OpenClaim := { program := "yteannbphaodadaa", sum := "995dcdc2a4baf4bb36a0421717b691b124f8d5b5aed2c4a59bdd8622d4917694", func := "supercargo/supercargolaw38.DraftCopies", spec := "draftCopies", inPlace := ["maps.clone"], unfollowed := true, recurses := true, apart := false, narrowed := true }
def DraftCopiesUptoSaid : Prop := draftCopiesUptoRow.holds Try.pinned (OpenSpec.upto draftCopiesSpec)

/-- 'supercargolaw38.DraftRises', WHERE WHAT IT READS IS OF BULK AT MOST 1048576: true; the input reads as it did. -/
def draftRisesUptoRow : OpenClaim := { program := "yteannbphaodadaa", sum := "995dcdc2a4baf4bb36a0421717b691b124f8d5b5aed2c4a59bdd8622d4917694", func := "supercargo/supercargolaw38.DraftRises", spec := "draftRises", inPlace := ["maps.clone"], unfollowed := true, recurses := true, apart := false, narrowed := true }
def DraftRisesUptoSaid : Prop := draftRisesUptoRow.holds Try.pinned (OpenSpec.upto draftRisesSpec)

end Rows
end Go.Proofs.Yteannbphaodadaa
