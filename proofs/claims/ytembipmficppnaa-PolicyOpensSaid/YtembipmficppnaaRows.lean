/-
  No cell of these rows narrows 'for every input' (looked for: loops, veiled, ifaces, maps, wideKeys, modest, calm, conditions, laid).
  DERIVED. THE GIVEN ROWS OF THIS SEAT. 6 by the template 'for every input the law returns true; each argument reads behind the call as it read before'; 0 by the template 'total and deterministic' (their statements: YtembipmficppnaaTotals.lean).
  GIVEN WITH THE SEED: the statements are not yours to turn. If you find one false, say at which input.
  Laid BY PROGRAM, IN A SANDBOX (cutbox-rows.mjs): the forced cells as the released guide's own fill.sh prints them over the translation 2dfb0f301b9a2e5c… (all of the seat's roots in one cut). By AI agents, Wed Nov 11 2026. No macro, syntax, notation, axiom, sorry.
-/
import Derived.Test.YtembipmficppnaaChecked
import GoSem.Claim
import GoSem.ClaimJoined
import GoSem.ClaimMapViews
import Derived.JoinedTies
import Derived.KernelRfl
namespace Go.Proofs.Ytembipmficppnaa
/- THE CELL 'sum', in the pinned program and in every row, IS THE sha256 OF THE DUMP (.gsa) THAT YtembipmficppnaaProg.lean LOADS. Nothing in Lean hashes anything: it is a label: what it is worth is what the hold of that sum in a sandbox is worth. -/
noncomputable def Try.pinned : Pinned := { name := "ytembipmficppnaa", sum := "2dfb0f301b9a2e5cc0faf2f44c96e2bf393bad3a6e240436cca6777119696950", checked := Try.checked }
namespace Rows
def none {H : Type} : Left H := { results := [], args := [] }

/-- 'supercargolaw42.PolicyPays': WHATEVER THE INPUT: true; the input reads as it did. -/
def policyPaysSpec : ChangeSpec := { name := "policyPays", fn := fun _ => fun
  | [d1, d2, d3] => { results := [.lit (.bool true)], args := [d1, d2, d3] }
  | _ => none }
def policyPaysRow : OpenClaim := { program := "ytembipmficppnaa", sum := "2dfb0f301b9a2e5cc0faf2f44c96e2bf393bad3a6e240436cca6777119696950", func := "supercargo/supercargolaw42.PolicyPays", spec := "policyPays", named := ["math/bits.divideError", "math/bits.overflowError"], apart := false }
def PolicyPaysSaid : Prop := policyPaysRow.holds Try.pinned (OpenSpec.ofChange policyPaysSpec)

/-- ITS FALSE NEIGHBOUR: 'it returns false'. Refute it at one input. -/
def policyPaysWrong : ChangeSpec := { name := "policyPays", fn := fun _ => fun
  | [d1, d2, d3] => { results := [.lit (.bool false)], args := [d1, d2, d3] }
  | _ => none }
def PolicyPaysWrongFalsely : Prop := policyPaysRow.holds Try.pinned (OpenSpec.ofChange policyPaysWrong)

/-- 'supercargolaw42.PolicyMore': WHATEVER THE INPUT: true; the input reads as it did. -/
def policyMoreSpec : ChangeSpec := { name := "policyMore", fn := fun _ => fun
  | [d1, d2, d3, d4, d5] => { results := [.lit (.bool true)], args := [d1, d2, d3, d4, d5] }
  | _ => none }
def policyMoreRow : OpenClaim := { program := "ytembipmficppnaa", sum := "2dfb0f301b9a2e5cc0faf2f44c96e2bf393bad3a6e240436cca6777119696950", func := "supercargo/supercargolaw42.PolicyMore", spec := "policyMore", named := ["math/bits.divideError", "math/bits.overflowError"], apart := false }
def PolicyMoreSaid : Prop := policyMoreRow.holds Try.pinned (OpenSpec.ofChange policyMoreSpec)

/-- ITS FALSE NEIGHBOUR: 'it returns false'. Refute it at one input. -/
def policyMoreWrong : ChangeSpec := { name := "policyMore", fn := fun _ => fun
  | [d1, d2, d3, d4, d5] => { results := [.lit (.bool false)], args := [d1, d2, d3, d4, d5] }
  | _ => none }
def PolicyMoreWrongFalsely : Prop := policyMoreRow.holds Try.pinned (OpenSpec.ofChange policyMoreWrong)

/-- 'supercargolaw42.PolicyShares': WHATEVER THE INPUT: true; the input reads as it did. -/
def policySharesSpec : ChangeSpec := { name := "policyShares", fn := fun _ => fun
  | [d1, d2, d3, d4] => { results := [.lit (.bool true)], args := [d1, d2, d3, d4] }
  | _ => none }
def policySharesRow : OpenClaim := { program := "ytembipmficppnaa", sum := "2dfb0f301b9a2e5cc0faf2f44c96e2bf393bad3a6e240436cca6777119696950", func := "supercargo/supercargolaw42.PolicyShares", spec := "policyShares", named := ["math/bits.divideError", "math/bits.overflowError"], apart := false }
def PolicySharesSaid : Prop := policySharesRow.holds Try.pinned (OpenSpec.ofChange policySharesSpec)

/-- ITS FALSE NEIGHBOUR: 'it returns false'. Refute it at one input. -/
def policySharesWrong : ChangeSpec := { name := "policyShares", fn := fun _ => fun
  | [d1, d2, d3, d4] => { results := [.lit (.bool false)], args := [d1, d2, d3, d4] }
  | _ => none }
def PolicySharesWrongFalsely : Prop := policySharesRow.holds Try.pinned (OpenSpec.ofChange policySharesWrong)

/-- 'supercargolaw42.PolicyCovers': WHATEVER THE INPUT: true; the input reads as it did. -/
def policyCoversSpec : ChangeSpec := { name := "policyCovers", fn := fun _ => fun
  | [d1, d2, d3, d4] => { results := [.lit (.bool true)], args := [d1, d2, d3, d4] }
  | _ => none }
def policyCoversRow : OpenClaim := { program := "ytembipmficppnaa", sum := "2dfb0f301b9a2e5cc0faf2f44c96e2bf393bad3a6e240436cca6777119696950", func := "supercargo/supercargolaw42.PolicyCovers", spec := "policyCovers", unfollowed := true, recurses := true, named := ["math/bits.divideError", "math/bits.overflowError"], apart := false }
def PolicyCoversSaid : Prop := policyCoversRow.holds Try.pinned (OpenSpec.ofChange policyCoversSpec)

/-- ITS FALSE NEIGHBOUR: 'it returns false'. Refute it at one input. -/
def policyCoversWrong : ChangeSpec := { name := "policyCovers", fn := fun _ => fun
  | [d1, d2, d3, d4] => { results := [.lit (.bool false)], args := [d1, d2, d3, d4] }
  | _ => none }
def PolicyCoversWrongFalsely : Prop := policyCoversRow.holds Try.pinned (OpenSpec.ofChange policyCoversWrong)

/-- 'supercargolaw42.PolicyDays': WHATEVER THE INPUT: true; the input reads as it did. -/
def policyDaysSpec : ChangeSpec := { name := "policyDays", fn := fun _ => fun
  | [d1, d2, d3, d4, d5, d6] => { results := [.lit (.bool true)], args := [d1, d2, d3, d4, d5, d6] }
  | _ => none }
def policyDaysRow : OpenClaim := { program := "ytembipmficppnaa", sum := "2dfb0f301b9a2e5cc0faf2f44c96e2bf393bad3a6e240436cca6777119696950", func := "supercargo/supercargolaw42.PolicyDays", spec := "policyDays", unfollowed := true, recurses := true, named := ["math/bits.divideError", "math/bits.overflowError"], apart := false }
def PolicyDaysSaid : Prop := policyDaysRow.holds Try.pinned (OpenSpec.ofChange policyDaysSpec)

/-- ITS FALSE NEIGHBOUR: 'it returns false'. Refute it at one input. -/
def policyDaysWrong : ChangeSpec := { name := "policyDays", fn := fun _ => fun
  | [d1, d2, d3, d4, d5, d6] => { results := [.lit (.bool false)], args := [d1, d2, d3, d4, d5, d6] }
  | _ => none }
def PolicyDaysWrongFalsely : Prop := policyDaysRow.holds Try.pinned (OpenSpec.ofChange policyDaysWrong)

/-- 'supercargolaw42.PolicyOpens': WHATEVER THE INPUT: true; the input reads as it did. -/
def policyOpensSpec : ChangeSpec := { name := "policyOpens", fn := fun _ => fun
  | [d1, d2, d3] => { results := [.lit (.bool true)], args := [d1, d2, d3] }
  | _ => none }
def policyOpensRow : OpenClaim := { program := "ytembipmficppnaa", sum := "2dfb0f301b9a2e5cc0faf2f44c96e2bf393bad3a6e240436cca6777119696950", func := "supercargo/supercargolaw42.PolicyOpens", spec := "policyOpens", unfollowed := true, recurses := true, named := ["math/bits.divideError", "math/bits.overflowError"], apart := false }
def PolicyOpensSaid : Prop := policyOpensRow.holds Try.pinned (OpenSpec.ofChange policyOpensSpec)

/-- ITS FALSE NEIGHBOUR: 'it returns false'. Refute it at one input. -/
def policyOpensWrong : ChangeSpec := { name := "policyOpens", fn := fun _ => fun
  | [d1, d2, d3] => { results := [.lit (.bool false)], args := [d1, d2, d3] }
  | _ => none }
def PolicyOpensWrongFalsely : Prop := policyOpensRow.holds Try.pinned (OpenSpec.ofChange policyOpensWrong)

/- THE SECOND FORM. 'bulk': how many values and letters a reading holds, each counted each time it is reached (what is shared counts as often as it is met; a slice's spare places count too). A statement '..UptoSaid' is the law's where the arguments, and the package variables that the reading takes, are together of bulk at most 1048576: NARROWER than '..Said'. Prove '..Said' where nothing that the law and all that it calls make is longer than what came in: it says more and counts as full. Else prove '..UptoSaid'. A law counts once. -/
mutual
def uptoBulk {H : Type} : DataW H → Nat
  | .lit (.string bytes) => bytes.length + 1
  | .lit _ => 1
  | .nil => 1
  | .ptr d => uptoBulk d + 1
  | .slice elems spare => uptoBulkAll elems + uptoBulkAll spare + 1
  | .agg parts => uptoBulkAll parts + 1
  | .iface _ d => uptoBulk d + 1
  | .map entries => uptoBulkEntries entries + 1
  | .held _ => 1
def uptoBulkAll {H : Type} : List (DataW H) → Nat
  | [] => 0
  | d :: r => uptoBulk d + uptoBulkAll r
def uptoBulkEntries {H : Type} : List (Lit × DataW H) → Nat
  | [] => 0
  | x :: r => uptoBulkEntry x + uptoBulkEntries r
def uptoBulkEntry {H : Type} : Lit × DataW H → Nat
  | (.string bytes, d) => bytes.length + uptoBulk d + 1
  | (_, d) => uptoBulk d + 1
 end
def uptoSmall : (H : Type) → List (DataW H) → Bool := fun _ ds => decide (uptoBulkAll ds ≤ 1048576)
def OpenSpec.upto (s : _root_.Go.ChangeSpec) : _root_.Go.OpenSpec := { _root_.Go.OpenSpec.ofChange s with cond := some uptoSmall }

/-- 'supercargolaw42.PolicyPays', WHERE WHAT IT READS IS OF BULK AT MOST 1048576: true; the input reads as it did. -/
def policyPaysUptoRow : OpenClaim := { program := "ytembipmficppnaa", sum := "2dfb0f301b9a2e5cc0faf2f44c96e2bf393bad3a6e240436cca6777119696950", func := "supercargo/supercargolaw42.PolicyPays", spec := "policyPays", named := ["math/bits.divideError", "math/bits.overflowError"], apart := false, narrowed := true }
def PolicyPaysUptoSaid : Prop := policyPaysUptoRow.holds Try.pinned (OpenSpec.upto policyPaysSpec)

/-- 'supercargolaw42.PolicyMore', WHERE WHAT IT READS IS OF BULK AT MOST 1048576: true; the input reads as it did. -/
def policyMoreUptoRow : OpenClaim := { program := "ytembipmficppnaa", sum := "2dfb0f301b9a2e5cc0faf2f44c96e2bf393bad3a6e240436cca6777119696950", func := "supercargo/supercargolaw42.PolicyMore", spec := "policyMore", named := ["math/bits.divideError", "math/bits.overflowError"], apart := false, narrowed := true }
def PolicyMoreUptoSaid : Prop := policyMoreUptoRow.holds Try.pinned (OpenSpec.upto policyMoreSpec)

/-- 'supercargolaw42.PolicyShares', WHERE WHAT IT READS IS OF BULK AT MOST 1048576: true; the input reads as it did. -/
def policySharesUptoRow : OpenClaim := { program := "ytembipmficppnaa", sum := "2dfb0f301b9a2e5cc0faf2f44c96e2bf393bad3a6e240436cca6777119696950", func := "supercargo/supercargolaw42.PolicyShares", spec := "policyShares", named := ["math/bits.divideError", "math/bits.overflowError"], apart := false, narrowed := true }
def PolicySharesUptoSaid : Prop := policySharesUptoRow.holds Try.pinned (OpenSpec.upto policySharesSpec)

/-- 'supercargolaw42.PolicyCovers', WHERE WHAT IT READS IS OF BULK AT MOST 1048576: true; the input reads as it did. -/
def policyCoversUptoRow : OpenClaim := { program := "ytembipmficppnaa", sum := "2dfb0f301b9a2e5cc0faf2f44c96e2bf393bad3a6e240436cca6777119696950", func := "supercargo/supercargolaw42.PolicyCovers", spec := "policyCovers", unfollowed := true, recurses := true, named := ["math/bits.divideError", "math/bits.overflowError"], apart := false, narrowed := true }
def PolicyCoversUptoSaid : Prop := policyCoversUptoRow.holds Try.pinned (OpenSpec.upto policyCoversSpec)

/-- 'supercargolaw42.PolicyDays', WHERE WHAT IT READS IS OF BULK AT MOST 1048576: true; the input reads as it did. -/
def policyDaysUptoRow : OpenClaim := { program := "ytembipmficppnaa", sum := "2dfb0f301b9a2e5cc0faf2f44c96e2bf393bad3a6e240436cca6777119696950", func := "supercargo/supercargolaw42.PolicyDays", spec := "policyDays", unfollowed := true, recurses := true, named := ["math/bits.divideError", "math/bits.overflowError"], apart := false, narrowed := true }
def PolicyDaysUptoSaid : Prop := policyDaysUptoRow.holds Try.pinned (OpenSpec.upto policyDaysSpec)

/-- 'supercargolaw42.PolicyOpens', WHERE WHAT IT READS IS OF BULK AT MOST 1048576: true; the input reads as it did. -/
def policyOpensUptoRow : OpenClaim := { program := "ytembipmficppnaa", sum := "2dfb0f301b9a2e5cc0faf2f44c96e2bf393bad3a6e240436cca6777119696950", func := "supercargo/supercargolaw42.PolicyOpens", spec := "policyOpens", unfollowed := true, recurses := true, named := ["math/bits.divideError", "math/bits.overflowError"], apart := false, narrowed := true }
def PolicyOpensUptoSaid : Prop := policyOpensUptoRow.holds Try.pinned (OpenSpec.upto policyOpensSpec)

end Rows
end Go.Proofs.Ytembipmficppnaa
