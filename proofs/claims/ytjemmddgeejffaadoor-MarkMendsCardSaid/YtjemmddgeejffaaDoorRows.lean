/-
  NARROWER THAN 'FOR EVERY INPUT', by the rows' own cells (each row's printed sentence says how): MarkMakes: laid · MarkTurns: laid · MarkTells: laid · MarkBack: laid · MarkJoins: laid · MarkMends: laid · MarkCut: laid · MarkOne: laid.
  DERIVED. THE GIVEN ROWS OF THIS SEAT. 8 by the template 'for every input the law returns true; each argument reads behind the call as it read before'; 0 by the template 'total and deterministic' (their statements: YtjemmddgeejffaaDoorTotals.lean).
  GIVEN WITH THE SEED: the statements are not yours to turn. If you find one false, say at which input.
  Laid BY PROGRAM, IN A SANDBOX (cutbox-rows.mjs): the forced cells as the released guide's own fill.sh prints them over the translation b262ca1d9b7a2ea1… (all of the seat's roots in one cut). By AI agents, Wed Nov 11 2026. No macro, syntax, notation, axiom, sorry.
-/
import Derived.Test.YtjemmddgeejffaaDoorChecked
import GoSem.Claim
import GoSem.ClaimJoined
import GoSem.ClaimMapViews
import Derived.JoinedTies
import Derived.KernelRfl
namespace Go.Proofs.YtjemmddgeejffaaDoor
/- THE CELL 'sum', in the pinned program and in every row, IS THE sha256 OF THE DUMP (.gsa) THAT YtjemmddgeejffaaDoorProg.lean LOADS. Nothing in Lean hashes anything: it is a label: what it is worth is what the hold of that sum in a sandbox is worth. -/
noncomputable def Tryd.pinned : Pinned := { name := "ytjemmddgeejffaadoor", sum := "b262ca1d9b7a2ea1b8e4ebcdd57dc0b0c45f6d81062220afcbb1762f33245d0f", checked := Tryd.checked }
namespace Rows
def none {H : Type} : Left H := { results := [], args := [] }

/- WHAT THE LISTED PACKAGE-LEVEL VARIABLES READ AS WHEN THE CALL BEGINS. Each datum BY PROGRAM (the guide's laid-datum.mjs) off the statement by which the dump's own 'gosem.cut.vars' lays the variable. In a bare row this is a premise. The card (YtjemmddgeejffaaDoorCards.lean) ties it to the program's text. -/
def laid_math_bits_deBruijn32tab {H : Type} : DataW H := .agg [.lit (.int .u8 0), .lit (.int .u8 1), .lit (.int .u8 28), .lit (.int .u8 2), .lit (.int .u8 29), .lit (.int .u8 14), .lit (.int .u8 24), .lit (.int .u8 3), .lit (.int .u8 30), .lit (.int .u8 22), .lit (.int .u8 20), .lit (.int .u8 15), .lit (.int .u8 25), .lit (.int .u8 17), .lit (.int .u8 4), .lit (.int .u8 8), .lit (.int .u8 31), .lit (.int .u8 27), .lit (.int .u8 13), .lit (.int .u8 23), .lit (.int .u8 21), .lit (.int .u8 19), .lit (.int .u8 16), .lit (.int .u8 7), .lit (.int .u8 26), .lit (.int .u8 12), .lit (.int .u8 18), .lit (.int .u8 6), .lit (.int .u8 11), .lit (.int .u8 5), .lit (.int .u8 10), .lit (.int .u8 9)]
def laid_math_bits_deBruijn64tab {H : Type} : DataW H := .agg [.lit (.int .u8 0), .lit (.int .u8 1), .lit (.int .u8 56), .lit (.int .u8 2), .lit (.int .u8 57), .lit (.int .u8 49), .lit (.int .u8 28), .lit (.int .u8 3), .lit (.int .u8 61), .lit (.int .u8 58), .lit (.int .u8 42), .lit (.int .u8 50), .lit (.int .u8 38), .lit (.int .u8 29), .lit (.int .u8 17), .lit (.int .u8 4), .lit (.int .u8 62), .lit (.int .u8 47), .lit (.int .u8 59), .lit (.int .u8 36), .lit (.int .u8 45), .lit (.int .u8 43), .lit (.int .u8 51), .lit (.int .u8 22), .lit (.int .u8 53), .lit (.int .u8 39), .lit (.int .u8 33), .lit (.int .u8 30), .lit (.int .u8 24), .lit (.int .u8 18), .lit (.int .u8 12), .lit (.int .u8 5), .lit (.int .u8 63), .lit (.int .u8 55), .lit (.int .u8 48), .lit (.int .u8 27), .lit (.int .u8 60), .lit (.int .u8 41), .lit (.int .u8 37), .lit (.int .u8 16), .lit (.int .u8 46), .lit (.int .u8 35), .lit (.int .u8 44), .lit (.int .u8 21), .lit (.int .u8 52), .lit (.int .u8 32), .lit (.int .u8 23), .lit (.int .u8 11), .lit (.int .u8 54), .lit (.int .u8 26), .lit (.int .u8 40), .lit (.int .u8 15), .lit (.int .u8 34), .lit (.int .u8 20), .lit (.int .u8 31), .lit (.int .u8 10), .lit (.int .u8 25), .lit (.int .u8 14), .lit (.int .u8 19), .lit (.int .u8 9), .lit (.int .u8 13), .lit (.int .u8 8), .lit (.int .u8 7), .lit (.int .u8 6)]
def laid_internal_strconv_uint64pow10 {H : Type} : DataW H := .agg [.lit (.int .u64 1), .lit (.int .u64 10), .lit (.int .u64 100), .lit (.int .u64 1000), .lit (.int .u64 10000), .lit (.int .u64 100000), .lit (.int .u64 1000000), .lit (.int .u64 10000000), .lit (.int .u64 100000000), .lit (.int .u64 1000000000), .lit (.int .u64 10000000000), .lit (.int .u64 100000000000), .lit (.int .u64 1000000000000), .lit (.int .u64 10000000000000), .lit (.int .u64 100000000000000), .lit (.int .u64 1000000000000000), .lit (.int .u64 10000000000000000), .lit (.int .u64 100000000000000000), .lit (.int .u64 1000000000000000000), .lit (.int .u64 10000000000000000000)]

/-- 'supercargolaw03.MarkMakes': WHATEVER THE INPUT: true; the input reads as it did. -/
def markMakesSpec : ChangeSpec := { name := "markMakes", fn := fun _ => fun
  | [d1, d2] => { results := [.lit (.bool true)], args := [d1, d2] }
  | _ => none }
def markMakesRow : OpenClaim := { program := "ytjemmddgeejffaadoor", sum := "b262ca1d9b7a2ea1b8e4ebcdd57dc0b0c45f6d81062220afcbb1762f33245d0f", func := "supercargo/supercargolaw03.MarkMakes", spec := "markMakes", named := ["internal/strconv.uint64pow10", "math/bits.deBruijn32tab", "math/bits.deBruijn64tab"], apart := false, laid := [("math/bits.deBruijn32tab", laid_math_bits_deBruijn32tab), ("math/bits.deBruijn64tab", laid_math_bits_deBruijn64tab), ("internal/strconv.uint64pow10", laid_internal_strconv_uint64pow10)] }
def MarkMakesSaid : Prop := markMakesRow.holds Tryd.pinned (OpenSpec.ofChange markMakesSpec)

/-- ITS FALSE NEIGHBOUR: 'it returns false'. Refute it at one input. -/
def markMakesWrong : ChangeSpec := { name := "markMakes", fn := fun _ => fun
  | [d1, d2] => { results := [.lit (.bool false)], args := [d1, d2] }
  | _ => none }
def MarkMakesWrongFalsely : Prop := markMakesRow.holds Tryd.pinned (OpenSpec.ofChange markMakesWrong)

/-- 'supercargolaw03.MarkTurns': WHATEVER THE INPUT: true; the input reads as it did. -/
def markTurnsSpec : ChangeSpec := { name := "markTurns", fn := fun _ => fun
  | [d1, d2, d3] => { results := [.lit (.bool true)], args := [d1, d2, d3] }
  | _ => none }
def markTurnsRow : OpenClaim := { program := "ytjemmddgeejffaadoor", sum := "b262ca1d9b7a2ea1b8e4ebcdd57dc0b0c45f6d81062220afcbb1762f33245d0f", func := "supercargo/supercargolaw03.MarkTurns", spec := "markTurns", named := ["internal/strconv.uint64pow10", "math/bits.deBruijn32tab", "math/bits.deBruijn64tab"], apart := false, laid := [("math/bits.deBruijn32tab", laid_math_bits_deBruijn32tab), ("math/bits.deBruijn64tab", laid_math_bits_deBruijn64tab), ("internal/strconv.uint64pow10", laid_internal_strconv_uint64pow10)] }
def MarkTurnsSaid : Prop := markTurnsRow.holds Tryd.pinned (OpenSpec.ofChange markTurnsSpec)

/-- ITS FALSE NEIGHBOUR: 'it returns false'. Refute it at one input. -/
def markTurnsWrong : ChangeSpec := { name := "markTurns", fn := fun _ => fun
  | [d1, d2, d3] => { results := [.lit (.bool false)], args := [d1, d2, d3] }
  | _ => none }
def MarkTurnsWrongFalsely : Prop := markTurnsRow.holds Tryd.pinned (OpenSpec.ofChange markTurnsWrong)

/-- 'supercargolaw03.MarkTells': WHATEVER THE INPUT: true; the input reads as it did. -/
def markTellsSpec : ChangeSpec := { name := "markTells", fn := fun _ => fun
  | [d] => { results := [.lit (.bool true)], args := [d] }
  | _ => none }
def markTellsRow : OpenClaim := { program := "ytjemmddgeejffaadoor", sum := "b262ca1d9b7a2ea1b8e4ebcdd57dc0b0c45f6d81062220afcbb1762f33245d0f", func := "supercargo/supercargolaw03.MarkTells", spec := "markTells", named := ["internal/strconv.uint64pow10", "math/bits.deBruijn32tab", "math/bits.deBruijn64tab"], apart := false, laid := [("math/bits.deBruijn32tab", laid_math_bits_deBruijn32tab), ("math/bits.deBruijn64tab", laid_math_bits_deBruijn64tab), ("internal/strconv.uint64pow10", laid_internal_strconv_uint64pow10)] }
def MarkTellsSaid : Prop := markTellsRow.holds Tryd.pinned (OpenSpec.ofChange markTellsSpec)

/-- ITS FALSE NEIGHBOUR: 'it returns false'. Refute it at one input. -/
def markTellsWrong : ChangeSpec := { name := "markTells", fn := fun _ => fun
  | [d] => { results := [.lit (.bool false)], args := [d] }
  | _ => none }
def MarkTellsWrongFalsely : Prop := markTellsRow.holds Tryd.pinned (OpenSpec.ofChange markTellsWrong)

/-- 'supercargolaw03.MarkBack': WHATEVER THE INPUT: true; the input reads as it did. -/
def markBackSpec : ChangeSpec := { name := "markBack", fn := fun _ => fun
  | [d1, d2, d3, d4] => { results := [.lit (.bool true)], args := [d1, d2, d3, d4] }
  | _ => none }
def markBackRow : OpenClaim := { program := "ytjemmddgeejffaadoor", sum := "b262ca1d9b7a2ea1b8e4ebcdd57dc0b0c45f6d81062220afcbb1762f33245d0f", func := "supercargo/supercargolaw03.MarkBack", spec := "markBack", named := ["internal/strconv.uint64pow10", "math/bits.deBruijn32tab", "math/bits.deBruijn64tab"], apart := false, laid := [("math/bits.deBruijn32tab", laid_math_bits_deBruijn32tab), ("math/bits.deBruijn64tab", laid_math_bits_deBruijn64tab), ("internal/strconv.uint64pow10", laid_internal_strconv_uint64pow10)] }
def MarkBackSaid : Prop := markBackRow.holds Tryd.pinned (OpenSpec.ofChange markBackSpec)

/-- ITS FALSE NEIGHBOUR: 'it returns false'. Refute it at one input. -/
def markBackWrong : ChangeSpec := { name := "markBack", fn := fun _ => fun
  | [d1, d2, d3, d4] => { results := [.lit (.bool false)], args := [d1, d2, d3, d4] }
  | _ => none }
def MarkBackWrongFalsely : Prop := markBackRow.holds Tryd.pinned (OpenSpec.ofChange markBackWrong)

/-- 'supercargolaw03.MarkJoins': WHATEVER THE INPUT: true; the input reads as it did. -/
def markJoinsSpec : ChangeSpec := { name := "markJoins", fn := fun _ => fun
  | [d1, d2, d3] => { results := [.lit (.bool true)], args := [d1, d2, d3] }
  | _ => none }
def markJoinsRow : OpenClaim := { program := "ytjemmddgeejffaadoor", sum := "b262ca1d9b7a2ea1b8e4ebcdd57dc0b0c45f6d81062220afcbb1762f33245d0f", func := "supercargo/supercargolaw03.MarkJoins", spec := "markJoins", named := ["internal/strconv.uint64pow10", "math/bits.deBruijn32tab", "math/bits.deBruijn64tab"], apart := false, laid := [("math/bits.deBruijn32tab", laid_math_bits_deBruijn32tab), ("math/bits.deBruijn64tab", laid_math_bits_deBruijn64tab), ("internal/strconv.uint64pow10", laid_internal_strconv_uint64pow10)] }
def MarkJoinsSaid : Prop := markJoinsRow.holds Tryd.pinned (OpenSpec.ofChange markJoinsSpec)

/-- ITS FALSE NEIGHBOUR: 'it returns false'. Refute it at one input. -/
def markJoinsWrong : ChangeSpec := { name := "markJoins", fn := fun _ => fun
  | [d1, d2, d3] => { results := [.lit (.bool false)], args := [d1, d2, d3] }
  | _ => none }
def MarkJoinsWrongFalsely : Prop := markJoinsRow.holds Tryd.pinned (OpenSpec.ofChange markJoinsWrong)

/-- 'supercargolaw03.MarkMends': WHATEVER THE INPUT: true; the input reads as it did. -/
def markMendsSpec : ChangeSpec := { name := "markMends", fn := fun _ => fun
  | [d] => { results := [.lit (.bool true)], args := [d] }
  | _ => none }
def markMendsRow : OpenClaim := { program := "ytjemmddgeejffaadoor", sum := "b262ca1d9b7a2ea1b8e4ebcdd57dc0b0c45f6d81062220afcbb1762f33245d0f", func := "supercargo/supercargolaw03.MarkMends", spec := "markMends", unfollowed := true, recurses := true, named := ["internal/strconv.uint64pow10", "math/bits.deBruijn32tab", "math/bits.deBruijn64tab"], apart := false, laid := [("math/bits.deBruijn32tab", laid_math_bits_deBruijn32tab), ("math/bits.deBruijn64tab", laid_math_bits_deBruijn64tab), ("internal/strconv.uint64pow10", laid_internal_strconv_uint64pow10)] }
def MarkMendsSaid : Prop := markMendsRow.holds Tryd.pinned (OpenSpec.ofChange markMendsSpec)

/-- ITS FALSE NEIGHBOUR: 'it returns false'. Refute it at one input. -/
def markMendsWrong : ChangeSpec := { name := "markMends", fn := fun _ => fun
  | [d] => { results := [.lit (.bool false)], args := [d] }
  | _ => none }
def MarkMendsWrongFalsely : Prop := markMendsRow.holds Tryd.pinned (OpenSpec.ofChange markMendsWrong)

/-- 'supercargolaw03.MarkCut': WHATEVER THE INPUT: true; the input reads as it did. -/
def markCutSpec : ChangeSpec := { name := "markCut", fn := fun _ => fun
  | [d1, d2, d3, d4] => { results := [.lit (.bool true)], args := [d1, d2, d3, d4] }
  | _ => none }
def markCutRow : OpenClaim := { program := "ytjemmddgeejffaadoor", sum := "b262ca1d9b7a2ea1b8e4ebcdd57dc0b0c45f6d81062220afcbb1762f33245d0f", func := "supercargo/supercargolaw03.MarkCut", spec := "markCut", unfollowed := true, recurses := true, named := ["internal/strconv.uint64pow10", "math/bits.deBruijn32tab", "math/bits.deBruijn64tab"], apart := false, laid := [("math/bits.deBruijn32tab", laid_math_bits_deBruijn32tab), ("math/bits.deBruijn64tab", laid_math_bits_deBruijn64tab), ("internal/strconv.uint64pow10", laid_internal_strconv_uint64pow10)] }
def MarkCutSaid : Prop := markCutRow.holds Tryd.pinned (OpenSpec.ofChange markCutSpec)

/-- ITS FALSE NEIGHBOUR: 'it returns false'. Refute it at one input. -/
def markCutWrong : ChangeSpec := { name := "markCut", fn := fun _ => fun
  | [d1, d2, d3, d4] => { results := [.lit (.bool false)], args := [d1, d2, d3, d4] }
  | _ => none }
def MarkCutWrongFalsely : Prop := markCutRow.holds Tryd.pinned (OpenSpec.ofChange markCutWrong)

/-- 'supercargolaw03.MarkOne': WHATEVER THE INPUT: true; the input reads as it did. -/
def markOneSpec : ChangeSpec := { name := "markOne", fn := fun _ => fun
  | [d1, d2, d3, d4] => { results := [.lit (.bool true)], args := [d1, d2, d3, d4] }
  | _ => none }
def markOneRow : OpenClaim := { program := "ytjemmddgeejffaadoor", sum := "b262ca1d9b7a2ea1b8e4ebcdd57dc0b0c45f6d81062220afcbb1762f33245d0f", func := "supercargo/supercargolaw03.MarkOne", spec := "markOne", unfollowed := true, recurses := true, named := ["internal/strconv.uint64pow10", "math/bits.deBruijn32tab", "math/bits.deBruijn64tab"], apart := false, laid := [("math/bits.deBruijn32tab", laid_math_bits_deBruijn32tab), ("math/bits.deBruijn64tab", laid_math_bits_deBruijn64tab), ("internal/strconv.uint64pow10", laid_internal_strconv_uint64pow10)] }
def MarkOneSaid : Prop := markOneRow.holds Tryd.pinned (OpenSpec.ofChange markOneSpec)

/-- ITS FALSE NEIGHBOUR: 'it returns false'. Refute it at one input. -/
def markOneWrong : ChangeSpec := { name := "markOne", fn := fun _ => fun
  | [d1, d2, d3, d4] => { results := [.lit (.bool false)], args := [d1, d2, d3, d4] }
  | _ => none }
def MarkOneWrongFalsely : Prop := markOneRow.holds Tryd.pinned (OpenSpec.ofChange markOneWrong)

/- THE SECOND FORM. 'bulk': how many values and letters a reading holds, each counted each time it is reached (what is shared counts as often as it is met; a slice's spare places count too). A statement '..UptoSaid' is the law's where the arguments, and the package variables that the reading takes, are together of bulk at most 1048576: NARROWER than '..Said'. Prove '..Said' where nothing that the law and all that it calls make is longer than what came in: it says more and counts as full. Else prove '..UptoSaid'. A law counts once. -/
mutual
def uptoBulk {H : Type} : DataW H → Nat
  | .lit (.string bytes) => bytes.length + 1
  | .lit _ => 1
  | .nil => 1
  | .ptr d => uptoBulk d + 1
  | .slice elems spare => uptoBulkAll elems + uptoBulkAll spare + 1
  | .agg parts => uptoBulkAll parts + 1
  | .iface _ d => uptoBulk d + 1
  | .map entries => uptoBulkEntries entries + 1
  | .held _ => 1
def uptoBulkAll {H : Type} : List (DataW H) → Nat
  | [] => 0
  | d :: r => uptoBulk d + uptoBulkAll r
def uptoBulkEntries {H : Type} : List (Lit × DataW H) → Nat
  | [] => 0
  | x :: r => uptoBulkEntry x + uptoBulkEntries r
def uptoBulkEntry {H : Type} : Lit × DataW H → Nat
  | (.string bytes, d) => bytes.length + uptoBulk d + 1
  | (_, d) => uptoBulk d + 1
 end
def uptoSmall : (H : Type) → List (DataW H) → Bool := fun _ ds => decide (uptoBulkAll ds ≤ 1048576)
def OpenSpec.upto (s : _root_.Go.ChangeSpec) : _root_.Go.OpenSpec := { _root_.Go.OpenSpec.ofChange s with cond := some uptoSmall }

/-- 'supercargolaw03.MarkMakes', WHERE WHAT IT READS IS OF BULK AT MOST 1048576: true; the input reads as it did. -/
def markMakesUptoRow : OpenClaim := { program := "ytjemmddgeejffaadoor", sum := "b262ca1d9b7a2ea1b8e4ebcdd57dc0b0c45f6d81062220afcbb1762f33245d0f", func := "supercargo/supercargolaw03.MarkMakes", spec := "markMakes", named := ["internal/strconv.uint64pow10", "math/bits.deBruijn32tab", "math/bits.deBruijn64tab"], apart := false, laid := [("math/bits.deBruijn32tab", laid_math_bits_deBruijn32tab), ("math/bits.deBruijn64tab", laid_math_bits_deBruijn64tab), ("internal/strconv.uint64pow10", laid_internal_strconv_uint64pow10)], narrowed := true }
def MarkMakesUptoSaid : Prop := markMakesUptoRow.holds Tryd.pinned (OpenSpec.upto markMakesSpec)

/-- 'supercargolaw03.MarkTurns', WHERE WHAT IT READS IS OF BULK AT MOST 1048576: true; the input reads as it did. -/
def markTurnsUptoRow : OpenClaim := { program := "ytjemmddgeejffaadoor", sum := "b262ca1d9b7a2ea1b8e4ebcdd57dc0b0c45f6d81062220afcbb1762f33245d0f", func := "supercargo/supercargolaw03.MarkTurns", spec := "markTurns", named := ["internal/strconv.uint64pow10", "math/bits.deBruijn32tab", "math/bits.deBruijn64tab"], apart := false, laid := [("math/bits.deBruijn32tab", laid_math_bits_deBruijn32tab), ("math/bits.deBruijn64tab", laid_math_bits_deBruijn64tab), ("internal/strconv.uint64pow10", laid_internal_strconv_uint64pow10)], narrowed := true }
def MarkTurnsUptoSaid : Prop := markTurnsUptoRow.holds Tryd.pinned (OpenSpec.upto markTurnsSpec)

/-- 'supercargolaw03.MarkTells', WHERE WHAT IT READS IS OF BULK AT MOST 1048576: true; the input reads as it did. -/
def markTellsUptoRow : OpenClaim := { program := "ytjemmddgeejffaadoor", sum := "b262ca1d9b7a2ea1b8e4ebcdd57dc0b0c45f6d81062220afcbb1762f33245d0f", func := "supercargo/supercargolaw03.MarkTells", spec := "markTells", named := ["internal/strconv.uint64pow10", "math/bits.deBruijn32tab", "math/bits.deBruijn64tab"], apart := false, laid := [("math/bits.deBruijn32tab", laid_math_bits_deBruijn32tab), ("math/bits.deBruijn64tab", laid_math_bits_deBruijn64tab), ("internal/strconv.uint64pow10", laid_internal_strconv_uint64pow10)], narrowed := true }
def MarkTellsUptoSaid : Prop := markTellsUptoRow.holds Tryd.pinned (OpenSpec.upto markTellsSpec)

/-- 'supercargolaw03.MarkBack', WHERE WHAT IT READS IS OF BULK AT MOST 1048576: true; the input reads as it did. -/
def markBackUptoRow : OpenClaim := { program := "ytjemmddgeejffaadoor", sum := "b262ca1d9b7a2ea1b8e4ebcdd57dc0b0c45f6d81062220afcbb1762f33245d0f", func := "supercargo/supercargolaw03.MarkBack", spec := "markBack", named := ["internal/strconv.uint64pow10", "math/bits.deBruijn32tab", "math/bits.deBruijn64tab"], apart := false, laid := [("math/bits.deBruijn32tab", laid_math_bits_deBruijn32tab), ("math/bits.deBruijn64tab", laid_math_bits_deBruijn64tab), ("internal/strconv.uint64pow10", laid_internal_strconv_uint64pow10)], narrowed := true }
def MarkBackUptoSaid : Prop := markBackUptoRow.holds Tryd.pinned (OpenSpec.upto markBackSpec)

/-- 'supercargolaw03.MarkJoins', WHERE WHAT IT READS IS OF BULK AT MOST 1048576: true; the input reads as it did. -/
def markJoinsUptoRow : OpenClaim := { program := "ytjemmddgeejffaadoor", sum := "b262ca1d9b7a2ea1b8e4ebcdd57dc0b0c45f6d81062220afcbb1762f33245d0f", func := "supercargo/supercargolaw03.MarkJoins", spec := "markJoins", named := ["internal/strconv.uint64pow10", "math/bits.deBruijn32tab", "math/bits.deBruijn64tab"], apart := false, laid := [("math/bits.deBruijn32tab", laid_math_bits_deBruijn32tab), ("math/bits.deBruijn64tab", laid_math_bits_deBruijn64tab), ("internal/strconv.uint64pow10", laid_internal_strconv_uint64pow10)], narrowed := true }
def MarkJoinsUptoSaid : Prop := markJoinsUptoRow.holds Tryd.pinned (OpenSpec.upto markJoinsSpec)

/-- 'supercargolaw03.MarkMends', WHERE WHAT IT READS IS OF BULK AT MOST 1048576: true; the input reads as it did. -/
def markMendsUptoRow : OpenClaim := { program := "ytjemmddgeejffaadoor", sum := "b262ca1d9b7a2ea1b8e4ebcdd57dc0b0c45f6d81062220afcbb1762f33245d0f", func := "supercargo/supercargolaw03.MarkMends", spec := "markMends", unfollowed := true, recurses := true, named := ["internal/strconv.uint64pow10", "math/bits.deBruijn32tab", "math/bits.deBruijn64tab"], apart := false, laid := [("math/bits.deBruijn32tab", laid_math_bits_deBruijn32tab), ("math/bits.deBruijn64tab", laid_math_bits_deBruijn64tab), ("internal/strconv.uint64pow10", laid_internal_strconv_uint64pow10)], narrowed := true }
def MarkMendsUptoSaid : Prop := markMendsUptoRow.holds Tryd.pinned (OpenSpec.upto markMendsSpec)

/-- 'supercargolaw03.MarkCut', WHERE WHAT IT READS IS OF BULK AT MOST 1048576: true; the input reads as it did. -/
def markCutUptoRow : OpenClaim := { program := "ytjemmddgeejffaadoor", sum := "b262ca1d9b7a2ea1b8e4ebcdd57dc0b0c45f6d81062220afcbb1762f33245d0f", func := "supercargo/supercargolaw03.MarkCut", spec := "markCut", unfollowed := true, recurses := true, named := ["internal/strconv.uint64pow10", "math/bits.deBruijn32tab", "math/bits.deBruijn64tab"], apart := false, laid := [("math/bits.deBruijn32tab", laid_math_bits_deBruijn32tab), ("math/bits.deBruijn64tab", laid_math_bits_deBruijn64tab), ("internal/strconv.uint64pow10", laid_internal_strconv_uint64pow10)], narrowed := true }
def MarkCutUptoSaid : Prop := markCutUptoRow.holds Tryd.pinned (OpenSpec.upto markCutSpec)

/-- 'supercargolaw03.MarkOne', WHERE WHAT IT READS IS OF BULK AT MOST 1048576: true; the input reads as it did. -/
def markOneUptoRow : OpenClaim := { program := "ytjemmddgeejffaadoor", sum := "b262ca1d9b7a2ea1b8e4ebcdd57dc0b0c45f6d81062220afcbb1762f33245d0f", func := "supercargo/supercargolaw03.MarkOne", spec := "markOne", unfollowed := true, recurses := true, named := ["internal/strconv.uint64pow10", "math/bits.deBruijn32tab", "math/bits.deBruijn64tab"], apart := false, laid := [("math/bits.deBruijn32tab", laid_math_bits_deBruijn32tab), ("math/bits.deBruijn64tab", laid_math_bits_deBruijn64tab), ("internal/strconv.uint64pow10", laid_internal_strconv_uint64pow10)], narrowed := true }
def MarkOneUptoSaid : Prop := markOneUptoRow.holds Tryd.pinned (OpenSpec.upto markOneSpec)

end Rows
end Go.Proofs.YtjemmddgeejffaaDoor
