/-
  NARROWER THAN 'FOR EVERY INPUT', by the rows' own cells (each row's printed sentence says how): DayMonths: laid · DayWalks: laid · DayRests: laid · DayBetween: laid · DayBack: laid · DayTexts: laid · DayParses: laid · DayBoth: laid.
  DERIVED. THE GIVEN ROWS OF THIS SEAT. 8 by the template 'for every input the law returns true; each argument reads behind the call as it read before'; 0 by the template 'total and deterministic' (their statements: YtmgijoomfailoaaDoorTotals.lean).
  GIVEN WITH THE SEED: the statements are not yours to turn. If you find one false, say at which input.
  Laid BY PROGRAM, IN A SANDBOX (cutbox-rows.mjs): the forced cells as the released guide's own fill.sh prints them over the translation e878042cc7f1ba81… (all of the seat's roots in one cut). By AI agents, Wed Nov 11 2026. No macro, syntax, notation, axiom, sorry.
-/
import Derived.Test.YtmgijoomfailoaaDoorChecked
import GoSem.Claim
import GoSem.ClaimJoined
import GoSem.ClaimMapViews
import Derived.JoinedTies
import Derived.KernelRfl
namespace Go.Proofs.YtmgijoomfailoaaDoor
/- THE CELL 'sum', in the pinned program and in every row, IS THE sha256 OF THE DUMP (.gsa) THAT YtmgijoomfailoaaDoorProg.lean LOADS. Nothing in Lean hashes anything: it is a label: what it is worth is what the hold of that sum in a sandbox is worth. -/
noncomputable def Tryd.pinned : Pinned := { name := "ytmgijoomfailoaadoor", sum := "e878042cc7f1ba8134da6c97e9571714a5fc6f0770463bf7c68c4d3aae284d09", checked := Tryd.checked }
namespace Rows
def none {H : Type} : Left H := { results := [], args := [] }

/- WHAT THE LISTED PACKAGE-LEVEL VARIABLES READ AS WHEN THE CALL BEGINS. Each datum BY PROGRAM (the guide's laid-datum.mjs) off the statement by which the dump's own 'gosem.cut.vars' lays the variable. In a bare row this is a premise. The card (YtmgijoomfailoaaDoorCards.lean) ties it to the program's text. -/
def laid_math_bits_deBruijn32tab {H : Type} : DataW H := .agg [.lit (.int .u8 0), .lit (.int .u8 1), .lit (.int .u8 28), .lit (.int .u8 2), .lit (.int .u8 29), .lit (.int .u8 14), .lit (.int .u8 24), .lit (.int .u8 3), .lit (.int .u8 30), .lit (.int .u8 22), .lit (.int .u8 20), .lit (.int .u8 15), .lit (.int .u8 25), .lit (.int .u8 17), .lit (.int .u8 4), .lit (.int .u8 8), .lit (.int .u8 31), .lit (.int .u8 27), .lit (.int .u8 13), .lit (.int .u8 23), .lit (.int .u8 21), .lit (.int .u8 19), .lit (.int .u8 16), .lit (.int .u8 7), .lit (.int .u8 26), .lit (.int .u8 12), .lit (.int .u8 18), .lit (.int .u8 6), .lit (.int .u8 11), .lit (.int .u8 5), .lit (.int .u8 10), .lit (.int .u8 9)]
def laid_math_bits_deBruijn64tab {H : Type} : DataW H := .agg [.lit (.int .u8 0), .lit (.int .u8 1), .lit (.int .u8 56), .lit (.int .u8 2), .lit (.int .u8 57), .lit (.int .u8 49), .lit (.int .u8 28), .lit (.int .u8 3), .lit (.int .u8 61), .lit (.int .u8 58), .lit (.int .u8 42), .lit (.int .u8 50), .lit (.int .u8 38), .lit (.int .u8 29), .lit (.int .u8 17), .lit (.int .u8 4), .lit (.int .u8 62), .lit (.int .u8 47), .lit (.int .u8 59), .lit (.int .u8 36), .lit (.int .u8 45), .lit (.int .u8 43), .lit (.int .u8 51), .lit (.int .u8 22), .lit (.int .u8 53), .lit (.int .u8 39), .lit (.int .u8 33), .lit (.int .u8 30), .lit (.int .u8 24), .lit (.int .u8 18), .lit (.int .u8 12), .lit (.int .u8 5), .lit (.int .u8 63), .lit (.int .u8 55), .lit (.int .u8 48), .lit (.int .u8 27), .lit (.int .u8 60), .lit (.int .u8 41), .lit (.int .u8 37), .lit (.int .u8 16), .lit (.int .u8 46), .lit (.int .u8 35), .lit (.int .u8 44), .lit (.int .u8 21), .lit (.int .u8 52), .lit (.int .u8 32), .lit (.int .u8 23), .lit (.int .u8 11), .lit (.int .u8 54), .lit (.int .u8 26), .lit (.int .u8 40), .lit (.int .u8 15), .lit (.int .u8 34), .lit (.int .u8 20), .lit (.int .u8 31), .lit (.int .u8 10), .lit (.int .u8 25), .lit (.int .u8 14), .lit (.int .u8 19), .lit (.int .u8 9), .lit (.int .u8 13), .lit (.int .u8 8), .lit (.int .u8 7), .lit (.int .u8 6)]
def laid_internal_strconv_uint64pow10 {H : Type} : DataW H := .agg [.lit (.int .u64 1), .lit (.int .u64 10), .lit (.int .u64 100), .lit (.int .u64 1000), .lit (.int .u64 10000), .lit (.int .u64 100000), .lit (.int .u64 1000000), .lit (.int .u64 10000000), .lit (.int .u64 100000000), .lit (.int .u64 1000000000), .lit (.int .u64 10000000000), .lit (.int .u64 100000000000), .lit (.int .u64 1000000000000), .lit (.int .u64 10000000000000), .lit (.int .u64 100000000000000), .lit (.int .u64 1000000000000000), .lit (.int .u64 10000000000000000), .lit (.int .u64 100000000000000000), .lit (.int .u64 1000000000000000000), .lit (.int .u64 10000000000000000000)]
def laid_supercargo_day_months {H : Type} : DataW H := .agg [.lit (.int .i64 31), .lit (.int .i64 28), .lit (.int .i64 31), .lit (.int .i64 30), .lit (.int .i64 31), .lit (.int .i64 30), .lit (.int .i64 31), .lit (.int .i64 31), .lit (.int .i64 30), .lit (.int .i64 31), .lit (.int .i64 30), .lit (.int .i64 31)]

/-- 'supercargolaw02.DayMonths': WHATEVER THE INPUT: true; the input reads as it did. -/
def dayMonthsSpec : ChangeSpec := { name := "dayMonths", fn := fun _ => fun
  | [d1, d2] => { results := [.lit (.bool true)], args := [d1, d2] }
  | _ => none }
def dayMonthsRow : OpenClaim := { program := "ytmgijoomfailoaadoor", sum := "e878042cc7f1ba8134da6c97e9571714a5fc6f0770463bf7c68c4d3aae284d09", func := "supercargo/supercargolaw02.DayMonths", spec := "dayMonths", named := ["supercargo/day.months", "internal/strconv.uint64pow10", "math/bits.deBruijn32tab", "math/bits.deBruijn64tab"], apart := false, laid := [("math/bits.deBruijn32tab", laid_math_bits_deBruijn32tab), ("math/bits.deBruijn64tab", laid_math_bits_deBruijn64tab), ("internal/strconv.uint64pow10", laid_internal_strconv_uint64pow10), ("supercargo/day.months", laid_supercargo_day_months)] }
def DayMonthsSaid : Prop := dayMonthsRow.holds Tryd.pinned (OpenSpec.ofChange dayMonthsSpec)

/-- ITS FALSE NEIGHBOUR: 'it returns false'. Refute it at one input. -/
def dayMonthsWrong : ChangeSpec := { name := "dayMonths", fn := fun _ => fun
  | [d1, d2] => { results := [.lit (.bool false)], args := [d1, d2] }
  | _ => none }
def DayMonthsWrongFalsely : Prop := dayMonthsRow.holds Tryd.pinned (OpenSpec.ofChange dayMonthsWrong)

/-- 'supercargolaw02.DayWalks': WHATEVER THE INPUT: true; the input reads as it did. -/
def dayWalksSpec : ChangeSpec := { name := "dayWalks", fn := fun _ => fun
  | [d1, d2, d3] => { results := [.lit (.bool true)], args := [d1, d2, d3] }
  | _ => none }
def dayWalksRow : OpenClaim := { program := "ytmgijoomfailoaadoor", sum := "e878042cc7f1ba8134da6c97e9571714a5fc6f0770463bf7c68c4d3aae284d09", func := "supercargo/supercargolaw02.DayWalks", spec := "dayWalks", named := ["supercargo/day.months", "internal/strconv.uint64pow10", "math/bits.deBruijn32tab", "math/bits.deBruijn64tab"], apart := false, laid := [("math/bits.deBruijn32tab", laid_math_bits_deBruijn32tab), ("math/bits.deBruijn64tab", laid_math_bits_deBruijn64tab), ("internal/strconv.uint64pow10", laid_internal_strconv_uint64pow10), ("supercargo/day.months", laid_supercargo_day_months)] }
def DayWalksSaid : Prop := dayWalksRow.holds Tryd.pinned (OpenSpec.ofChange dayWalksSpec)

/-- ITS FALSE NEIGHBOUR: 'it returns false'. Refute it at one input. -/
def dayWalksWrong : ChangeSpec := { name := "dayWalks", fn := fun _ => fun
  | [d1, d2, d3] => { results := [.lit (.bool false)], args := [d1, d2, d3] }
  | _ => none }
def DayWalksWrongFalsely : Prop := dayWalksRow.holds Tryd.pinned (OpenSpec.ofChange dayWalksWrong)

/-- 'supercargolaw02.DayRests': WHATEVER THE INPUT: true; the input reads as it did. -/
def dayRestsSpec : ChangeSpec := { name := "dayRests", fn := fun _ => fun
  | [d1, d2] => { results := [.lit (.bool true)], args := [d1, d2] }
  | _ => none }
def dayRestsRow : OpenClaim := { program := "ytmgijoomfailoaadoor", sum := "e878042cc7f1ba8134da6c97e9571714a5fc6f0770463bf7c68c4d3aae284d09", func := "supercargo/supercargolaw02.DayRests", spec := "dayRests", named := ["supercargo/day.months", "internal/strconv.uint64pow10", "math/bits.deBruijn32tab", "math/bits.deBruijn64tab"], apart := false, laid := [("math/bits.deBruijn32tab", laid_math_bits_deBruijn32tab), ("math/bits.deBruijn64tab", laid_math_bits_deBruijn64tab), ("internal/strconv.uint64pow10", laid_internal_strconv_uint64pow10), ("supercargo/day.months", laid_supercargo_day_months)] }
def DayRestsSaid : Prop := dayRestsRow.holds Tryd.pinned (OpenSpec.ofChange dayRestsSpec)

/-- ITS FALSE NEIGHBOUR: 'it returns false'. Refute it at one input. -/
def dayRestsWrong : ChangeSpec := { name := "dayRests", fn := fun _ => fun
  | [d1, d2] => { results := [.lit (.bool false)], args := [d1, d2] }
  | _ => none }
def DayRestsWrongFalsely : Prop := dayRestsRow.holds Tryd.pinned (OpenSpec.ofChange dayRestsWrong)

/-- 'supercargolaw02.DayBetween': WHATEVER THE INPUT: true; the input reads as it did. -/
def dayBetweenSpec : ChangeSpec := { name := "dayBetween", fn := fun _ => fun
  | [d1, d2, d3, d4] => { results := [.lit (.bool true)], args := [d1, d2, d3, d4] }
  | _ => none }
def dayBetweenRow : OpenClaim := { program := "ytmgijoomfailoaadoor", sum := "e878042cc7f1ba8134da6c97e9571714a5fc6f0770463bf7c68c4d3aae284d09", func := "supercargo/supercargolaw02.DayBetween", spec := "dayBetween", named := ["supercargo/day.months", "internal/strconv.uint64pow10", "math/bits.deBruijn32tab", "math/bits.deBruijn64tab"], apart := false, laid := [("math/bits.deBruijn32tab", laid_math_bits_deBruijn32tab), ("math/bits.deBruijn64tab", laid_math_bits_deBruijn64tab), ("internal/strconv.uint64pow10", laid_internal_strconv_uint64pow10), ("supercargo/day.months", laid_supercargo_day_months)] }
def DayBetweenSaid : Prop := dayBetweenRow.holds Tryd.pinned (OpenSpec.ofChange dayBetweenSpec)

/-- ITS FALSE NEIGHBOUR: 'it returns false'. Refute it at one input. -/
def dayBetweenWrong : ChangeSpec := { name := "dayBetween", fn := fun _ => fun
  | [d1, d2, d3, d4] => { results := [.lit (.bool false)], args := [d1, d2, d3, d4] }
  | _ => none }
def DayBetweenWrongFalsely : Prop := dayBetweenRow.holds Tryd.pinned (OpenSpec.ofChange dayBetweenWrong)

/-- 'supercargolaw02.DayBack': WHATEVER THE INPUT: true; the input reads as it did. -/
def dayBackSpec : ChangeSpec := { name := "dayBack", fn := fun _ => fun
  | [d1, d2, d3] => { results := [.lit (.bool true)], args := [d1, d2, d3] }
  | _ => none }
def dayBackRow : OpenClaim := { program := "ytmgijoomfailoaadoor", sum := "e878042cc7f1ba8134da6c97e9571714a5fc6f0770463bf7c68c4d3aae284d09", func := "supercargo/supercargolaw02.DayBack", spec := "dayBack", named := ["supercargo/day.months", "internal/strconv.uint64pow10", "math/bits.deBruijn32tab", "math/bits.deBruijn64tab"], apart := false, laid := [("math/bits.deBruijn32tab", laid_math_bits_deBruijn32tab), ("math/bits.deBruijn64tab", laid_math_bits_deBruijn64tab), ("internal/strconv.uint64pow10", laid_internal_strconv_uint64pow10), ("supercargo/day.months", laid_supercargo_day_months)] }
def DayBackSaid : Prop := dayBackRow.holds Tryd.pinned (OpenSpec.ofChange dayBackSpec)

/-- ITS FALSE NEIGHBOUR: 'it returns false'. Refute it at one input. -/
def dayBackWrong : ChangeSpec := { name := "dayBack", fn := fun _ => fun
  | [d1, d2, d3] => { results := [.lit (.bool false)], args := [d1, d2, d3] }
  | _ => none }
def DayBackWrongFalsely : Prop := dayBackRow.holds Tryd.pinned (OpenSpec.ofChange dayBackWrong)

/-- 'supercargolaw02.DayTexts': WHATEVER THE INPUT: true; the input reads as it did. -/
def dayTextsSpec : ChangeSpec := { name := "dayTexts", fn := fun _ => fun
  | [d] => { results := [.lit (.bool true)], args := [d] }
  | _ => none }
def dayTextsRow : OpenClaim := { program := "ytmgijoomfailoaadoor", sum := "e878042cc7f1ba8134da6c97e9571714a5fc6f0770463bf7c68c4d3aae284d09", func := "supercargo/supercargolaw02.DayTexts", spec := "dayTexts", named := ["supercargo/day.months", "internal/strconv.uint64pow10", "math/bits.deBruijn32tab", "math/bits.deBruijn64tab"], apart := false, laid := [("math/bits.deBruijn32tab", laid_math_bits_deBruijn32tab), ("math/bits.deBruijn64tab", laid_math_bits_deBruijn64tab), ("internal/strconv.uint64pow10", laid_internal_strconv_uint64pow10), ("supercargo/day.months", laid_supercargo_day_months)] }
def DayTextsSaid : Prop := dayTextsRow.holds Tryd.pinned (OpenSpec.ofChange dayTextsSpec)

/-- ITS FALSE NEIGHBOUR: 'it returns false'. Refute it at one input. -/
def dayTextsWrong : ChangeSpec := { name := "dayTexts", fn := fun _ => fun
  | [d] => { results := [.lit (.bool false)], args := [d] }
  | _ => none }
def DayTextsWrongFalsely : Prop := dayTextsRow.holds Tryd.pinned (OpenSpec.ofChange dayTextsWrong)

/-- 'supercargolaw02.DayParses': WHATEVER THE INPUT: true; the input reads as it did. -/
def dayParsesSpec : ChangeSpec := { name := "dayParses", fn := fun _ => fun
  | [d] => { results := [.lit (.bool true)], args := [d] }
  | _ => none }
def dayParsesRow : OpenClaim := { program := "ytmgijoomfailoaadoor", sum := "e878042cc7f1ba8134da6c97e9571714a5fc6f0770463bf7c68c4d3aae284d09", func := "supercargo/supercargolaw02.DayParses", spec := "dayParses", named := ["supercargo/day.months", "internal/strconv.uint64pow10", "math/bits.deBruijn32tab", "math/bits.deBruijn64tab"], apart := false, laid := [("math/bits.deBruijn32tab", laid_math_bits_deBruijn32tab), ("math/bits.deBruijn64tab", laid_math_bits_deBruijn64tab), ("internal/strconv.uint64pow10", laid_internal_strconv_uint64pow10), ("supercargo/day.months", laid_supercargo_day_months)] }
def DayParsesSaid : Prop := dayParsesRow.holds Tryd.pinned (OpenSpec.ofChange dayParsesSpec)

/-- ITS FALSE NEIGHBOUR: 'it returns false'. Refute it at one input. -/
def dayParsesWrong : ChangeSpec := { name := "dayParses", fn := fun _ => fun
  | [d] => { results := [.lit (.bool false)], args := [d] }
  | _ => none }
def DayParsesWrongFalsely : Prop := dayParsesRow.holds Tryd.pinned (OpenSpec.ofChange dayParsesWrong)

/-- 'supercargolaw02.DayBoth': WHATEVER THE INPUT: true; the input reads as it did. -/
def dayBothSpec : ChangeSpec := { name := "dayBoth", fn := fun _ => fun
  | [d1, d2, d3] => { results := [.lit (.bool true)], args := [d1, d2, d3] }
  | _ => none }
def dayBothRow : OpenClaim := { program := "ytmgijoomfailoaadoor", sum := "e878042cc7f1ba8134da6c97e9571714a5fc6f0770463bf7c68c4d3aae284d09", func := "supercargo/supercargolaw02.DayBoth", spec := "dayBoth", recurses := true, named := ["supercargo/day.months", "internal/strconv.uint64pow10", "math/bits.deBruijn32tab", "math/bits.deBruijn64tab"], apart := false, laid := [("math/bits.deBruijn32tab", laid_math_bits_deBruijn32tab), ("math/bits.deBruijn64tab", laid_math_bits_deBruijn64tab), ("internal/strconv.uint64pow10", laid_internal_strconv_uint64pow10), ("supercargo/day.months", laid_supercargo_day_months)] }
def DayBothSaid : Prop := dayBothRow.holds Tryd.pinned (OpenSpec.ofChange dayBothSpec)

/-- ITS FALSE NEIGHBOUR: 'it returns false'. Refute it at one input. -/
def dayBothWrong : ChangeSpec := { name := "dayBoth", fn := fun _ => fun
  | [d1, d2, d3] => { results := [.lit (.bool false)], args := [d1, d2, d3] }
  | _ => none }
def DayBothWrongFalsely : Prop := dayBothRow.holds Tryd.pinned (OpenSpec.ofChange dayBothWrong)

/- THE SECOND FORM. 'bulk': how many values and letters a reading holds, each counted each time it is reached (what is shared counts as often as it is met; a slice's spare places count too). A statement '..UptoSaid' is the law's where the arguments, and the package variables that the reading takes, are together of bulk at most 1048576: NARROWER than '..Said'. Prove '..Said' where nothing that the law and all that it calls make is longer than what came in: it says more and counts as full. Else prove '..UptoSaid'. A law counts once. -/
mutual
def uptoBulk {H : Type} : DataW H → Nat
  | .lit (.string bytes) => bytes.length + 1
  | .lit _ => 1
  | .nil => 1
  | .ptr d => uptoBulk d + 1
  | .slice elems spare => uptoBulkAll elems + uptoBulkAll spare + 1
  | .agg parts => uptoBulkAll parts + 1
  | .iface _ d => uptoBulk d + 1
  | .map entries => uptoBulkEntries entries + 1
  | .held _ => 1
def uptoBulkAll {H : Type} : List (DataW H) → Nat
  | [] => 0
  | d :: r => uptoBulk d + uptoBulkAll r
def uptoBulkEntries {H : Type} : List (Lit × DataW H) → Nat
  | [] => 0
  | x :: r => uptoBulkEntry x + uptoBulkEntries r
def uptoBulkEntry {H : Type} : Lit × DataW H → Nat
  | (.string bytes, d) => bytes.length + uptoBulk d + 1
  | (_, d) => uptoBulk d + 1
 end
def uptoSmall : (H : Type) → List (DataW H) → Bool := fun _ ds => decide (uptoBulkAll ds ≤ 1048576)
def OpenSpec.upto (s : _root_.Go.ChangeSpec) : _root_.Go.OpenSpec := { _root_.Go.OpenSpec.ofChange s with cond := some uptoSmall }

/-- 'supercargolaw02.DayMonths', WHERE WHAT IT READS IS OF BULK AT MOST 1048576: true; the input reads as it did. -/
def dayMonthsUptoRow : OpenClaim := { program := "ytmgijoomfailoaadoor", sum := "e878042cc7f1ba8134da6c97e9571714a5fc6f0770463bf7c68c4d3aae284d09", func := "supercargo/supercargolaw02.DayMonths", spec := "dayMonths", named := ["supercargo/day.months", "internal/strconv.uint64pow10", "math/bits.deBruijn32tab", "math/bits.deBruijn64tab"], apart := false, laid := [("math/bits.deBruijn32tab", laid_math_bits_deBruijn32tab), ("math/bits.deBruijn64tab", laid_math_bits_deBruijn64tab), ("internal/strconv.uint64pow10", laid_internal_strconv_uint64pow10), ("supercargo/day.months", laid_supercargo_day_months)], narrowed := true }
def DayMonthsUptoSaid : Prop := dayMonthsUptoRow.holds Tryd.pinned (OpenSpec.upto dayMonthsSpec)

/-- 'supercargolaw02.DayWalks', WHERE WHAT IT READS IS OF BULK AT MOST 1048576: true; the input reads as it did. -/
def dayWalksUptoRow : OpenClaim := { program := "ytmgijoomfailoaadoor", sum := "e878042cc7f1ba8134da6c97e9571714a5fc6f0770463bf7c68c4d3aae284d09", func := "supercargo/supercargolaw02.DayWalks", spec := "dayWalks", named := ["supercargo/day.months", "internal/strconv.uint64pow10", "math/bits.deBruijn32tab", "math/bits.deBruijn64tab"], apart := false, laid := [("math/bits.deBruijn32tab", laid_math_bits_deBruijn32tab), ("math/bits.deBruijn64tab", laid_math_bits_deBruijn64tab), ("internal/strconv.uint64pow10", laid_internal_strconv_uint64pow10), ("supercargo/day.months", laid_supercargo_day_months)], narrowed := true }
def DayWalksUptoSaid : Prop := dayWalksUptoRow.holds Tryd.pinned (OpenSpec.upto dayWalksSpec)

/-- 'supercargolaw02.DayRests', WHERE WHAT IT READS IS OF BULK AT MOST 1048576: true; the input reads as it did. -/
def dayRestsUptoRow : OpenClaim := { program := "ytmgijoomfailoaadoor", sum := "e878042cc7f1ba8134da6c97e9571714a5fc6f0770463bf7c68c4d3aae284d09", func := "supercargo/supercargolaw02.DayRests", spec := "dayRests", named := ["supercargo/day.months", "internal/strconv.uint64pow10", "math/bits.deBruijn32tab", "math/bits.deBruijn64tab"], apart := false, laid := [("math/bits.deBruijn32tab", laid_math_bits_deBruijn32tab), ("math/bits.deBruijn64tab", laid_math_bits_deBruijn64tab), ("internal/strconv.uint64pow10", laid_internal_strconv_uint64pow10), ("supercargo/day.months", laid_supercargo_day_months)], narrowed := true }
def DayRestsUptoSaid : Prop := dayRestsUptoRow.holds Tryd.pinned (OpenSpec.upto dayRestsSpec)

/-- 'supercargolaw02.DayBetween', WHERE WHAT IT READS IS OF BULK AT MOST 1048576: true; the input reads as it did. -/
def dayBetweenUptoRow : OpenClaim := { program := "ytmgijoomfailoaadoor", sum := "e878042cc7f1ba8134da6c97e9571714a5fc6f0770463bf7c68c4d3aae284d09", func := "supercargo/supercargolaw02.DayBetween", spec := "dayBetween", named := ["supercargo/day.months", "internal/strconv.uint64pow10", "math/bits.deBruijn32tab", "math/bits.deBruijn64tab"], apart := false, laid := [("math/bits.deBruijn32tab", laid_math_bits_deBruijn32tab), ("math/bits.deBruijn64tab", laid_math_bits_deBruijn64tab), ("internal/strconv.uint64pow10", laid_internal_strconv_uint64pow10), ("supercargo/day.months", laid_supercargo_day_months)], narrowed := true }
def DayBetweenUptoSaid : Prop := dayBetweenUptoRow.holds Tryd.pinned (OpenSpec.upto dayBetweenSpec)

/-- 'supercargolaw02.DayBack', WHERE WHAT IT READS IS OF BULK AT MOST 1048576: true; the input reads as it did. -/
def dayBackUptoRow : OpenClaim := { program := "ytmgijoomfailoaadoor", sum := "e878042cc7f1ba8134da6c97e9571714a5fc6f0770463bf7c68c4d3aae284d09", func := "supercargo/supercargolaw02.DayBack", spec := "dayBack", named := ["supercargo/day.months", "internal/strconv.uint64pow10", "math/bits.deBruijn32tab", "math/bits.deBruijn64tab"], apart := false, laid := [("math/bits.deBruijn32tab", laid_math_bits_deBruijn32tab), ("math/bits.deBruijn64tab", laid_math_bits_deBruijn64tab), ("internal/strconv.uint64pow10", laid_internal_strconv_uint64pow10), ("supercargo/day.months", laid_supercargo_day_months)], narrowed := true }
def DayBackUptoSaid : Prop := dayBackUptoRow.holds Tryd.pinned (OpenSpec.upto dayBackSpec)

/-- 'supercargolaw02.DayTexts', WHERE WHAT IT READS IS OF BULK AT MOST 1048576: true; the input reads as it did. -/
def dayTextsUptoRow : OpenClaim := { program := "ytmgijoomfailoaadoor", sum := "e878042cc7f1ba8134da6c97e9571714a5fc6f0770463bf7c68c4d3aae284d09", func := "supercargo/supercargolaw02.DayTexts", spec := "dayTexts", named := ["supercargo/day.months", "internal/strconv.uint64pow10", "math/bits.deBruijn32tab", "math/bits.deBruijn64tab"], apart := false, laid := [("math/bits.deBruijn32tab", laid_math_bits_deBruijn32tab), ("math/bits.deBruijn64tab", laid_math_bits_deBruijn64tab), ("internal/strconv.uint64pow10", laid_internal_strconv_uint64pow10), ("supercargo/day.months", laid_supercargo_day_months)], narrowed := true }
def DayTextsUptoSaid : Prop := dayTextsUptoRow.holds Tryd.pinned (OpenSpec.upto dayTextsSpec)

/-- 'supercargolaw02.DayParses', WHERE WHAT IT READS IS OF BULK AT MOST 1048576: true; the input reads as it did. -/
def dayParsesUptoRow : OpenClaim := { program := "ytmgijoomfailoaadoor", sum := "e878042cc7f1ba8134da6c97e9571714a5fc6f0770463bf7c68c4d3aae284d09", func := "supercargo/supercargolaw02.DayParses", spec := "dayParses", named := ["supercargo/day.months", "internal/strconv.uint64pow10", "math/bits.deBruijn32tab", "math/bits.deBruijn64tab"], apart := false, laid := [("math/bits.deBruijn32tab", laid_math_bits_deBruijn32tab), ("math/bits.deBruijn64tab", laid_math_bits_deBruijn64tab), ("internal/strconv.uint64pow10", laid_internal_strconv_uint64pow10), ("supercargo/day.months", laid_supercargo_day_months)], narrowed := true }
def DayParsesUptoSaid : Prop := dayParsesUptoRow.holds Tryd.pinned (OpenSpec.upto dayParsesSpec)

/-- 'supercargolaw02.DayBoth', WHERE WHAT IT READS IS OF BULK AT MOST 1048576: true; the input reads as it did. -/
def dayBothUptoRow : OpenClaim := { program := "ytmgijoomfailoaadoor", sum := "e878042cc7f1ba8134da6c97e9571714a5fc6f0770463bf7c68c4d3aae284d09", func := "supercargo/supercargolaw02.DayBoth", spec := "dayBoth", recurses := true, named := ["supercargo/day.months", "internal/strconv.uint64pow10", "math/bits.deBruijn32tab", "math/bits.deBruijn64tab"], apart := false, laid := [("math/bits.deBruijn32tab", laid_math_bits_deBruijn32tab), ("math/bits.deBruijn64tab", laid_math_bits_deBruijn64tab), ("internal/strconv.uint64pow10", laid_internal_strconv_uint64pow10), ("supercargo/day.months", laid_supercargo_day_months)], narrowed := true }
def DayBothUptoSaid : Prop := dayBothUptoRow.holds Tryd.pinned (OpenSpec.upto dayBothSpec)

end Rows
end Go.Proofs.YtmgijoomfailoaaDoor
