/- Money and fractions as cells. No condition. -/
import Derived.Test.YtmmcngdpfikdiaaDoorMyFmt
import Derived.Stop.LaidErr
namespace Go.Proofs.YtmmcngdpfikdiaaDoor
open Go.RowKit Go.Proofs.YtmmcngdpfikdiaaDoor.kit
def kit.Mon.cells (a : Mon) : List Value := [.string a.cur, .int .i64 a.amt]
def kit.Mon.wf (a : Mon) : Prop := a.cur.size ≤ maxLen ∧ I64 a.amt
structure Rat where
  n : Int
  d : Int
def Rat.cells (a : Rat) : List Value := [.int .i64 a.n, .int .i64 a.d]
def Rat.wf (a : Rat) : Prop := I64 a.n ∧ I64 a.d
theorem laidOut : laidOutB Tryd.prog = true := by kernel_rfl
theorem gPow : Tryd.prog.globalNamed "internal/strconv.uint64pow10" = some 2 := by kernel_rfl
theorem tab2 {W : World} (h : laidMet Tryd.prog [("internal/strconv.uint64pow10", Rows.laid_internal_strconv_uint64pow10)] W) : Lib.TabIs Tryd.prog W "internal/strconv.uint64pow10" .u64 Lib.pow10Tab :=
  Lib.tabIs_of_head (t := 90) (e := 52) gPow (by kernel_rfl) Tryd.underlying90 Tryd.underlying52 (by kernel_rfl) (by kernel_rfl) (rest := []) h
end Go.Proofs.YtmmcngdpfikdiaaDoor
