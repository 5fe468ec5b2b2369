/- The tables that the rows list, as the walks ask for them. No condition. -/
import Derived.Test.YtjemmddgeejffaaDoorMkB
import Derived.Stop.LaidErr
namespace Go.Proofs.YtjemmddgeejffaaDoor
open Go.RowKit Go.Proofs.YtjemmddgeejffaaDoor.kit
set_option linter.unusedVariables false
theorem own : ownKnob Tryd.prog.godebug = none := by kernel_rfl
theorem laidOut : laidOutB Tryd.prog = true := by kernel_rfl
theorem gPow : Tryd.prog.globalNamed "internal/strconv.uint64pow10" = some 0 := by kernel_rfl
theorem tab2 {W : World} (h : laidMet Tryd.prog [("internal/strconv.uint64pow10", Rows.laid_internal_strconv_uint64pow10)] W) : Lib.TabIs Tryd.prog W "internal/strconv.uint64pow10" .u64 Lib.pow10Tab :=
  Lib.tabIs_of_head (t := 78) (e := 61) gPow (by kernel_rfl) Tryd.underlying78 Tryd.underlying61 (by kernel_rfl) (by kernel_rfl) (rest := []) h
end Go.Proofs.YtjemmddgeejffaaDoor
