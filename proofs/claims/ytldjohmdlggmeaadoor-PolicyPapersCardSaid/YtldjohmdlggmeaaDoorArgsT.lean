/- The tables that the row lists, as the walk asks for them. No condition. -/
import Derived.Test.YtldjohmdlggmeaaDoorPaF
import Derived.Test.YtldjohmdlggmeaaDoorArgs
import Derived.Stop.LaidErr
namespace Go.Proofs.YtldjohmdlggmeaaDoor
open Go.RowKit Go.Proofs.YtldjohmdlggmeaaDoor.kit
set_option linter.unusedVariables false
theorem gPow : Tryd.prog.globalNamed "internal/strconv.uint64pow10" = some 2 := by kernel_rfl
theorem tab2 {W : World} (h : laidMet Tryd.prog [("internal/strconv.uint64pow10", Rows.laid_internal_strconv_uint64pow10)] W) : Lib.TabIs Tryd.prog W "internal/strconv.uint64pow10" .u64 Lib.pow10Tab :=
  Lib.tabIs_of_head (t := 81) (e := 68) gPow (by kernel_rfl) Tryd.underlying81 Tryd.underlying68 (by kernel_rfl) (by kernel_rfl) (rest := []) h
end Go.Proofs.YtldjohmdlggmeaaDoor
