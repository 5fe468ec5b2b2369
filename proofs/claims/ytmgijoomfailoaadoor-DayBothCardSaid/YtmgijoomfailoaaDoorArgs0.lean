/- The tables that chapter 02's rows list. No condition. -/
import Derived.Test.YtmgijoomfailoaaDoorCalArg
import Derived.Test.YtmgijoomfailoaaDoorDyE
import Derived.Stop.LaidErr
namespace Go.Proofs.YtmgijoomfailoaaDoor
open Go.RowKit Go.Proofs.YtmgijoomfailoaaDoor.kit Go.Proofs.YtmgijoomfailoaaDoor.cal
theorem gPow : Tryd.prog.globalNamed "internal/strconv.uint64pow10" = some 1 := by kernel_rfl
theorem gMon : Tryd.prog.globalNamed "supercargo/day.months" = some 0 := by kernel_rfl
theorem tab3 {W : World} (h : laidMet Tryd.prog [("supercargo/day.months", Rows.laid_supercargo_day_months)] W) : Lib.TabIs Tryd.prog W "supercargo/day.months" .i64 monTab :=
  Lib.tabIs_of_head (t := 62) (e := 3) gMon (by kernel_rfl) Tryd.underlying62 Tryd.underlying3 (by kernel_rfl) (by kernel_rfl) (rest := []) h
theorem tab2 {W : World} (h : laidMet Tryd.prog [("internal/strconv.uint64pow10", Rows.laid_internal_strconv_uint64pow10), ("supercargo/day.months", Rows.laid_supercargo_day_months)] W) : Lib.TabIs Tryd.prog W "internal/strconv.uint64pow10" .u64 Lib.pow10Tab :=
  Lib.tabIs_of_head (t := 96) (e := 84) gPow (by kernel_rfl) Tryd.underlying96 Tryd.underlying84 (by kernel_rfl) (by kernel_rfl) (rest := [("supercargo/day.months", Rows.laid_supercargo_day_months)]) h
end Go.Proofs.YtmgijoomfailoaaDoor
