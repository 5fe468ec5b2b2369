/- What the arguments of the law need; the table that the row lists. No condition. -/
import Derived.Test.YtlicmhgpldmliaaDoorLawTime
import Derived.Test.YtlicmhgpldmliaaDoorCalArg
import Derived.Stop.LaidErr
namespace Go.Proofs.YtlicmhgpldmliaaDoor
open Go.RowKit Go.Proofs.YtlicmhgpldmliaaDoor.kit
set_option linter.unusedVariables false
theorem u16_of_wf {n : Int} (h : (Lit.int .u16 n).wf = true) : 0 ≤ n ∧ n ≤ 65535 := by
  simp [Lit.wf, IntKind.min, IntKind.max, IntKind.signed, IntKind.bits] at h
  exact ⟨by omega, by omega⟩
theorem gPow : Tryd.prog.globalNamed "internal/strconv.uint64pow10" = some 0 := by kernel_rfl
theorem tab2 {W : World} (h : laidMet Tryd.prog [("internal/strconv.uint64pow10", Rows.laid_internal_strconv_uint64pow10)] W) : Lib.TabIs Tryd.prog W "internal/strconv.uint64pow10" .u64 Lib.pow10Tab :=
  Lib.tabIs_of_head (t := 122) (e := 110) gPow (by kernel_rfl) Tryd.underlying122 Tryd.underlying110 (by kernel_rfl) (by kernel_rfl) (rest := []) h
end Go.Proofs.YtlicmhgpldmliaaDoor
