/- Drafts as rows of cells; the tables that the row lists. No condition. -/
import Derived.Test.YtlaclkiedjhphaaGreatDoorMtC
import Derived.Test.YtlaclkiedjhphaaGreatDoorCalArg
import Derived.Stop.LaidErr
namespace Go.Proofs.YtlaclkiedjhphaaGreatDoor.kit
open Go.RowKit
set_option linter.unusedVariables false
def Dr.cells (a : Dr) : List Value := [.string a.num, .string a.drw, .string a.dre, .string a.pay, .string a.cur, .int .i64 a.amt, .int .i64 a.kind, .int .i64 a.days, .int .i64 a.fr]
def Dr.wf (a : Dr) : Prop := a.num.size ≤ maxLen ∧ a.drw.size ≤ maxLen ∧ a.dre.size ≤ maxLen ∧ a.pay.size ≤ maxLen ∧ a.cur.size ≤ maxLen ∧ I64 a.amt ∧ I64 a.kind ∧ I64 a.days ∧ I64 a.fr
theorem Dr.wf_ok {a : Dr} (h : a.wf) : a.ok := ⟨h.1, h.2.1, h.2.2.1, h.2.2.2.1, h.2.2.2.2.1⟩
end Go.Proofs.YtlaclkiedjhphaaGreatDoor.kit
namespace Go.Proofs.YtlaclkiedjhphaaGreatDoor
open Go.RowKit Go.Proofs.YtlaclkiedjhphaaGreatDoor.kit
theorem laidOut : laidOutB Tryz.prog = true := by kernel_rfl
theorem gPow : Tryz.prog.globalNamed "internal/strconv.uint64pow10" = some 0 := by kernel_rfl
theorem tab2 {W : World} (h : laidMet Tryz.prog [("internal/strconv.uint64pow10", Rows.laid_internal_strconv_uint64pow10)] W) : Lib.TabIs Tryz.prog W "internal/strconv.uint64pow10" .u64 Lib.pow10Tab :=
  Lib.tabIs_of_head (t := 117) (e := 56) gPow (by kernel_rfl) Tryz.underlying117 Tryz.underlying56 (by kernel_rfl) (by kernel_rfl) (rest := []) h
end Go.Proofs.YtlaclkiedjhphaaGreatDoor
