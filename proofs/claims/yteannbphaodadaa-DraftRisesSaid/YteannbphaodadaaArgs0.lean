/- Drafts and deeds as rows of cells. No condition. -/
import Derived.Test.YteannbphaodadaaDgF
namespace Go.Proofs.Yteannbphaodadaa.kit
open Go.RowKit
set_option linter.unusedVariables false
def Dr.cells (a : Dr) : List Value := [.string a.num, .string a.drw, .string a.dre, .string a.pay, .string a.cur, .int .i64 a.amt, .int .i64 a.kind, .int .i64 a.days, .int .i64 a.fr]
def Dr.wf (a : Dr) : Prop := a.num.size ≤ maxLen ∧ a.drw.size ≤ maxLen ∧ a.dre.size ≤ maxLen ∧ a.pay.size ≤ maxLen ∧ a.cur.size ≤ maxLen ∧ I64 a.amt ∧ I64 a.kind ∧ I64 a.days ∧ I64 a.fr
abbrev De.cells (a : De) : List Value := deC a
def De.wf (a : De) : Prop := I64 a.call ∧ a.by_.size ≤ maxLen ∧ a.to_.size ≤ maxLen ∧ I64 a.day
theorem Dr.wf_ok {a : Dr} (h : a.wf) : a.ok := ⟨h.1, h.2.1, h.2.2.1, h.2.2.2.1, h.2.2.2.2.1⟩
theorem De.wf_ok {a : De} (h : a.wf) : a.ok := ⟨h.2.1, h.2.2.1⟩
end Go.Proofs.Yteannbphaodadaa.kit
namespace Go.Proofs.Yteannbphaodadaa
open Go.Proofs.Yteannbphaodadaa.kit
theorem laidOut : laidOutB Try.prog = true := by kernel_rfl
end Go.Proofs.Yteannbphaodadaa
