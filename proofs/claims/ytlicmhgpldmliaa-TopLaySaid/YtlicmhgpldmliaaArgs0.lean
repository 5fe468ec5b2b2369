/- What the arguments of the laws need. No condition. -/
import Derived.Test.YtlicmhgpldmliaaLawLay
namespace Go.Proofs.Ytlicmhgpldmliaa
open Go.RowKit Go.Proofs.Ytlicmhgpldmliaa.kit
theorem laidOut : laidOutB Try.prog = true := by kernel_rfl
theorem u8_of_wf {n : Int} (h : (Lit.int .u8 n).wf = true) : U8 n := by
  simp [Lit.wf, IntKind.min, IntKind.max, IntKind.signed, IntKind.bits] at h
  exact ⟨by omega, by omega⟩
end Go.Proofs.Ytlicmhgpldmliaa
