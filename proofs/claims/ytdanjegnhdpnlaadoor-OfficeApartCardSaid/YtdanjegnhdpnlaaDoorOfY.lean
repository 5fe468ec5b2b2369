/- The chapter's example of an office. Condition: the table of powers of ten. -/
import Derived.Test.YtdanjegnhdpnlaaDoorOfX
import Derived.Test.YtdanjegnhdpnlaaDoorOfW
namespace Go.Proofs.YtdanjegnhdpnlaaDoor.kit
open Go.RowKit Go.PlainAid
set_option linter.unusedVariables false
set_option linter.unusedSimpArgs false
def awD : Dl := ⟨⟨#[100]⟩, ⟨#[]⟩, ⟨#[121]⟩, ⟨#[99]⟩, ⟨#[]⟩, ⟨#[104]⟩, ⟨#[]⟩, ⟨#[]⟩, ⟨#[]⟩, ⟨#[85, 83, 68]⟩, 500, 0, 0, 0, 0, 50⟩
def awX : Dx := ⟨awD, none, 0, 0⟩
def awP : Pty := ⟨⟨#[104]⟩, ⟨#[107]⟩, 3⟩
theorem awDue : dueV awD = 25 := by decide +kernel
theorem awWho : whoV ⟨#[104]⟩ [awP] = (3, ⟨#[107]⟩) := by decide +kernel
theorem awDeals : dealsOf ⟨#[104]⟩ 3 [awX] ⟨#[100]⟩ = some awD := rfl
def awL (n : Int) : Lt := ⟨⟨#[107]⟩, ⟨#[]⟩, 0, 18, 0, ⟨#[100]⟩, ⟨#[]⟩, ⟨#[]⟩, 0, 0, ⟨#[85, 83, 68]⟩, n, none, 0, 0, none, 0, 0⟩
def awA : Lt := ⟨⟨#[121]⟩, ⟨#[]⟩, 0, 15, 0, ⟨#[100]⟩, ⟨#[]⟩, ⟨#[]⟩, 0, 0, ⟨#[]⟩, 0, none, 0, 0, none, 0, 0⟩
theorem awT1 : takeV 3 ⟨#[107]⟩ awD ⟨0, 0⟩ awA = (dutyL awD 25, ⟨1, 0⟩) := by
  unfold takeV declV
  rw [awDue]
  rfl
theorem awT2 : takeV 3 ⟨#[107]⟩ awD ⟨1, 0⟩ (awL 24) = ([], ⟨1, 24⟩) := by
  unfold takeV credV
  rw [awDue]
  rfl
theorem awT3 : takeV 3 ⟨#[107]⟩ awD ⟨1, 24⟩ (awL 1) = (freeL awD, ⟨2, 25⟩) := by
  unfold takeV credV
  rw [awDue]
  rfl
end Go.Proofs.YtdanjegnhdpnlaaDoor.kit
