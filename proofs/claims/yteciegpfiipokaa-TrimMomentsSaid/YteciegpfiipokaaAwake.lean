/- The chapter's example. No condition. -/
import Derived.Test.YteciegpfiipokaaMoments
import Derived.Test.YteciegpfiipokaaMore
namespace Go.Proofs.Yteciegpfiipokaa
open Go.RowKit Go.Proofs.Yteciegpfiipokaa.kit
set_option linter.unusedVariables false

def exS : Ship := ⟨⟨#[115]⟩, 2, 1, 1, 99, 1, 1, 1, 99⟩
def exL : List Load := [⟨0, 0, 0, ⟨#[]⟩, 6, 0, 0⟩, ⟨1, 0, 0, ⟨#[]⟩, 4, 0, 0⟩]
theorem ex_sum : sumV exS exL = ((-2, 0, 0, 10), true) := by decide
set_option maxHeartbeats 1000000 in
theorem awake_any (w : World) : Calls Try.prog 9 #[] w fun e w' => e = .returned (.bool true) ∧ Below w.heap.size w w' := by
  go_enter Try.func9, Try.ntmps9
  go_wp2_with fail
  refine (moments_any exS (by unfold maxLen; decide) _ 2 2 exL _ (SliceOf.new _ _ _ _ (by simp) _ rfl (fun _ => rfl) rfl) (by unfold maxLen; omega)).mono ?_
  rw [ex_sum]
  rintro e w1 ⟨rfl, hb1⟩
  have hB1 : Below w.heap.size w w1 := (((Below.refl _ _).alloc (Nat.le_refl _) _).alloc (by simp) _).trans (hb1.mono (by simp; omega))
  go_wp2_with fail
  go_ret
  exact ⟨rfl, hB1⟩
end Go.Proofs.Yteciegpfiipokaa
