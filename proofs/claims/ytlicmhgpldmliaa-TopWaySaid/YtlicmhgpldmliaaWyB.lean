/- Voyages: whether one may be. No condition. -/
import Derived.Test.YtlicmhgpldmliaaWyA
import Derived.Test.YtlicmhgpldmliaaNameA
namespace Go.Proofs.Ytlicmhgpldmliaa.kit
open Go.RowKit
set_option linter.unusedVariables false
set_option linter.unusedSimpArgs false
def dayB (d : Int) : Bool := decide (0 ≤ d) && decide (d ≤ 1048576)
theorem dayB_ok {d : Int} (h : dayB d = true) : DayOK d := by
  unfold dayB at h
  simpa [DayOK] using h
theorem dayB_no {d : Int} (h : dayB d = false) : ¬ DayOK d := by
  intro k
  unfold dayB at h
  simp [k.1, k.2] at h
theorem pday_any (d : Int) (w : World) : Calls Try.prog 77 #[.int .i64 d] w fun e w' => e = .returned (.bool (dayB d)) ∧ w = w' := by
  by_cases h : 0 ≤ d
  · have hd : dayB d = decide (d ≤ 1048576) := by unfold dayB; simp [h]
    rw [hd]
    go_enter Try.func77, Try.ntmps77
    go_wp2_with fail
    go_ret
    exact ⟨rfl, rfl⟩
  · have hd : dayB d = false := by unfold dayB; simp [h]
    rw [hd]
    go_enter Try.func77, Try.ntmps77
    go_wp2_with fail
    go_ret
    exact ⟨rfl, rfl⟩
theorem cday_any (d : Int) (w : World) : Calls Try.prog 42 #[.int .i64 d] w fun e w' => e = .returned (.bool (dayB d)) ∧ w = w' := by
  by_cases h : 0 ≤ d
  · have hd : dayB d = decide (d ≤ 1048576) := by unfold dayB; simp [h]
    rw [hd]
    go_enter Try.func42, Try.ntmps42
    go_wp2_with fail
    go_ret
    exact ⟨rfl, rfl⟩
  · have hd : dayB d = false := by unfold dayB; simp [h]
    rw [hd]
    go_enter Try.func42, Try.ntmps42
    go_wp2_with fail
    go_ret
    exact ⟨rfl, rfl⟩
end Go.Proofs.Ytlicmhgpldmliaa.kit
