/- trim.isOn: whether a slot lies on the ship. No condition. -/
import Derived.Test.YteciegpfiipokaaBase
namespace Go.Proofs.Yteciegpfiipokaa
open Go.RowKit Go.Proofs.Yteciegpfiipokaa.kit
set_option linter.unusedVariables false

def onS (ba ro ti b r t : Int) : Bool := decide (0 ≤ b ∧ b < ba ∧ 0 ≤ r ∧ r < ro ∧ 0 ≤ t ∧ t < ti)
set_option maxHeartbeats 1600000 in
theorem isOn_any (s : Ship) (b r t : Int) (w : World) : Calls Try.prog 27 #[.agg #[.string s.nm, .int .i64 s.ba, .int .i64 s.ro, .int .i64 s.ti, .int .i64 s.st, .int .i64 s.tr, .int .i64 s.li, .int .i64 s.up, .int .i64 s.mo], .agg #[.int .i64 b, .int .i64 r, .int .i64 t]] w
    fun e w' => e = .returned (.bool (onS s.ba s.ro s.ti b r t)) ∧ Below w.heap.size w w' := by
  obtain ⟨nm, ba, ro, ti, st, tr, li, up, mo⟩ := s
  have hB : Below w.heap.size w ((w.alloc (.cells #[.string nm, .int .i64 ba, .int .i64 ro, .int .i64 ti, .int .i64 st, .int .i64 tr, .int .i64 li, .int .i64 up, .int .i64 mo] 23)).alloc (.cells #[.int .i64 b, .int .i64 r, .int .i64 t] 38)) := ((Below.refl _ _).alloc (Nat.le_refl _) _).alloc (by simp) _
  simp only
  by_cases h1 : 0 ≤ b
  case neg =>
    go_enter Try.func27, Try.ntmps27
    go_wp2
    go_ret
    exact ⟨ret_bool (by unfold onS; simp <;> omega), hB⟩
  by_cases h2 : b < ba
  case neg =>
    go_enter Try.func27, Try.ntmps27
    go_wp2
    go_ret
    exact ⟨ret_bool (by unfold onS; simp <;> omega), hB⟩
  by_cases h3 : 0 ≤ r
  case neg =>
    go_enter Try.func27, Try.ntmps27
    go_wp2
    go_ret
    exact ⟨ret_bool (by unfold onS; simp <;> omega), hB⟩
  by_cases h4 : r < ro
  case neg =>
    go_enter Try.func27, Try.ntmps27
    go_wp2
    go_ret
    exact ⟨ret_bool (by unfold onS; simp <;> omega), hB⟩
  by_cases h5 : 0 ≤ t
  case neg =>
    go_enter Try.func27, Try.ntmps27
    go_wp2
    go_ret
    exact ⟨ret_bool (by unfold onS; simp <;> omega), hB⟩
  go_enter Try.func27, Try.ntmps27
  go_wp2
  go_ret
  exact ⟨ret_bool (by unfold onS; simp [h1, h2, h3, h4, h5]), hB⟩
end Go.Proofs.Yteciegpfiipokaa
