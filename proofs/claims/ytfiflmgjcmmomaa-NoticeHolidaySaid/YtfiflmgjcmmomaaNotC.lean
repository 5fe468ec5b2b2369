/- The document's examples; whether a calendar's days are few. No condition. -/
import Derived.Test.YtfiflmgjcmmomaaNotB
namespace Go.Proofs.Ytfiflmgjcmmomaa
open Go.RowKit Go.Proofs.Ytfiflmgjcmmomaa.kit Go.Proofs.Ytfiflmgjcmmomaa.cal
set_option linter.unusedVariables false

def fewB (n1 n2 : Nat) : Bool := decide (n1 ≤ 20 ∧ n2 ≤ 60)
theorem few_any (A1 : Option Addr) (n1 c1 : Nat) (A2 : Option Addr) (n2 c2 : Nat) (w : World) (m1 : n1 ≤ maxLen) (m2 : n2 ≤ maxLen) :
    Calls Try.prog 12 #[.agg #[.slice A1 n1 c1, .slice A2 n2 c2]] w fun e w' => e = .returned (.bool (fewB n1 n2)) ∧ Below w.heap.size w w' := by
  have hB0 : Below w.heap.size w (w.alloc (.cells #[.slice A1 n1 c1, .slice A2 n2 c2] 24)) := (Below.refl _ _).alloc (Nat.le_refl _) _
  have hk0 : Blk (w.alloc (.cells #[.slice A1 n1 c1, .slice A2 n2 c2] 24)) w.heap.size 24 #[.slice A1 n1 c1, .slice A2 n2 c2] := Blk.new _ _ _
  by_cases q1 : n1 ≤ 20
  · have q1' : (n1 : Int) ≤ 20 := by omega
    have q2 : decide (n1 ≤ 20) = true := decide_eq_true q1
    go_enter Try.func12, Try.ntmps12
    go_wp2_with fail
    go_ret
    exact ⟨ret_bool (by unfold fewB; simp [q1]; omega), hB0⟩
  · have q1' : ¬ (n1 : Int) ≤ 20 := by omega
    go_enter Try.func12, Try.ntmps12
    go_wp2_with fail
    go_ret
    exact ⟨ret_bool (by unfold fewB; simp [q1]), hB0⟩

theorem ex1 : dlV ⟨[], []⟩ 10 = (15, true) := by decide +kernel
theorem ex2 : dlV ⟨[5, 6], []⟩ 4 = (11, true) := by decide +kernel
theorem ex3 : daysV ⟨[], []⟩ 10 12 = 3 := by decide +kernel
theorem ex4 : preclV ⟨[], []⟩ 10 16 false = true := by decide +kernel
set_option maxHeartbeats 1000000 in
theorem awake_any (w : World) : Calls Try.prog 10 #[] w fun e w' => e = .returned (.bool true) ∧ Below w.heap.size w w' := by
  go_enter Try.func10, Try.ntmps10
  go_wp2_with fail
  refine (deadline_any ⟨[], []⟩ none 0 0 none 0 0 10 _ SliceOf.none_ SliceOf.none_ (by unfold maxLen; omega) (by unfold maxLen; omega)).mono ?_
  rw [ex1]
  rintro e w1 ⟨rfl, hb1⟩
  go_wp2_with fail
  refine (deadline_any ⟨[5, 6], []⟩ _ 2 2 none 0 0 4 _ (SliceOf.new _ _ _ _ (by simp) _ rfl (fun _ => rfl) rfl) SliceOf.none_ (by unfold maxLen; omega) (by unfold maxLen; omega)).mono ?_
  rw [ex2]
  rintro e w2 ⟨rfl, hb2⟩
  have hB2 : Below w.heap.size w w2 := (hb1.alloc hb1.size _).trans (hb2.mono (hb1.alloc hb1.size _).size)
  clear hb1 hb2
  go_wp2_with fail
  refine (days_any ⟨[], []⟩ none 0 0 none 0 0 10 12 _ SliceOf.none_ SliceOf.none_ (by unfold maxLen; omega) (by unfold maxLen; omega)).mono ?_
  rw [ex3]
  rintro e w3 ⟨rfl, hb3⟩
  have hB3 := hB2.trans (hb3.mono hB2.size)
  clear hB2 hb3
  go_wp2_with fail
  refine (precl_any ⟨[], []⟩ none 0 0 none 0 0 10 16 false _ SliceOf.none_ SliceOf.none_ (by unfold maxLen; omega) (by unfold maxLen; omega)).mono ?_
  rw [ex4]
  rintro e w4 ⟨rfl, hb4⟩
  have hB4 := hB3.trans (hb4.mono hB3.size)
  go_wp2_with fail
  go_ret
  exact ⟨rfl, hB4⟩
end Go.Proofs.Ytfiflmgjcmmomaa
