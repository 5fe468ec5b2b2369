/- Fractions, ways of rounding, sizes: the program and the document. No condition. -/
import Derived.Test.YtdanjegnhdpnlaaGreatDoorMySum
import Derived.Test.YtdanjegnhdpnlaaGreatDoorDiv
namespace Go.Proofs.YtdanjegnhdpnlaaGreatDoor.kit
open Go.RowKit Go.PlainAid
set_option linter.unusedVariables false

theorem isRatio_any (n d : Int) (w : World) : Calls Tryz.prog 84 #[.agg #[.int .i64 n, .int .i64 d]] w fun e w' => e = .returned (.bool (ratB n d)) ∧ Below w.heap.size w w' := by
  have hB0 : Below w.heap.size w (w.alloc (.cells #[.int .i64 n, .int .i64 d] 105)) := (Below.refl _ _).alloc (Nat.le_refl _) _
  obtain ⟨X, hX⟩ : ∃ X, decide (0 ≤ n) = X := ⟨_, rfl⟩
  obtain ⟨Y, hY⟩ : ∃ X, decide (1 ≤ d) = X := ⟨_, rfl⟩
  have e : Hid ((X && Y) = ratB n d) := Lib.hid (by unfold ratB; rw [hX, hY])
  cases X
  all_goals
    go_enter Tryz.func84, Tryz.ntmps84
    go_wp2_with fail
    go_ret
    exact ⟨ret_bool (by first | exact e.out | simpa using e.out), hB0⟩
theorem rright_any (n d : Int) (w : World) : Calls Tryz.prog 48 #[.agg #[.int .i64 n, .int .i64 d]] w fun e w' => e = .returned (.bool (ratB n d)) ∧ Below w.heap.size w w' := by
  have hB0 : Below w.heap.size w (w.alloc (.cells #[.int .i64 n, .int .i64 d] 105)) := (Below.refl _ _).alloc (Nat.le_refl _) _
  obtain ⟨X, hX⟩ : ∃ X, decide (0 ≤ n) = X := ⟨_, rfl⟩
  obtain ⟨Y, hY⟩ : ∃ X, decide (1 ≤ d) = X := ⟨_, rfl⟩
  have e : Hid ((X && Y) = ratB n d) := Lib.hid (by unfold ratB; rw [hX, hY])
  cases X
  all_goals
    go_enter Tryz.func48, Tryz.ntmps48
    go_wp2_with fail
    go_ret
    exact ⟨ret_bool (by first | exact e.out | simpa using e.out), hB0⟩
theorem size_any (n : Int) (w : World) (h : -1099511627776 ≤ n ∧ n ≤ 1099511627776) : Calls Tryz.prog 86 #[.int .i64 n] w fun e w' => e = .returned (.int .u64 (n.natAbs : Int)) ∧ w = w' := by
  by_cases h0 : n < 0
  · have e1 : Hid (IntKind.u64.wrap (-n) = (n.natAbs : Int)) := Lib.hid (by rw [IntKind.wrap_u64]; omega)
    go_enter Tryz.func86, Tryz.ntmps86
    go_wp2
    go_ret
    exact ⟨ret_int (by first | exact e1.out | (have := e1.out; omega)), rfl⟩
  · have e1 : Hid (IntKind.u64.wrap n = (n.natAbs : Int)) := Lib.hid (by rw [IntKind.wrap_u64]; omega)
    go_enter Tryz.func86, Tryz.ntmps86
    go_wp2
    go_ret
    exact ⟨ret_int (by first | exact e1.out | (have := e1.out; omega)), rfl⟩
theorem round0 (w : World) : Calls Tryz.prog 82 #[.int .i64 0] w fun e w' => e = .returned (.func (.func 98) #[] #[]) ∧ w = w' := by
  go_enter Tryz.func82, Tryz.ntmps82
  go_wp2
  go_ret
  exact ⟨rfl, rfl⟩
theorem round1 (w : World) : Calls Tryz.prog 82 #[.int .i64 1] w fun e w' => e = .returned (.func (.func 99) #[] #[]) ∧ w = w' := by
  go_enter Tryz.func82, Tryz.ntmps82
  go_wp2
  go_ret
  exact ⟨rfl, rfl⟩
theorem round2 (w : World) : Calls Tryz.prog 82 #[.int .i64 2] w fun e w' => e = .returned (.func (.func 100) #[] #[]) ∧ w = w' := by
  go_enter Tryz.func82, Tryz.ntmps82
  go_wp2
  go_ret
  exact ⟨rfl, rfl⟩
theorem roundN (way : Int) (w : World) (h : ¬ (0 ≤ way ∧ way ≤ 2)) : Calls Tryz.prog 82 #[.int .i64 way] w fun e w' => e = .returned .nilFunc ∧ w = w' := by
  have d0 : (way == 0) = false := by simp; omega
  have d1 : (way == 1) = false := by simp; omega
  have d2 : (way == 2) = false := by simp; omega
  clear h
  go_enter Tryz.func82, Tryz.ntmps82
  go_wp2
  go_ret
  exact ⟨rfl, rfl⟩
def moreB (way : Int) (r d : Nat) : Bool := if way = 0 then false else if way = 1 then decide (0 < r) else decide (d - r ≤ r)
theorem more0 (r d : Nat) (w : World) : Calls Tryz.prog 98 #[.int .u64 r, .int .u64 d] w fun e w' => e = .returned (.bool (moreB 0 r d)) ∧ w = w' := by
  go_enter Tryz.func98, Tryz.ntmps98
  go_wp2
  go_ret
  exact ⟨rfl, rfl⟩
theorem more1 (r d : Nat) (w : World) : Calls Tryz.prog 99 #[.int .u64 r, .int .u64 d] w fun e w' => e = .returned (.bool (moreB 1 r d)) ∧ w = w' := by
  have e : Hid (decide ((0 : Int) < (r : Int)) = moreB 1 r d) := Lib.hid (by unfold moreB; rw [if_neg (by omega), if_pos rfl, decide_eq_decide]; omega)
  go_enter Tryz.func99, Tryz.ntmps99
  go_wp2
  go_ret
  exact ⟨ret_bool (by first | exact e.out | simpa using e.out), rfl⟩
theorem more2 (r d : Nat) (w : World) (hrd : r < d) (hd : d < 18446744073709551616) : Calls Tryz.prog 100 #[.int .u64 r, .int .u64 d] w fun e w' => e = .returned (.bool (moreB 2 r d)) ∧ w = w' := by
  have e : Hid (decide ((d : Int) - (r : Int) ≤ (r : Int)) = moreB 2 r d) := Lib.hid (by unfold moreB; rw [if_neg (by omega), if_neg (by omega), decide_eq_decide]; omega)
  go_enter Tryz.func100, Tryz.ntmps100
  go_wp2
  go_ret
  exact ⟨ret_bool (by first | exact e.out | simpa using e.out), rfl⟩
end Go.Proofs.YtdanjegnhdpnlaaGreatDoor.kit
