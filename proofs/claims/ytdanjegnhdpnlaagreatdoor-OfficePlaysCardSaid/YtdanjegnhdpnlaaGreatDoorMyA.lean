/- Currencies, and which money may be: the program and the document. No condition. -/
import Derived.Test.YtdanjegnhdpnlaaGreatDoorMy
import Derived.Handy
namespace Go.Proofs.YtdanjegnhdpnlaaGreatDoor.kit
open Go.RowKit Go.PlainAid
set_option linter.unusedVariables false

set_option maxHeartbeats 1600000 in
theorem isCur_any (s : ByteArray) (w : World) (hs : s.size ≤ maxLen) :
    Calls Tryz.prog 101 #[.string s] w fun e w' => e = .returned (.bool (curB s)) ∧ w = w' := by
  unfold maxLen at hs
  by_cases h3 : s.size = 3
  rotate_left
  · have e : Hid (false = curB s) := Lib.hid (by unfold curB; rw [decide_eq_false h3]; rfl)
    have d0 : ((s.size : Int) != 3) = true := by simp; omega
    have d1 : (s.size != 3) = true := by simp; omega
    go_enter Tryz.func101, Tryz.ntmps101
    go_wp2
    go_ret
    exact ⟨ret_bool e.out, rfl⟩
  have hb := get_bt s
  have HH : Hid (curB s = curF s 3) := Lib.hid (by unfold curB; rw [decide_eq_true h3]; rfl)
  go_enter Tryz.func101, Tryz.ntmps101
  go_wp2
  go_loop [9] (fun i => ∃ k : Nat, k ≤ 3 ∧ i = .int .i64 k ∧ Hid (curF s k = true)) (fun i => 3 - (intOf i).toNat)
  case atStart => exact ⟨0, Nat.zero_le _, rfl, Lib.hid rfl⟩
  case round =>
    obtain ⟨k, hk, rfl, hd⟩ := hrel
    by_cases hlt : k < 3
    · have hks : k < s.size := by omega
      have HOK := Lib.hid (curF_bad (s := s) hlt)
      have HD1 : Hid (upB (bt s k) = true → curF s (k + 1) = true) := Lib.hid (fun h => by unfold curF; rw [hd.out, h]; rfl)
      by_cases q0 : bt s k < 65
      · have HE : Hid (false = curB s) := Lib.hid (by rw [HH.out]; exact (HOK.out (upB_not.2 (by omega))).symm)
        go_wp2
        go_ret
        exact ⟨ret_bool HE.out, rfl⟩
      by_cases q1 : 90 < bt s k
      · have HE : Hid (false = curB s) := Lib.hid (by rw [HH.out]; exact (HOK.out (upB_not.2 (by omega))).symm)
        go_wp2
        go_ret
        exact ⟨ret_bool HE.out, rfl⟩
      have HD2 := Lib.hid (HD1.out (upB_iff.2 (by omega)))
      go_wp2
      go_round
      case rel => exact ⟨k + 1, by omega, by go_num, HD2⟩
      case measure => simp [intOf]; omega
    · have hk3 : k = 3 := by omega
      subst hk3
      have HE : Hid (true = curB s) := Lib.hid (by rw [HH.out, hd.out])
      go_wp2
      go_ret
      exact ⟨ret_bool HE.out, rfl⟩
set_option maxHeartbeats 1600000 in
theorem rcur_any (s : ByteArray) (w : World) (hs : s.size ≤ maxLen) :
    Calls Tryz.prog 65 #[.string s] w fun e w' => e = .returned (.bool (curB s)) ∧ w = w' := by
  unfold maxLen at hs
  by_cases h3 : s.size = 3
  rotate_left
  · have e : Hid (false = curB s) := Lib.hid (by unfold curB; rw [decide_eq_false h3]; rfl)
    have d0 : ((s.size : Int) != 3) = true := by simp; omega
    have d1 : (s.size != 3) = true := by simp; omega
    go_enter Tryz.func65, Tryz.ntmps65
    go_wp2
    go_ret
    exact ⟨ret_bool e.out, rfl⟩
  have hb := get_bt s
  have HH : Hid (curB s = curF s 3) := Lib.hid (by unfold curB; rw [decide_eq_true h3]; rfl)
  go_enter Tryz.func65, Tryz.ntmps65
  go_wp2
  go_loop [3] (fun i => ∃ k : Nat, k ≤ 3 ∧ i = .int .i64 k ∧ Hid (curF s k = true)) (fun i => 3 - (intOf i).toNat)
  case atStart => exact ⟨0, Nat.zero_le _, rfl, Lib.hid rfl⟩
  case round =>
    obtain ⟨k, hk, rfl, hd⟩ := hrel
    by_cases hlt : k < 3
    · have hks : k < s.size := by omega
      have HOK := Lib.hid (curF_bad (s := s) hlt)
      have HD1 : Hid (upB (bt s k) = true → curF s (k + 1) = true) := Lib.hid (fun h => by unfold curF; rw [hd.out, h]; rfl)
      by_cases q0 : bt s k < 65
      · have HE : Hid (false = curB s) := Lib.hid (by rw [HH.out]; exact (HOK.out (upB_not.2 (by omega))).symm)
        go_wp2
        go_ret
        exact ⟨ret_bool HE.out, rfl⟩
      by_cases q1 : 90 < bt s k
      · have HE : Hid (false = curB s) := Lib.hid (by rw [HH.out]; exact (HOK.out (upB_not.2 (by omega))).symm)
        go_wp2
        go_ret
        exact ⟨ret_bool HE.out, rfl⟩
      have HD2 := Lib.hid (HD1.out (upB_iff.2 (by omega)))
      go_wp2
      go_round
      case rel => exact ⟨k + 1, by omega, by go_num, HD2⟩
      case measure => simp [intOf]; omega
    · have hk3 : k = 3 := by omega
      subst hk3
      have HE : Hid (true = curB s) := Lib.hid (by rw [HH.out, hd.out])
      go_wp2
      go_ret
      exact ⟨ret_bool HE.out, rfl⟩
set_option maxHeartbeats 1600000 in
theorem may_any (m : Mon) (w : World) (hs : m.cur.size ≤ maxLen) :
    Calls Tryz.prog 83 #[.agg #[.string m.cur, .int .i64 m.amt]] w fun e w' => e = .returned (.bool (mayM m)) ∧ Below w.heap.size w w' := by
  have hB0 : Below w.heap.size w (w.alloc (.cells #[.string m.cur, .int .i64 m.amt] 50)) := (Below.refl _ _).alloc (Nat.le_refl _) _
  have HC := Lib.hid (fun w => isCur_any m.cur w hs)
  clear hs
  cases h0 : curB m.cur
  · have e : Hid (false = mayM m) := Lib.hid (by unfold mayM; rw [h0]; rfl)
    rw [h0] at HC
    go_enter Tryz.func83, Tryz.ntmps83
    go_wp2_with fail
    refine (HC.out _).mono ?_
    rintro e w' ⟨rfl, rfl⟩
    go_wp2
    go_ret
    exact ⟨ret_bool e.out, hB0⟩
  rw [h0] at HC
  by_cases h1 : -1099511627776 ≤ m.amt
  rotate_left
  · have e : Hid (false = mayM m) := Lib.hid (by unfold mayM; rw [decide_eq_false h1, h0]; rfl)
    have d1 : decide (-1099511627776 ≤ m.amt) = false := decide_eq_false h1
    go_enter Tryz.func83, Tryz.ntmps83
    go_wp2_with fail
    refine (HC.out _).mono ?_
    rintro e w' ⟨rfl, rfl⟩
    go_wp2
    go_ret
    exact ⟨ret_bool e.out, hB0⟩
  by_cases h2 : m.amt ≤ 1099511627776
  rotate_left
  · have e : Hid (false = mayM m) := Lib.hid (by unfold mayM; rw [decide_eq_false h2, h0]; simp)
    have d1 : decide (-1099511627776 ≤ m.amt) = true := decide_eq_true h1
    have d2 : decide (m.amt ≤ 1099511627776) = false := decide_eq_false h2
    go_enter Tryz.func83, Tryz.ntmps83
    go_wp2_with fail
    refine (HC.out _).mono ?_
    rintro e w' ⟨rfl, rfl⟩
    go_wp2
    go_ret
    exact ⟨ret_bool e.out, hB0⟩
  have e : Hid (true = mayM m) := Lib.hid (by unfold mayM; rw [decide_eq_true h1, decide_eq_true h2, h0]; rfl)
  have d1 : decide (-1099511627776 ≤ m.amt) = true := decide_eq_true h1
  have d2 : decide (m.amt ≤ 1099511627776) = true := decide_eq_true h2
  go_enter Tryz.func83, Tryz.ntmps83
  go_wp2_with fail
  refine (HC.out _).mono ?_
  rintro e w' ⟨rfl, rfl⟩
  go_wp2
  go_ret
  exact ⟨ret_bool e.out, hB0⟩
set_option maxHeartbeats 1600000 in
theorem rmay_any (m : Mon) (w : World) (hs : m.cur.size ≤ maxLen) :
    Calls Tryz.prog 47 #[.agg #[.string m.cur, .int .i64 m.amt]] w fun e w' => e = .returned (.bool (mayM m)) ∧ Below w.heap.size w w' := by
  have hB0 : Below w.heap.size w (w.alloc (.cells #[.string m.cur, .int .i64 m.amt] 50)) := (Below.refl _ _).alloc (Nat.le_refl _) _
  have HC := Lib.hid (fun w => rcur_any m.cur w hs)
  clear hs
  cases h0 : curB m.cur
  · have e : Hid (false = mayM m) := Lib.hid (by unfold mayM; rw [h0]; rfl)
    rw [h0] at HC
    go_enter Tryz.func47, Tryz.ntmps47
    go_wp2_with fail
    refine (HC.out _).mono ?_
    rintro e w' ⟨rfl, rfl⟩
    go_wp2
    go_ret
    exact ⟨ret_bool e.out, hB0⟩
  rw [h0] at HC
  by_cases h1 : -1099511627776 ≤ m.amt
  rotate_left
  · have e : Hid (false = mayM m) := Lib.hid (by unfold mayM; rw [decide_eq_false h1, h0]; rfl)
    have d1 : decide (-1099511627776 ≤ m.amt) = false := decide_eq_false h1
    go_enter Tryz.func47, Tryz.ntmps47
    go_wp2_with fail
    refine (HC.out _).mono ?_
    rintro e w' ⟨rfl, rfl⟩
    go_wp2
    go_ret
    exact ⟨ret_bool e.out, hB0⟩
  by_cases h2 : m.amt ≤ 1099511627776
  rotate_left
  · have e : Hid (false = mayM m) := Lib.hid (by unfold mayM; rw [decide_eq_false h2, h0]; simp)
    have d1 : decide (-1099511627776 ≤ m.amt) = true := decide_eq_true h1
    have d2 : decide (m.amt ≤ 1099511627776) = false := decide_eq_false h2
    go_enter Tryz.func47, Tryz.ntmps47
    go_wp2_with fail
    refine (HC.out _).mono ?_
    rintro e w' ⟨rfl, rfl⟩
    go_wp2
    go_ret
    exact ⟨ret_bool e.out, hB0⟩
  have e : Hid (true = mayM m) := Lib.hid (by unfold mayM; rw [decide_eq_true h1, decide_eq_true h2, h0]; rfl)
  have d1 : decide (-1099511627776 ≤ m.amt) = true := decide_eq_true h1
  have d2 : decide (m.amt ≤ 1099511627776) = true := decide_eq_true h2
  go_enter Tryz.func47, Tryz.ntmps47
  go_wp2_with fail
  refine (HC.out _).mono ?_
  rintro e w' ⟨rfl, rfl⟩
  go_wp2
  go_ret
  exact ⟨ret_bool e.out, hB0⟩
end Go.Proofs.YtdanjegnhdpnlaaGreatDoor.kit
