/- Currencies and money: the program. No condition. -/
import Derived.Test.YtlicmhgpldmliaaNum
import Derived.Test.YtlicmhgpldmliaaKit
import Derived.Handy
namespace Go.Proofs.Ytlicmhgpldmliaa.kit
open Go.RowKit Go.PlainAid
set_option linter.unusedVariables false
def upB (c : Int) : Bool := decide (65 ≤ c) && decide (c ≤ 90)
def curF (s : ByteArray) : Nat → Bool
  | 0 => true
  | k + 1 => curF s k && upB (bt s k)
def curB (s : ByteArray) : Bool := decide (s.size = 3) && curF s 3
theorem upB_iff {c : Int} : upB c = true ↔ 65 ≤ c ∧ c ≤ 90 := by unfold upB; simp
theorem upB_not {c : Int} : upB c = false ↔ ¬ (65 ≤ c ∧ c ≤ 90) := by rw [← upB_iff]; simp
theorem curF_at {s : ByteArray} : ∀ {k : Nat}, curF s k = true → ∀ i, i < k → upB (bt s i) = true
  | 0, _, i, h => by omega
  | k + 1, h, i, hi => by
    simp only [curF, Bool.and_eq_true] at h
    rcases Nat.lt_or_ge i k with h1 | h1
    · exact curF_at h.1 i h1
    · have : i = k := by omega
      subst this; exact h.2
theorem curF_bad {s : ByteArray} {k n : Nat} (hk : k < n) (h : upB (bt s k) = false) : curF s n = false := by
  cases e : curF s n
  · rfl
  · rw [curF_at e k hk] at h; cases h
set_option maxHeartbeats 1600000 in
theorem isCur_any (s : ByteArray) (w : World) (hs : s.size ≤ maxLen) :
    Calls Try.prog 108 #[.string s] w fun e w' => e = .returned (.bool (curB s)) ∧ w = w' := by
  unfold maxLen at hs
  by_cases h3 : s.size = 3
  rotate_left
  · have e : Hid (false = curB s) := Lib.hid (by unfold curB; rw [decide_eq_false h3]; rfl)
    have d0 : ((s.size : Int) != 3) = true := by simp; omega
    have d1 : (s.size != 3) = true := by simp; omega
    go_enter Try.func108, Try.ntmps108
    go_wp2
    go_ret
    exact ⟨ret_bool e.out, rfl⟩
  have hb := get_bt s
  have HH : Hid (curB s = curF s 3) := Lib.hid (by unfold curB; rw [decide_eq_true h3]; rfl)
  go_enter Try.func108, Try.ntmps108
  go_wp2
  go_loop [9] (fun i => ∃ k : Nat, k ≤ 3 ∧ i = .int .i64 k ∧ Hid (curF s k = true)) (fun i => 3 - (intOf i).toNat)
  case atStart => exact ⟨0, Nat.zero_le _, rfl, Lib.hid rfl⟩
  case round =>
    obtain ⟨k, hk, rfl, hd⟩ := hrel
    by_cases hlt : k < 3
    · have hks : k < s.size := by omega
      have HOK := Lib.hid (curF_bad (s := s) hlt)
      have HD1 : Hid (upB (bt s k) = true → curF s (k + 1) = true) := Lib.hid (fun h => by unfold curF; rw [hd.out, h]; rfl)
      by_cases q0 : bt s k < 65
      · have HE : Hid (false = curB s) := Lib.hid (by rw [HH.out]; exact (HOK.out (upB_not.2 (by omega))).symm)
        go_wp2
        go_ret
        exact ⟨ret_bool HE.out, rfl⟩
      by_cases q1 : 90 < bt s k
      · have HE : Hid (false = curB s) := Lib.hid (by rw [HH.out]; exact (HOK.out (upB_not.2 (by omega))).symm)
        go_wp2
        go_ret
        exact ⟨ret_bool HE.out, rfl⟩
      have HD2 := Lib.hid (HD1.out (upB_iff.2 (by omega)))
      go_wp2
      go_round
      case rel => exact ⟨k + 1, by omega, by go_num, HD2⟩
      case measure => simp [intOf]; omega
    · have hk3 : k = 3 := by omega
      subst hk3
      have HE : Hid (true = curB s) := Lib.hid (by rw [HH.out, hd.out])
      go_wp2
      go_ret
      exact ⟨ret_bool HE.out, rfl⟩
def mayM (s : ByteArray) (n : Int) : Bool := curB s && (decide (-1099511627776 ≤ n) && decide (n ≤ 1099511627776))
set_option maxHeartbeats 1600000 in
theorem money_any (s : ByteArray) (n : Int) (w : World) (hs : s.size ≤ maxLen) :
    Calls Try.prog 97 #[.agg #[.string s, .int .i64 n]] w fun e w' => e = .returned (.bool (mayM s n)) ∧ Below w.heap.size w w' := by
  have hB0 : Below w.heap.size w (w.alloc (.cells #[.string s, .int .i64 n] 28)) := (Below.refl _ _).alloc (Nat.le_refl _) _
  have HC := Lib.hid (fun w => isCur_any s w hs)
  clear hs
  cases h0 : curB s
  · have e : Hid (false = mayM s n) := Lib.hid (by unfold mayM; rw [h0]; rfl)
    rw [h0] at HC
    go_enter Try.func97, Try.ntmps97
    go_wp2_with fail
    refine (HC.out _).mono ?_
    rintro e w' ⟨rfl, rfl⟩
    go_wp2
    go_ret
    exact ⟨ret_bool e.out, hB0⟩
  rw [h0] at HC
  by_cases h1 : -1099511627776 ≤ n
  rotate_left
  · have e : Hid (false = mayM s n) := Lib.hid (by unfold mayM; rw [decide_eq_false h1, h0]; rfl)
    have d1 : decide (-1099511627776 ≤ n) = false := decide_eq_false h1
    go_enter Try.func97, Try.ntmps97
    go_wp2_with fail
    refine (HC.out _).mono ?_
    rintro e w' ⟨rfl, rfl⟩
    go_wp2
    go_ret
    exact ⟨ret_bool e.out, hB0⟩
  by_cases h2 : n ≤ 1099511627776
  rotate_left
  · have e : Hid (false = mayM s n) := Lib.hid (by unfold mayM; rw [decide_eq_false h2, h0]; simp)
    have d1 : decide (-1099511627776 ≤ n) = true := decide_eq_true h1
    have d2 : decide (n ≤ 1099511627776) = false := decide_eq_false h2
    go_enter Try.func97, Try.ntmps97
    go_wp2_with fail
    refine (HC.out _).mono ?_
    rintro e w' ⟨rfl, rfl⟩
    go_wp2
    go_ret
    exact ⟨ret_bool e.out, hB0⟩
  have e : Hid (true = mayM s n) := Lib.hid (by unfold mayM; rw [decide_eq_true h1, decide_eq_true h2, h0]; rfl)
  have d1 : decide (-1099511627776 ≤ n) = true := decide_eq_true h1
  have d2 : decide (n ≤ 1099511627776) = true := decide_eq_true h2
  go_enter Try.func97, Try.ntmps97
  go_wp2_with fail
  refine (HC.out _).mono ?_
  rintro e w' ⟨rfl, rfl⟩
  go_wp2
  go_ret
  exact ⟨ret_bool e.out, hB0⟩
end Go.Proofs.Ytlicmhgpldmliaa.kit
