/- A long number of two halves divided by one: the two digits of the quotient, by the book (plain numbers). No condition. -/
import Derived.Test.YtdanjegnhdpnlaaGreatDoorKit
namespace Go.Proofs.YtdanjegnhdpnlaaGreatDoor.kit
set_option linter.unusedVariables false

section
variable {B u d y1 y0 q r : Nat}
theorem dg_first (hy : 0 < y1) (hd : d < B) : (u * B + d) / (y1 * B + y0) ≤ u / y1 := by
  rw [Nat.le_div_iff_mul_le hy]
  generalize hq : (u * B + d) / (y1 * B + y0) = q
  have h1 : q * (y1 * B + y0) ≤ u * B + d := by rw [← hq]; exact Nat.div_mul_le_self _ _
  rw [Nat.mul_add, ← Nat.mul_assoc] at h1
  rcases Nat.lt_or_ge u (q * y1) with h | h
  · have h2 : (u + 1) * B ≤ q * y1 * B := Nat.mul_le_mul_right B h
    rw [Nat.succ_mul] at h2
    omega
  · exact h
theorem dg_stop (hr : r + q * y1 = u) (h : q * y0 ≤ B * r + d) : q * (y1 * B + y0) ≤ u * B + d := by
  subst hr
  rw [Nat.mul_add, Nat.add_mul, ← Nat.mul_assoc, Nat.mul_comm r B]
  omega
theorem dg_eq (hy : 0 < y1 * B + y0) (h : q * (y1 * B + y0) ≤ u * B + d) (hq : (u * B + d) / (y1 * B + y0) ≤ q) : q = (u * B + d) / (y1 * B + y0) :=
  Nat.le_antisymm ((Nat.le_div_iff_mul_le hy).2 h) hq
theorem dg_go (hy : 0 < y1 * B + y0) (hr : r + q * y1 = u) (h : B * r + d < q * y0) : (u * B + d) / (y1 * B + y0) < q := by
  rw [Nat.div_lt_iff_lt_mul hy]
  subst hr
  rw [Nat.mul_add, Nat.add_mul, ← Nat.mul_assoc, Nat.mul_comm r B]
  omega
theorem dg_big (hy : 0 < y1 * B + y0) (hd : d < B) (hu : u < y1 * B + y0) : (u * B + d) / (y1 * B + y0) < B := by
  rw [Nat.div_lt_iff_lt_mul hy]
  have h : (u + 1) * B ≤ (y1 * B + y0) * B := Nat.mul_le_mul_right B hu
  rw [Nat.succ_mul] at h
  rw [Nat.mul_comm B]
  omega
theorem dg_break (hr : r + q * y1 = u) (hB : B ≤ r) (hu : u < y1 * B + y0) (h0 : y0 < B) : q * y0 ≤ B * r + d := by
  have h1 : q * y1 < B * y1 := by rw [Nat.mul_comm B]; omega
  have h2 : q < B := Nat.lt_of_mul_lt_mul_right h1
  have h3 : q * y0 ≤ B * B := Nat.mul_le_mul (by omega) (by omega)
  have h4 : B * B ≤ B * r := Nat.mul_le_mul_left B hB
  omega
end
/-- Division digit by digit. -/
theorem two_quo (N Y B d : Nat) (hY : 0 < Y) : (N * B + d) / Y = N / Y * B + (N % Y * B + d) / Y ∧ (N * B + d) % Y = (N % Y * B + d) % Y := by
  have e : N * B + d = (N % Y * B + d) + Y * (N / Y * B) := by
    have h := Nat.div_add_mod N Y
    calc N * B + d = (Y * (N / Y) + N % Y) * B + d := by rw [h]
      _ = _ := by rw [Nat.add_mul, Nat.mul_assoc]; omega
  rw [e]
  constructor
  · rw [Nat.add_mul_div_left _ _ hY]; omega
  · rw [Nat.add_mul_mod_self_left]
theorem scaled_quo (x y s : Nat) (hs : 0 < s) : x * s / (y * s) = x / y ∧ x * s % (y * s) / s = x % y := by
  constructor
  · exact Nat.mul_div_mul_right x y hs
  · rw [Nat.mul_mod_mul_right, Nat.mul_div_cancel _ hs]
/-- The long number, shifted: its high half and its low one. -/
theorem shift_two (hi lo s t : Nat) (ht : 0 < t) (h : s * t = 18446744073709551616) : (hi * 18446744073709551616 + lo) * s = (hi * s + lo / t) * 18446744073709551616 + lo % t * s := by
  have e := Nat.div_add_mod lo t
  have e2 : lo * s = lo / t * 18446744073709551616 + lo % t * s := by
    calc lo * s = (t * (lo / t) + lo % t) * s := by rw [e]
      _ = _ := by rw [Nat.add_mul, ← h]; congr 1; rw [Nat.mul_comm t, Nat.mul_assoc, Nat.mul_comm t]
  rw [Nat.add_mul, Nat.add_mul, e2, Nat.mul_right_comm]
  omega
end Go.Proofs.YtdanjegnhdpnlaaGreatDoor.kit
