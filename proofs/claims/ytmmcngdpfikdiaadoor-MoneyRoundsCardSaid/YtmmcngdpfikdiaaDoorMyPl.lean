/- An amount by a fraction and by what lacks to one, in plain words. No condition. -/
import Derived.Test.YtmmcngdpfikdiaaDoorMyScale
namespace Go.Proofs.YtmmcngdpfikdiaaDoor.kit
open Go.RowKit Go.PlainAid
set_option linter.unusedVariables false

section
variable {A N D q r : Nat}
theorem part_le (hN : N ≤ D) (hD : 0 < D) : A * N / D ≤ A := by
  have h : A * N ≤ A * D := Nat.mul_le_mul_left A hN
  calc A * N / D ≤ A * D / D := Nat.div_le_div_right h
    _ = A := Nat.mul_div_cancel _ hD
/-- What lacks: its quotient and rest. -/
theorem part_rest (hN : N ≤ D) (hD : 0 < D) (hq : A * N / D = q) (hr : A * N % D = r) : (r = 0 → A * (D - N) / D = A - q ∧ A * (D - N) % D = 0) ∧ (0 < r → A * (D - N) / D = A - q - 1 ∧ A * (D - N) % D = D - r ∧ q + 1 ≤ A) := by
  have hqA : q ≤ A := by rw [← hq]; exact part_le hN hD
  have h0 : D * q + r = A * N := by rw [← hq, ← hr]; exact Nat.div_add_mod _ _
  have hrD : r < D := by rw [← hr]; exact Nat.mod_lt _ hD
  have h1 : A * (D - N) = A * D - A * N := Nat.mul_sub A D N
  have h2 : A * N ≤ A * D := Nat.mul_le_mul_left A hN
  have h3 : A * D = D * (A - q) + D * q := by rw [← Nat.mul_add, Nat.sub_add_cancel hqA, Nat.mul_comm]
  constructor
  · intro hz
    have h4 : A * (D - N) = D * (A - q) := by omega
    rw [h4]
    exact ⟨Nat.mul_div_cancel_left _ hD, Nat.mul_mod_right _ _⟩
  · intro hp
    have hlt : q + 1 ≤ A := by
      rcases Nat.lt_or_ge q A with h | h
      · exact h
      · have : q = A := by omega
        subst this
        rw [Nat.sub_self, Nat.mul_zero] at h3
        omega
    have h5 : A - q = (A - q - 1) + 1 := by omega
    have h4 : A * (D - N) = D * (A - q - 1) + (D - r) := by
      have : D * (A - q) = D * (A - q - 1) + D := by
        conv => lhs; rw [h5, Nat.mul_add, Nat.mul_one]
      omega
    rw [h4]
    refine ⟨?_, ?_, hlt⟩
    · rw [Nat.mul_add_div hD, Nat.div_eq_of_lt (by omega), Nat.add_zero]
    · rw [Nat.mul_add_mod, Nat.mod_eq_of_lt (by omega)]
theorem sc_down : scQ 0 A N D = A * N / D := by unfold scQ moreB; simp
theorem sc_up : scQ 1 A N D = A * N / D + (if 0 < A * N % D then 1 else 0) := by unfold scQ moreB; simp
/-- Both rounded down, both rounded up. -/
theorem parts_two (hN : N ≤ D) (hD : 0 < D) : ∃ e : Nat, e ≤ 1 ∧ scQ 0 A N D + scQ 0 A (D - N) D + e = A ∧ scQ 1 A N D + scQ 1 A (D - N) D = A + e ∧ scQ 0 A N D ≤ A ∧ scQ 0 A (D - N) D ≤ A ∧ scQ 1 A N D ≤ A ∧ scQ 1 A (D - N) D ≤ A := by
  have h := part_rest (A := A) hN hD rfl rfl
  have hq := part_le (A := A) hN hD
  have hrD : A * N % D < D := Nat.mod_lt _ hD
  rw [sc_down, sc_down, sc_up, sc_up]
  rcases Nat.eq_zero_or_pos (A * N % D) with hz | hp
  · have h1 := h.1 hz
    rw [h1.1, h1.2, hz]
    refine ⟨0, ?_⟩
    clear h h1 hrD hz
    generalize A * N / D = q at *
    simp
    omega
  · have h1 := h.2 hp
    rw [h1.1, h1.2.1, if_pos hp, if_pos (by omega)]
    refine ⟨1, ?_⟩
    have h9 := h1.2.2
    clear h h1 hrD hp
    generalize A * N / D = q at *
    omega
end
end Go.Proofs.YtmmcngdpfikdiaaDoor.kit
