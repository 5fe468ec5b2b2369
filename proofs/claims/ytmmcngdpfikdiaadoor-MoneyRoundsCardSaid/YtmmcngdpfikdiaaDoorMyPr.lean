/- Rounding down, up, near, side by side, in plain words. No condition. -/
import Derived.Test.YtmmcngdpfikdiaaDoorMyPl
namespace Go.Proofs.YtmmcngdpfikdiaaDoor.kit
open Go.RowKit Go.PlainAid
set_option linter.unusedVariables false

theorem sc_near (A N D : Nat) : scQ 2 A N D = A * N / D + (if D - A * N % D ≤ A * N % D then 1 else 0) := by unfold scQ moreB; simp
theorem rounds_two {A N D : Nat} (hD : 0 < D) : (scQ 1 A N D = scQ 0 A N D ∨ scQ 1 A N D = scQ 0 A N D + 1) ∧ (scQ 2 A N D = scQ 0 A N D ∨ scQ 2 A N D = scQ 1 A N D) := by
  have hrD : A * N % D < D := Nat.mod_lt _ hD
  rw [sc_down, sc_up, sc_near]
  generalize A * N % D = r at *
  generalize A * N / D = q at *
  by_cases h0 : 0 < r
  · rw [if_pos h0]
    by_cases h1 : D - r ≤ r
    · rw [if_pos h1]; omega
    · rw [if_neg h1]; omega
  · rw [if_neg h0, if_neg (show ¬ D - r ≤ r by omega)]; omega
theorem scale_pos {cur : ByteArray} {A N D : Nat} {way : Int} (hm : mayM ⟨cur, (A : Int)⟩ = true) (hD : 1 ≤ D) (hw : 0 ≤ way ∧ way ≤ 2) :
    scaleV ⟨cur, (A : Int)⟩ N D way = if scQ way A N D ≤ 1099511627776 then (⟨cur, (scQ way A N D : Int)⟩, true) else (noM, false) := by
  have hr : ratB (N : Int) (D : Int) = true := by unfold ratB; simp; omega
  unfold scaleV
  rw [if_pos (by rw [hm, hr, decide_eq_true hw]; rfl)]
  simp only [Int.natAbs_natCast, Int.toNat_natCast]
  rw [if_neg (show ¬ (A : Int) < 0 by omega)]
theorem scQ_zero {N D : Nat} {way : Int} (hD : 1 ≤ D) : scQ way 0 N D = 0 := by
  unfold scQ moreB
  simp
  omega
theorem scale_neg {cur : ByteArray} {A N D : Nat} {way : Int} (hm : mayM ⟨cur, -(A : Int)⟩ = true) (hD : 1 ≤ D) (hw : 0 ≤ way ∧ way ≤ 2) (h : scQ way A N D ≤ 1099511627776) :
    scaleV ⟨cur, -(A : Int)⟩ N D way = (⟨cur, -(scQ way A N D : Int)⟩, true) := by
  have hr : ratB (N : Int) (D : Int) = true := by unfold ratB; simp; omega
  unfold scaleV
  rw [if_pos (by rw [hm, hr, decide_eq_true hw]; rfl)]
  simp only [Int.natAbs_neg, Int.natAbs_natCast, Int.toNat_natCast]
  rw [if_pos h]
  by_cases h0 : A = 0
  · subst h0
    rw [scQ_zero hD]
    simp
  · rw [if_pos (by omega)]
end Go.Proofs.YtmmcngdpfikdiaaDoor.kit
