/- Years and months, in plain words. No condition. -/
import Derived.Test.YtmgijoomfailoaaDoorCal
import Derived.Test.YtmgijoomfailoaaDoorNum
namespace Go.Proofs.YtmgijoomfailoaaDoor.cal
open Go.RowKit Go.Proofs.YtmgijoomfailoaaDoor.kit Go.PlainAid
set_option linter.unusedVariables false

def leapB (y : Nat) : Bool := (decide (y % 4 = 0) && !decide (y % 100 = 0)) || decide (y % 400 = 0)
def yearL (y : Nat) : Nat := if leapB y = true then 366 else 365
def lenM (y m : Nat) : Nat := if m = 2 then (if leapB y = true then 29 else 28) else if m = 4 ∨ m = 6 ∨ m = 9 ∨ m = 11 then 30 else 31
/-- The days of so many years from 2000 on. -/
def fy : Nat → Nat
  | 0 => 0
  | k + 1 => fy k + yearL (2000 + k)
/-- The days ahead of a year. -/
def FY (y : Nat) : Nat := fy (y - 2000)
/-- The days of so many months of a year. -/
def cm (y : Nat) : Nat → Nat
  | 0 => 0
  | k + 1 => cm y k + lenM y (k + 1)
theorem leap_400 (y : Nat) : leapB (y + 400) = leapB y := by
  unfold leapB
  rw [show (y + 400) % 4 = y % 4 by omega, show (y + 400) % 100 = y % 100 by omega, show (y + 400) % 400 = y % 400 by omega]
theorem yearL_bd (y : Nat) : 365 ≤ yearL y ∧ yearL y ≤ 366 := by unfold yearL; split <;> omega
theorem lenM_bd (y m : Nat) : 28 ≤ lenM y m ∧ lenM y m ≤ 31 := by unfold lenM; split <;> split <;> omega
theorem fy_400 : fy 400 = 146097 := by decide +kernel
theorem fy_cycle : ∀ k, fy (k + 400) = fy k + 146097
  | 0 => by rw [Nat.zero_add, fy_400]; rfl
  | k + 1 => by
    have e1 : fy (k + 1 + 400) = fy (k + 400) + yearL (2000 + (k + 400)) := by rw [show k + 1 + 400 = (k + 400) + 1 by omega]; rfl
    have e2 : fy (k + 1) = fy k + yearL (2000 + k) := rfl
    rw [e1, e2, fy_cycle k]
    have : yearL (2000 + (k + 400)) = yearL (2000 + k) := by
      unfold yearL
      rw [show 2000 + (k + 400) = (2000 + k) + 400 by omega, leap_400]
    omega
theorem fy_mul : ∀ q, fy (400 * q) = 146097 * q
  | 0 => rfl
  | q + 1 => by rw [show 400 * (q + 1) = 400 * q + 400 by omega, fy_cycle, fy_mul q]; omega
theorem fy_add (k : Nat) : ∀ j, fy k + 365 * j ≤ fy (k + j)
  | 0 => by simp
  | j + 1 => by
    have h := fy_add k j
    have h1 := yearL_bd (2000 + (k + j))
    rw [show k + (j + 1) = (k + j) + 1 by omega, fy]
    omega
theorem fy_le {j k : Nat} (h : j ≤ k) : fy j ≤ fy k := by
  have := fy_add j (k - j)
  rw [show j + (k - j) = k by omega] at this
  omega
theorem fy_up : ∀ k, fy k ≤ 366 * k
  | 0 => by simp [fy]
  | k + 1 => by have := fy_up k; have := yearL_bd (2000 + k); rw [fy]; omega
theorem FY_succ {y : Nat} (h : 2000 ≤ y) : FY (y + 1) = FY y + yearL y := by
  unfold FY
  rw [show y + 1 - 2000 = (y - 2000) + 1 by omega, fy, show 2000 + (y - 2000) = y by omega]
theorem FY_le {y z : Nat} (h : y ≤ z) : FY y ≤ FY z := fy_le (by omega)
theorem FY_start (d : Nat) : FY (2000 + d / 146097 * 400) + d % 146097 = d := by
  unfold FY
  rw [show 2000 + d / 146097 * 400 - 2000 = 400 * (d / 146097) by omega, fy_mul]
  exact Nat.div_add_mod d 146097
theorem FY_zero : FY 2000 = 0 := rfl
theorem FY_up (y : Nat) : FY y ≤ 366 * (y - 2000) := fy_up _
theorem FY_5000 : 1048576 < FY 5000 := by unfold FY; decide +kernel
theorem FY_4999 : 1048576 < FY 4999 := by unfold FY; decide +kernel
theorem cm_year (y : Nat) : cm y 12 = yearL y := by
  simp only [cm, lenM, yearL]
  by_cases h : leapB y = true
  · simp [h]
  · simp [h]
theorem cm_add (y k : Nat) : ∀ j, cm y k ≤ cm y (k + j)
  | 0 => Nat.le_refl _
  | j + 1 => by rw [show k + (j + 1) = (k + j) + 1 by omega, cm]; have := cm_add y k j; omega
theorem cm_le {y j k : Nat} (h : j ≤ k) : cm y j ≤ cm y k := by
  have := cm_add y j (k - j)
  rwa [show j + (k - j) = k by omega] at this
theorem cm_next {y m : Nat} (h : 1 ≤ m) : cm y m = cm y (m - 1) + lenM y m := by
  obtain ⟨k, rfl⟩ : ∃ k, m = k + 1 := ⟨m - 1, by omega⟩
  rfl
/-- A day's year, month, day of the month. -/
structure IsMon (d y m o : Nat) : Prop where
  y1 : 2000 ≤ y
  m1 : 1 ≤ m
  m2 : m ≤ 12
  o1 : 1 ≤ o
  o2 : o ≤ lenM y m
  sum : FY y + cm y (m - 1) + (o - 1) = d
theorem step_at (f : Nat → Nat) (r : Nat) (h0 : f 0 ≤ r) : ∀ n, r < f n → ∃ m, m < n ∧ f m ≤ r ∧ r < f (m + 1)
  | 0, h => by omega
  | n + 1, h => by
    by_cases hn : r < f n
    · obtain ⟨m, h1, h2, h3⟩ := step_at f r h0 n hn
      exact ⟨m, by omega, h2, h3⟩
    · exact ⟨n, by omega, by omega, h⟩
theorem mon_ex (d : Nat) : ∃ y m o, IsMon d y m o := by
  obtain ⟨k, _, h1, h2⟩ := step_at fy d (Nat.zero_le _) (d + 1) (by have := fy_add 0 (d + 1); rw [Nat.zero_add] at this; simp only [fy] at this ⊢; omega)
  rw [fy] at h2
  obtain ⟨i, hi, h3, h4⟩ := step_at (cm (2000 + k)) (d - fy k) (Nat.zero_le _) 12 (by rw [cm_year]; omega)
  refine ⟨2000 + k, i + 1, d - fy k - cm (2000 + k) i + 1, by omega, by omega, by omega, by omega, ?_, ?_⟩
  · rw [cm] at h4; omega
  · unfold FY
    rw [show 2000 + k - 2000 = k by omega, Nat.add_sub_cancel]
    omega
section
variable {d y m o : Nat}
theorem IsMon.lo (h : IsMon d y m o) : FY y ≤ d := by have := h.sum; omega
theorem IsMon.rest (h : IsMon d y m o) : FY y + cm y (m - 1) ≤ d ∧ d < FY y + cm y m := by
  have h1 := h.sum; have h2 := h.o1; have h3 := h.o2; have h4 := cm_next (y := y) h.m1
  omega
theorem IsMon.hi (h : IsMon d y m o) : d < FY (y + 1) := by
  have h1 := h.rest
  have h2 := cm_le (y := y) (show m ≤ 12 from h.m2)
  rw [cm_year] at h2
  rw [FY_succ h.y1]; omega
theorem IsMon.year (h : IsMon d y m o) (hd : d ≤ 1048576) : y ≤ 4998 := by
  rcases Nat.lt_or_ge 4998 y with h1 | h1
  · have := FY_le (show 4999 ≤ y by omega)
    have := FY_4999
    have := h.lo
    omega
  · exact h1
/-- The year isn't reached yet: all of it is gone. -/
theorem IsMon.early (h : IsMon d y m o) {z r : Nat} (hz : 2000 ≤ z) (hs : FY z + r = d) (hzy : z < y) : yearL z ≤ r := by
  have h1 := FY_le (show z + 1 ≤ y by omega)
  rw [FY_succ hz] at h1
  have := h.lo; omega
theorem IsMon.at_year (h : IsMon d y m o) {r : Nat} (hs : FY y + r = d) : r < yearL y := by
  have := h.hi
  rw [FY_succ h.y1] at this; omega
theorem IsMon.earlyM (h : IsMon d y m o) {i r : Nat} (hi : 1 ≤ i) (hs : FY y + cm y (i - 1) + r = d) (him : i < m) : lenM y i ≤ r := by
  have h1 := cm_le (y := y) (show i ≤ m - 1 by omega)
  have h2 := cm_next (y := y) hi
  have := h.rest; omega
theorem IsMon.at_mon (h : IsMon d y m o) {r : Nat} (hs : FY y + cm y (m - 1) + r = d) : r < lenM y m ∧ r + 1 = o := by
  have h1 := h.sum; have h2 := h.o1; have h3 := h.o2; omega
theorem IsMon.uniq (h : IsMon d y m o) {y' m' o' : Nat} (h' : IsMon d y' m' o') : y = y' ∧ m = m' ∧ o = o' := by
  have hy : y = y' := by
    rcases Nat.lt_trichotomy y y' with h1 | h1 | h1
    · have := FY_le (show y + 1 ≤ y' by omega); have := h.hi; have := h'.lo; omega
    · exact h1
    · have := FY_le (show y' + 1 ≤ y by omega); have := h'.hi; have := h.lo; omega
  subst hy
  have hm : m = m' := by
    rcases Nat.lt_trichotomy m m' with h1 | h1 | h1
    · have := cm_le (y := y) (show m ≤ m' - 1 by omega); have := h.rest; have := h'.rest; omega
    · exact h1
    · have := cm_le (y := y) (show m' ≤ m - 1 by omega); have := h.rest; have := h'.rest; omega
  subst hm
  have h1 := h.sum; have h2 := h'.sum; have h3 := h.o1; have h4 := h'.o1
  exact ⟨rfl, rfl, by omega⟩
end
/-- The number of a day. -/
def dayV (y m o : Nat) : Nat := FY y + cm y (m - 1) + o - 1
/-- Where so many months on lie. -/
def tenAt (y m : Nat) (n : Int) : Int := ((y : Int) - 2000) * 12 + (m : Int) - 1 + n
def tenD (o a : Nat) : Nat := dayV (2000 + a / 12) (a % 12 + 1) (min o (lenM (2000 + a / 12) (a % 12 + 1)))
def tenV (y m o : Nat) (n : Int) : Int × Bool :=
  if tenAt y m n < 0 then (0, false) else if tenD o (tenAt y m n).toNat ≤ 1048576 then ((tenD o (tenAt y m n).toNat : Int), true) else (0, false)
theorem cm_up (y : Nat) : ∀ k, cm y k ≤ 31 * k
  | 0 => by simp [cm]
  | k + 1 => by have := cm_up y k; have := lenM_bd y (k + 1); rw [cm]; omega
theorem dayV_mon (y m o : Nat) (hy : 2000 ≤ y) (h1 : 1 ≤ m) (h2 : m ≤ 12) (h3 : 1 ≤ o) (h4 : o ≤ lenM y m) : IsMon (dayV y m o) y m o := ⟨hy, h1, h2, h3, h4, by unfold dayV; omega⟩
/-- The days ahead of a month. -/
def FM (a : Nat) : Nat := FY (2000 + a / 12) + cm (2000 + a / 12) (a % 12)
theorem FM_succ (a : Nat) : FM (a + 1) = FM a + lenM (2000 + a / 12) (a % 12 + 1) := by
  unfold FM
  by_cases h : a % 12 = 11
  · rw [show (a + 1) / 12 = a / 12 + 1 by omega, show (a + 1) % 12 = 0 by omega, h, ← Nat.add_assoc, FY_succ (by omega), ← cm_year]
    simp only [cm]
    omega
  · rw [show (a + 1) / 12 = a / 12 by omega, show (a + 1) % 12 = a % 12 + 1 by omega]
    simp only [cm]
    omega
theorem tenD_eq (o a : Nat) : tenD o a = FM a + min o (lenM (2000 + a / 12) (a % 12 + 1)) - 1 := by
  unfold tenD dayV FM
  rw [Nat.add_sub_cancel]
/-- A month on is never ahead of a month less. -/
theorem tenD_step {o : Nat} (ho : 1 ≤ o) (a : Nat) : tenD o a < tenD o (a + 1) ∧ tenD o (a + 1) ≤ tenD o a + 34 := by
  rw [tenD_eq, tenD_eq, FM_succ]
  have h1 := lenM_bd (2000 + a / 12) (a % 12 + 1)
  have h2 := lenM_bd (2000 + (a + 1) / 12) ((a + 1) % 12 + 1)
  omega
theorem tenD_late {o a : Nat} (ho : 1 ≤ o) (h : 36000 ≤ a) : 1048576 < tenD o a := by
  rw [tenD_eq]
  unfold FM
  have h1 := FY_le (show 5000 ≤ 2000 + a / 12 by omega)
  have h2 := FY_5000
  have h3 := lenM_bd (2000 + a / 12) (a % 12 + 1)
  omega
end Go.Proofs.YtmgijoomfailoaaDoor.cal
