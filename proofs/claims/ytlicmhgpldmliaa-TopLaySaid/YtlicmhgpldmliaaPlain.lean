/- The plain laws of chapter 46: what the program's running count comes to, hour by hour. No condition. -/
import Derived.Test.YtlicmhgpldmliaaBase
namespace Go.Proofs.Ytlicmhgpldmliaa
open Go.Proofs.Ytlicmhgpldmliaa.kit
set_option linter.unusedVariables false

/-- How many of so many hours go by until the free time is used up. -/
def upto (left hours ha : Int) : Int := if left ≤ 0 then 0 else if 0 < ha then min hours ((left + ha - 1) / ha) else hours
def Str.right (x : Str) : Prop := 0 ≤ x.fr ∧ x.fr < x.to ∧ x.to ≤ 1048576 ∧ 0 ≤ x.ha ∧ x.ha ≤ 2

theorem upto_mul (left hours ha : Int) (h1 : 0 ≤ hours) (h2 : 0 ≤ ha) (h3 : ha ≤ 2) : upto left hours ha * ha = (if ha = 0 then 0 else if ha = 1 then upto left hours 1 else 2 * upto left hours 2) := by
  rcases (show ha = 0 ∨ ha = 1 ∨ ha = 2 by omega) with rfl | rfl | rfl <;> simp <;> omega
theorem upto_bd (left hours ha : Int) (h1 : 0 ≤ hours) (h2 : 0 ≤ ha) (h3 : ha ≤ 2) : 0 ≤ upto left hours ha ∧ upto left hours ha ≤ hours := by
  unfold upto
  rcases (show ha = 0 ∨ ha = 1 ∨ ha = 2 by omega) with rfl | rfl | rfl <;> simp <;> split <;> omega

/-- What stretches use, the free halves that are left going along. -/
def usesF : Int → List Str → Int
  | _, [] => 0
  | left, x :: r => upto left (x.to - x.fr) x.ha * x.ha + 2 * ((x.to - x.fr) - upto left (x.to - x.fr) x.ha) + usesF (left - upto left (x.to - x.fr) x.ha * x.ha) r

/-- Hour by hour. -/
def hours (F ha : Int) : Nat → Int → Int
  | 0, n => n
  | c + 1, n => hours F ha c (if F ≤ n then n + 2 else n + ha)
def rused (F at_ : Int) : List Str → Int → Int
  | [], n => n
  | x :: r, n => rused F at_ r (hours F x.ha ((min x.to at_ - x.fr).toNat) n)

theorem hours_over (F ha : Int) : ∀ (c : Nat) (n : Int), F ≤ n → hours F ha c n = n + 2 * c
  | 0, n, _ => by simp [hours]
  | c + 1, n, h => by
    rw [hours, if_pos h, hours_over F ha c _ (by omega)]
    omega
theorem hours_zero (F : Int) : ∀ (c : Nat) (n : Int), n < F → hours F 0 c n = n
  | 0, n, _ => by simp [hours]
  | c + 1, n, h => by
    rw [hours, if_neg (by omega), hours_zero F c _ (by omega)]
    omega
theorem hours_one (F : Int) : ∀ (c : Nat) (n : Int), n < F → hours F 1 c n = if n + c ≤ F then n + c else F + 2 * (c - (F - n))
  | 0, n, h => by simp [hours]; omega
  | c + 1, n, h => by
    rw [hours, if_neg (by omega)]
    by_cases h1 : n + 1 < F
    · rw [hours_one F c _ h1]
      split <;> split <;> omega
    · rw [hours_over F 1 c _ (by omega)]
      split <;> omega
theorem hours_two (F : Int) : ∀ (c : Nat) (n : Int), hours F 2 c n = n + 2 * c
  | 0, n => by simp [hours]
  | c + 1, n => by
    rw [hours, hours_two F c]
    split <;> omega

/-- Where the count stands: the free halves that are left, and what is used. -/
def At (F left n : Int) : Prop := (0 < left ∧ n = F - left) ∨ (left ≤ 0 ∧ F ≤ n)
theorem at_start {F : Int} (h : 0 ≤ F) : At F F 0 := by unfold At; omega

theorem hours_upto {F left n : Int} (h : At F left n) (c : Nat) (ha : Int) (h2 : 0 ≤ ha) (h3 : ha ≤ 2) :
    hours F ha c n = n + upto left c ha * ha + 2 * (c - upto left c ha) ∧ At F (left - upto left c ha * ha) (n + upto left c ha * ha + 2 * (c - upto left c ha)) := by
  rcases h with ⟨h0, rfl⟩ | ⟨h0, h1⟩
  · rcases (show ha = 0 ∨ ha = 1 ∨ ha = 2 by omega) with rfl | rfl | rfl
    · rw [hours_zero F c _ (by omega)]
      unfold upto At; simp; split <;> omega
    · rw [hours_one F c _ (by omega)]
      unfold upto At; simp; split <;> split <;> omega
    · rw [hours_two F c _]
      unfold upto At; simp; split <;> omega
  · rw [hours_over F ha c n h1]
    have e : upto left c ha = 0 := by unfold upto; rw [if_pos h0]
    rw [e]
    unfold At
    omega

/-- The whole: hour by hour it is the same. -/
theorem rused_uses {F : Int} (top : Int) : ∀ (xs : List Str) (left n : Int), (∀ x ∈ xs, x.right ∧ x.to ≤ top) → At F left n → rused F top xs n = n + usesF left xs
  | [], left, n, _, _ => by simp [rused, usesF]
  | x :: r, left, n, hx, h => by
    obtain ⟨⟨a, b, c, d, e⟩, ht⟩ := hx x (by simp)
    have hc : ((min x.to top - x.fr).toNat : Int) = x.to - x.fr := by omega
    obtain ⟨h1, h2⟩ := hours_upto h (min x.to top - x.fr).toNat x.ha d e
    rw [rused, h1, rused_uses top r _ _ (fun y hy => hx y (by simp [hy])) h2, usesF, hc]
    omega

theorem usesF_bd : ∀ (xs : List Str) (left : Int), (∀ x ∈ xs, x.right) → 0 ≤ usesF left xs
  | [], _, _ => by simp [usesF]
  | x :: r, left, hx => by
    obtain ⟨a, b, c, d, e⟩ := hx x (by simp)
    have h1 := upto_bd left (x.to - x.fr) x.ha (by omega) d e
    have h2 := usesF_bd r (left - upto left (x.to - x.fr) x.ha * x.ha) (fun y hy => hx y (by simp [hy]))
    have h3 : 0 ≤ upto left (x.to - x.fr) x.ha * x.ha := Int.mul_nonneg h1.1 d
    rw [usesF]
    omega
end Go.Proofs.Ytlicmhgpldmliaa
