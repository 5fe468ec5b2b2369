/- Money in plain words: which may be, both together, which is less. No condition. -/
import Derived.Test.YtdanjegnhdpnlaaGreatDoorNum
namespace Go.Proofs.YtdanjegnhdpnlaaGreatDoor.kit
open Go.RowKit Go.PlainAid
set_option linter.unusedVariables false

structure Mon where
  cur : ByteArray
  amt : Int
structure Mon.ok (m : Mon) : Prop where
  c : m.cur.size ≤ maxLen
  a : I64 m.amt
def upB (c : Int) : Bool := decide (65 ≤ c) && decide (c ≤ 90)
def curF (s : ByteArray) : Nat → Bool
  | 0 => true
  | k + 1 => curF s k && upB (bt s k)
def curB (s : ByteArray) : Bool := decide (s.size = 3) && curF s 3
theorem upB_iff {c : Int} : upB c = true ↔ 65 ≤ c ∧ c ≤ 90 := by unfold upB; simp
theorem upB_not {c : Int} : upB c = false ↔ ¬ (65 ≤ c ∧ c ≤ 90) := by rw [← upB_iff]; simp
theorem curF_at {s : ByteArray} : ∀ {k : Nat}, curF s k = true → ∀ i, i < k → upB (bt s i) = true
  | 0, _, i, h => by omega
  | k + 1, h, i, hi => by
    simp only [curF, Bool.and_eq_true] at h
    rcases Nat.lt_or_ge i k with h1 | h1
    · exact curF_at h.1 i h1
    · have : i = k := by omega
      subst this; exact h.2
theorem curF_bad {s : ByteArray} {k n : Nat} (hk : k < n) (h : upB (bt s k) = false) : curF s n = false := by
  cases e : curF s n
  · rfl
  · rw [curF_at e k hk] at h; cases h
def mayM (m : Mon) : Bool := curB m.cur && (decide (-1099511627776 ≤ m.amt) && decide (m.amt ≤ 1099511627776))
theorem may_iff {m : Mon} : mayM m = true ↔ curB m.cur = true ∧ -1099511627776 ≤ m.amt ∧ m.amt ≤ 1099511627776 := by unfold mayM; simp
theorem cur_size {s : ByteArray} (h : curB s = true) : s.size = 3 := by unfold curB at h; simp at h; exact h.1
def noM : Mon := ⟨⟨#[]⟩, 0⟩
def bothB (a b : Mon) : Bool := mayM a && (mayM b && decide (a.cur = b.cur))
def sumV (a b : Mon) : Mon × Bool := if bothB a b = true then (if mayM ⟨a.cur, a.amt + b.amt⟩ = true then (⟨a.cur, a.amt + b.amt⟩, true) else (noM, false)) else (noM, false)
def lessV (a b : Mon) : Bool := bothB a b && decide (a.amt < b.amt)
def ratB (n d : Int) : Bool := decide (0 ≤ n) && decide (1 ≤ d)
/-- The digits behind the point. -/
def digV (s : ByteArray) : Nat :=
  if s = ⟨#[74, 80, 89]⟩ ∨ s = ⟨#[75, 82, 87]⟩ then 0 else if s = ⟨#[66, 72, 68]⟩ ∨ s = ⟨#[75, 87, 68]⟩ ∨ s = ⟨#[84, 78, 68]⟩ then 3 else 2
theorem digV_cases (s : ByteArray) : digV s = 0 ∨ digV s = 2 ∨ digV s = 3 := by
  unfold digV
  by_cases h1 : s = ⟨#[74, 80, 89]⟩ ∨ s = ⟨#[75, 82, 87]⟩
  · rw [if_pos h1]; omega
  · rw [if_neg h1]
    by_cases h2 : s = ⟨#[66, 72, 68]⟩ ∨ s = ⟨#[75, 87, 68]⟩ ∨ s = ⟨#[84, 78, 68]⟩
    · rw [if_pos h2]; omega
    · rw [if_neg h2]; omega
end Go.Proofs.YtdanjegnhdpnlaaGreatDoor.kit
