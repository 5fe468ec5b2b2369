/- Hands, and the way of a box, in plain words. No condition. -/
import Derived.Test.YtembipmficppnaaPol
namespace Go.Proofs.Ytembipmficppnaa.kit
open Go.RowKit
set_option linter.unusedVariables false

structure Hd where
  box : ByteArray
  fr : ByteArray
  dst : ByteArray
  place : ByteArray
  day : Int
def hdC (x : Hd) : List Value := [.string x.box, .string x.fr, .string x.dst, .string x.place, .int .i64 x.day]
theorem hdC_len (x : Hd) : (hdC x).length = 5 := rfl
/-- Is a hand at a place? -/
def atP (q : ByteArray) (x : Hd) : Bool := x.place.toList == q.toList
/-- Is a box on its way behind its first place, as of a day? -/
def wayB (q : ByteArray) (day : Int) : List Hd → Bool
  | [] => true
  | x :: xs => if atP q x = true then decide (day ≤ x.day) else wayB q day xs
def wayA (f q : ByteArray) (day : Int) : List Hd → Bool
  | [] => false
  | x :: xs => if atP f x = true then !decide (day < x.day) && wayB q day xs else wayA f q day xs
theorem first_or (f : ByteArray) : ∀ xs : List Hd, (∀ x ∈ xs, atP f x = false) ∨ ∃ k x, xs[k]? = some x ∧ atP f x = true ∧ ∀ y ∈ xs.take k, atP f y = false
  | [] => .inl (by simp)
  | x :: xs => by
    by_cases h : atP f x = true
    · exact .inr ⟨0, x, rfl, h, by simp⟩
    · have h0 : atP f x = false := by simpa using h
      rcases first_or f xs with h' | ⟨k, y, hk, hy, hall⟩
      · exact .inl (fun z hz => by rcases List.mem_cons.1 hz with rfl | hz; exact h0; exact h' z hz)
      · exact .inr ⟨k + 1, y, by simpa using hk, hy, fun z hz => by rw [List.take_succ_cons] at hz; rcases List.mem_cons.1 hz with rfl | hz; exact h0; exact hall z hz⟩
theorem wayA_none {f q : ByteArray} {day : Int} : ∀ {xs : List Hd}, (∀ x ∈ xs, atP f x = false) → wayA f q day xs = false
  | [], _ => rfl
  | x :: xs, h => by
    rw [wayA, if_neg (by rw [h x (by simp)]; simp)]
    exact wayA_none (fun y hy => h y (by simp [hy]))
theorem wayB_none {q : ByteArray} {day : Int} : ∀ {xs : List Hd}, (∀ x ∈ xs, atP q x = false) → wayB q day xs = true
  | [], _ => rfl
  | x :: xs, h => by
    rw [wayB, if_neg (by rw [h x (by simp)]; simp)]
    exact wayB_none (fun y hy => h y (by simp [hy]))
theorem wayA_some {f q : ByteArray} {day : Int} : ∀ {k : Nat} {xs : List Hd} {x : Hd}, xs[k]? = some x → atP f x = true → (∀ y ∈ xs.take k, atP f y = false) → wayA f q day xs = (!decide (day < x.day) && wayB q day (xs.drop (k + 1)))
  | _, [], x, h, _, _ => by simp at h
  | 0, y :: ys, x, h, hx, _ => by
    simp at h; subst h
    rw [wayA, if_pos hx]
    simp
  | k + 1, y :: ys, x, h, hx, hall => by
    rw [wayA, if_neg (by rw [hall y (by simp)]; simp)]
    rw [wayA_some (k := k) (by simpa using h) hx (fun z hz => hall z (by simp [hz]))]
    simp
theorem wayB_some {q : ByteArray} {day : Int} : ∀ {k : Nat} {xs : List Hd} {x : Hd}, xs[k]? = some x → atP q x = true → (∀ y ∈ xs.take k, atP q y = false) → wayB q day xs = decide (day ≤ x.day)
  | _, [], x, h, _, _ => by simp at h
  | 0, y :: ys, x, h, hx, _ => by
    simp at h; subst h
    rw [wayB, if_pos hx]
  | k + 1, y :: ys, x, h, hx, hall => by
    rw [wayB, if_neg (by rw [hall y (by simp)]; simp)]
    exact wayB_some (k := k) (by simpa using h) hx (fun z hz => hall z (by simp [hz]))
/-- What is covered. -/
def covB (p : Pol) (h : List Hd) (cause day : Int) : Bool :=
  mayP p && (p.causes.contains cause && (decide (p.first ≤ day) && (decide (day ≤ p.last) && wayA p.fr p.dst day h)))
/-- From one day on which a box is on its way till another one it is. -/
theorem wayB_mono {q : ByteArray} {a b : Int} (h : b ≤ a) : ∀ {xs : List Hd}, wayB q a xs = true → wayB q b xs = true
  | [], _ => rfl
  | x :: xs, hx => by
    rw [wayB] at hx ⊢
    by_cases hq : atP q x = true
    · rw [if_pos hq] at hx ⊢
      simp only [decide_eq_true_eq] at hx ⊢
      omega
    · rw [if_neg hq] at hx ⊢
      exact wayB_mono h hx
theorem wayA_between {f q : ByteArray} {a b c : Int} (h1 : a ≤ b) (h2 : b ≤ c) : ∀ {xs : List Hd}, wayA f q a xs = true → wayA f q c xs = true → wayA f q b xs = true
  | [], ha, _ => ha
  | x :: xs, ha, hc => by
    rw [wayA] at ha hc ⊢
    by_cases hq : atP f x = true
    · rw [if_pos hq] at ha hc ⊢
      simp only [Bool.and_eq_true, Bool.not_eq_true', decide_eq_false_iff_not] at ha hc ⊢
      exact ⟨by omega, wayB_mono h2 hc.2⟩
    · rw [if_neg hq] at ha hc ⊢
      exact wayA_between h1 h2 ha hc
theorem cov_between {p : Pol} {h : List Hd} {cause a b c : Int} (h1 : a ≤ b) (h2 : b ≤ c) (ha : covB p h cause a = true) (hc : covB p h cause c = true) : covB p h cause b = true := by
  simp only [covB, Bool.and_eq_true, decide_eq_true_eq] at ha hc ⊢
  exact ⟨ha.1, ha.2.1, by omega, by omega, wayA_between h1 h2 ha.2.2.2.2 hc.2.2.2.2⟩
theorem cov_first (p : Pol) (h : List Hd) (cause d : Int) (hd : d < p.first) : covB p h cause d = false := by
  simp only [covB, decide_eq_false (show ¬ p.first ≤ d by omega), Bool.false_and, Bool.and_false]
theorem cov_last (p : Pol) (h : List Hd) (cause d : Int) (hd : p.last < d) : covB p h cause d = false := by
  simp only [covB, decide_eq_false (show ¬ d ≤ p.last by omega), Bool.false_and, Bool.and_false]
theorem cov_may (p : Pol) (h : List Hd) (cause d : Int) (hm : mayP p = false) : covB p h cause d = false := by
  simp only [covB, hm, Bool.false_and]
end Go.Proofs.Ytembipmficppnaa.kit
