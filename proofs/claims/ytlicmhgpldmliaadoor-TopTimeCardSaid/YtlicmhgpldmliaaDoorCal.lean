/- The calendar: which days rest, in plain words. No condition. -/
import Derived.Test.YtlicmhgpldmliaaDoorMore
namespace Go.Proofs.YtlicmhgpldmliaaDoor.cal
open Go.Proofs.YtlicmhgpldmliaaDoor.kit
set_option linter.unusedVariables false

structure Cal where
  rest : List Int
  hol : List Int
/-- Numbers that rise, each above p, from 0 to a greatest one. -/
def risesF (top : Int) : Int → List Int → Bool
  | _, [] => true
  | p, x :: xs => decide (p < x ∧ 0 ≤ x ∧ x ≤ top) && risesF top x xs
def mayB (c : Cal) : Bool := decide (c.rest.length ≤ 4096) && decide (c.hol.length ≤ 4096) && risesF 6 (-1) c.rest && risesF 1048576 (-1) c.hol
def has (xs : List Int) (q : Int) : Bool := xs.contains q
theorem has_iff {xs : List Int} {q : Int} : has xs q = true ↔ q ∈ xs := List.contains_iff_mem
def isDayB (d : Int) : Bool := decide (0 ≤ d ∧ d ≤ 1048576)
def restB (c : Cal) (d : Int) : Bool := mayB c && (has c.rest (d % 7) || has c.hol d)
def intC (x : Int) : List Value := [.int .i64 x]

theorem rises_step {top : Int} {k : Nat} {xs : List Int} {p x : Int} (hx : xs[k]? = some x) : risesF top p (xs.drop k) = (decide (p < x ∧ 0 ≤ x ∧ x ≤ top) && risesF top x (xs.drop (k + 1))) := by
  obtain ⟨hk, hx⟩ := List.getElem?_eq_some_iff.1 hx
  rw [List.drop_eq_getElem_cons hk, hx, risesF]
theorem rises_end {top p : Int} {xs : List Int} {k : Nat} (h : xs.length ≤ k) : risesF top p (xs.drop k) = true := by rw [List.drop_eq_nil_of_le h]; rfl
theorem rises_in {top : Int} : ∀ {xs : List Int} {p : Int}, risesF top p xs = true → ∀ x ∈ xs, p < x ∧ 0 ≤ x ∧ x ≤ top
  | [], _, _, x, hx => by simp at hx
  | y :: ys, p, h, x, hx => by
    simp only [risesF, Bool.and_eq_true, decide_eq_true_eq] at h
    rcases List.mem_cons.1 hx with rfl | hx
    · exact h.1
    · have := rises_in h.2 x hx
      omega
theorem rises_sorted {top : Int} : ∀ {xs : List Int} {p : Int}, risesF top p xs = true → xs.Pairwise (· < ·)
  | [], _, _ => List.Pairwise.nil
  | y :: ys, p, h => by
    simp only [risesF, Bool.and_eq_true, decide_eq_true_eq] at h
    exact List.Pairwise.cons (fun x hx => (rises_in h.2 x hx).1) (rises_sorted h.2)
theorem may_iff {c : Cal} (h : mayB c = true) : c.rest.length ≤ 4096 ∧ c.hol.length ≤ 4096 ∧ risesF 6 (-1) c.rest = true ∧ risesF 1048576 (-1) c.hol = true := by
  unfold mayB at h
  simpa [and_assoc] using h
theorem has_step {xs : List Int} {k : Nat} {x q : Int} (hx : xs[k]? = some x) : has (xs.take (k + 1)) q = (has (xs.take k) q || x == q) := by
  rw [List.take_add_one, hx]
  rw [Bool.eq_iff_iff]
  simp only [Option.toList_some, has_iff, List.mem_append, List.mem_singleton, Bool.or_eq_true, beq_iff_eq]
  constructor
  · rintro (h | h)
    · exact .inl h
    · exact .inr h.symm
  · rintro (h | h)
    · exact .inl h
    · exact .inr h.symm

/-- The n-th working day from a day on, k days being left: day 1048577 - k is the first that is asked. -/
def upF (c : Cal) : Nat → Int → Int × Bool
  | 0, _ => (0, false)
  | k + 1, n => if 0 < (if restB c (1048576 - k) then n else n - 1) then upF c k (if restB c (1048576 - k) then n else n - 1) else (1048576 - k, true)
/-- The same going back: day k - 1 is the first that is asked. -/
def dnF (c : Cal) : Nat → Int → Int × Bool
  | 0, _ => (0, false)
  | k + 1, n => if 0 < (if restB c k then n else n - 1) then dnF c k (if restB c k then n else n - 1) else (k, true)
/-- How many of so many days from a on are worked on. -/
def cntF (c : Cal) (a : Int) : Nat → Int
  | 0 => 0
  | k + 1 => cntF c a k + (if restB c (a + k) then 0 else 1)
end Go.Proofs.YtlicmhgpldmliaaDoor.cal
