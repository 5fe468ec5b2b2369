/- Deadlines, last days, days left, by the program and by the reference. No condition. -/
import Derived.Test.YtlicmhgpldmliaaDoorCalI
namespace Go.Proofs.YtlicmhgpldmliaaDoor
open Go.RowKit Go.Proofs.YtlicmhgpldmliaaDoor.kit Go.Proofs.YtlicmhgpldmliaaDoor.cal
set_option linter.unusedVariables false

def dlV (c : Cal) (p : Int) : Int × Bool := addV c p 5
theorem up_bd (c : Cal) : ∀ (k : Nat) (n : Int), k ≤ 1048577 → 1 ≤ n → (upF c k n).2 = true → 1048577 - (k : Int) ≤ (upF c k n).1 ∧ (upF c k n).1 ≤ 1048576 ∧ restB c (upF c k n).1 = false
  | 0, _, _, _, h => by simp [upF] at h
  | k + 1, n, hk, hn, h => by
    rw [upF] at h ⊢
    by_cases hc : 0 < (if restB c (1048576 - k) then n else n - 1)
    · rw [if_pos hc] at h ⊢
      have := up_bd c k _ (by omega) (by omega) h
      exact ⟨by omega, this.2⟩
    · rw [if_neg hc] at h ⊢
      refine ⟨by simp only; omega, by simp only; omega, ?_⟩
      cases hr : restB c (1048576 - k)
      · rfl
      · rw [hr] at hc
        simp at hc
        omega
theorem up_no (c : Cal) : ∀ (k : Nat) (n : Int), (upF c k n).2 = false → (upF c k n).1 = 0
  | 0, _, _ => rfl
  | k + 1, n, h => by
    rw [upF] at h ⊢
    by_cases hc : 0 < (if restB c (1048576 - k) then n else n - 1)
    · rw [if_pos hc] at h ⊢
      exact up_no c k _ h
    · rw [if_neg hc] at h
      cases h
theorem dl_bd {c : Cal} {p : Int} (h : (dlV c p).2 = true) : 0 ≤ p ∧ p < (dlV c p).1 ∧ (dlV c p).1 ≤ 1048576 ∧ restB c (dlV c p).1 = false := by
  unfold dlV addV at *
  cases hd : isDayB p
  · rw [hd] at h; cases h
  · rw [hd] at h
    simp only [if_true] at h ⊢
    obtain ⟨d0, d1⟩ : 0 ≤ p ∧ p ≤ 1048576 := by simpa [isDayB] using hd
    have := up_bd c _ 5 (by omega) (by omega) h
    exact ⟨d0, by omega, this.2⟩
def daysV (c : Cal) (p t : Int) : Int := if (dlV c p).2 then cntF c (max t p + 1) ((dlV c p).1 - max t p).toNat else 0
def preclV (c : Cal) (p t : Int) (ans : Bool) : Bool := !ans && (dlV c p).2 && decide ((dlV c p).1 < t)
theorem between_days {c : Cal} {p t : Int} (h : (dlV c p).2 = true) (ht : t ≤ (dlV c p).1) : betweenV c (max t p + 1) ((dlV c p).1 + 1) = daysV c p t := by
  have hb := dl_bd h
  unfold betweenV daysV
  rw [if_pos h]
  rw [show max (max t p + 1) 0 = max t p + 1 by omega, show min ((dlV c p).1 + 1) 1048577 - (max t p + 1) = (dlV c p).1 - max t p by omega]
theorem days_none {c : Cal} {p t : Int} (h : (dlV c p).2 = false ∨ (dlV c p).1 < t) : daysV c p t = 0 := by
  unfold daysV
  rcases h with h | h
  · rw [h]; rfl
  · split
    · rw [show ((dlV c p).1 - max t p).toNat = 0 by omega]; rfl
    · rfl

theorem deadline_any (c : Cal) (A1 : Option Addr) (n1 c1 : Nat) (A2 : Option Addr) (n2 c2 : Nat) (p : Int) (w : World) (h1 : SliceOf w 1 intC A1 n1 c.rest) (h2 : SliceOf w 1 intC A2 n2 c.hol) (m1 : n1 ≤ maxLen) (m2 : n2 ≤ maxLen) :
    Calls Tryd.prog 6 #[.agg #[.slice A1 n1 c1, .slice A2 n2 c2], .int .i64 p] w fun e w' => e = .returned (.tuple #[.int .i64 (dlV c p).1, .bool (dlV c p).2]) ∧ Below w.heap.size w w' := by
  have H1 := Lib.hid h1
  have H2 := Lib.hid h2
  have l1 := h1.len
  have l2 := h2.len
  clear h1 h2
  have hB0 : Below w.heap.size w (w.alloc (.cells #[.slice A1 n1 c1, .slice A2 n2 c2] 24)) := (Below.refl _ _).alloc (Nat.le_refl _) _
  have hk0 : Blk (w.alloc (.cells #[.slice A1 n1 c1, .slice A2 n2 c2] 24)) w.heap.size 24 #[.slice A1 n1 c1, .slice A2 n2 c2] := Blk.new _ _ _
  go_enter Tryd.func6, Tryd.ntmps6
  go_wp2_with fail
  refine (add_up c A1 n1 c1 A2 n2 c2 p 5 ⟨by omega, by omega⟩ _ (H1.out.below hB0) (H2.out.below hB0) m1 m2).mono ?_
  rintro e w1 ⟨rfl, hb1⟩
  have hB1 := hB0.trans (hb1.mono hB0.size)
  have hk1 := hk0.below hb1 hk0.lt
  clear hB0 hk0 hb1
  go_wp2_with fail
  go_ret2
  exact ⟨rfl, hB1⟩
theorem expiry_any (c : Cal) (A1 : Option Addr) (n1 c1 : Nat) (A2 : Option Addr) (n2 c2 : Nat) (p : Int) (w : World) (h1 : SliceOf w 1 intC A1 n1 c.rest) (h2 : SliceOf w 1 intC A2 n2 c.hol) (m1 : n1 ≤ maxLen) (m2 : n2 ≤ maxLen) :
    Calls Tryd.prog 12 #[.agg #[.slice A1 n1 c1, .slice A2 n2 c2], .int .i64 p] w fun e w' => e = .returned (.tuple #[.int .i64 (nextV c p).1, .bool (nextV c p).2]) ∧ Below w.heap.size w w' := by
  have H1 := Lib.hid h1
  have H2 := Lib.hid h2
  have l1 := h1.len
  have l2 := h2.len
  clear h1 h2
  have hB0 : Below w.heap.size w (w.alloc (.cells #[.slice A1 n1 c1, .slice A2 n2 c2] 24)) := (Below.refl _ _).alloc (Nat.le_refl _) _
  have hk0 : Blk (w.alloc (.cells #[.slice A1 n1 c1, .slice A2 n2 c2] 24)) w.heap.size 24 #[.slice A1 n1 c1, .slice A2 n2 c2] := Blk.new _ _ _
  go_enter Tryd.func12, Tryd.ntmps12
  go_wp2_with fail
  refine (next_any c A1 n1 c1 A2 n2 c2 p _ (H1.out.below hB0) (H2.out.below hB0) m1 m2).mono ?_
  rintro e w1 ⟨rfl, hb1⟩
  have hB1 := hB0.trans (hb1.mono hB0.size)
  have hk1 := hk0.below hb1 hk0.lt
  clear hB0 hk0 hb1
  go_wp2_with fail
  go_ret2
  exact ⟨rfl, hB1⟩

theorem works_in {c : Cal} {d : Int} (h : isDayB d = true) : worksB c d = !restB c d := by unfold worksB; rw [h]; rfl
end Go.Proofs.YtlicmhgpldmliaaDoor
