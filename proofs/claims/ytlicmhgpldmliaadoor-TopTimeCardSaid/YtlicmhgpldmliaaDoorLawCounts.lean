/- NoticeCounts: from the day of presentation on five days are left; each banking day one less, each other day as many; then the bank is precluded. No condition. -/
import Derived.Test.YtlicmhgpldmliaaDoorNotB
namespace Go.Proofs.YtlicmhgpldmliaaDoor
open Go.RowKit Go.Proofs.YtlicmhgpldmliaaDoor.kit Go.Proofs.YtlicmhgpldmliaaDoor.cal
set_option linter.unusedVariables false

theorem up_cnt (c : Cal) : ∀ (k : Nat) (n : Int), k ≤ 1048577 → 1 ≤ n → (upF c k n).2 = true → cntF c (1048577 - k) ((upF c k n).1 - (1048577 - k) + 1).toNat = n
  | 0, _, _, _, h => by simp [upF] at h
  | k + 1, n, hk, hn, h => by
    have hd : (1048577 : Int) - ((k + 1 : Nat) : Int) = 1048576 - k := by omega
    rw [hd]
    rw [upF] at h ⊢
    by_cases hc : 0 < (if restB c (1048576 - k) then n else n - 1)
    · rw [if_pos hc] at h ⊢
      have hb := up_bd c k _ (by omega) (by omega) h
      have ih := up_cnt c k _ (by omega) (by omega) h
      obtain ⟨R, hR⟩ : ∃ R, (upF c k (if restB c (1048576 - k) then n else n - 1)).1 = R := ⟨_, rfl⟩
      rw [hR] at hb ih ⊢
      rw [show (R - (1048576 - (k : Int)) + 1).toNat = (R - (1048577 - (k : Int)) + 1).toNat + 1 by omega, cnt_down, show (1048576 - (k : Int) + 1) = 1048577 - k by omega, ih]
      cases restB c (1048576 - k) <;> simp <;> omega
    · rw [if_neg hc]
      rw [show ((1048576 - (k : Int)) - (1048576 - k) + 1).toNat = 0 + 1 by omega, cnt_down]
      cases hr : restB c (1048576 - k)
      · rw [hr] at hc
        simp at hc
        simp [cntF]
        omega
      · rw [hr] at hc
        simp at hc
        omega
theorem days_five {c : Cal} {p : Int} (h : (dlV c p).2 = true) : daysV c p p = 5 := by
  have hb := dl_bd h
  unfold daysV
  rw [if_pos h, show max p p = p by omega]
  unfold dlV addV at *
  cases hd : isDayB p
  · rw [hd] at h; cases h
  · rw [hd] at h hb
    simp only [if_true] at h hb ⊢
    obtain ⟨d0, d1⟩ : 0 ≤ p ∧ p ≤ 1048576 := by simpa [isDayB] using hd
    have := up_cnt c (1048576 - p).toNat 5 (by omega) (by omega) h
    rw [show (1048577 : Int) - ((1048576 - p).toNat : Nat) = p + 1 by omega] at this
    rw [show (upF c (1048576 - p).toNat 5).1 - (p + 1) + 1 = (upF c (1048576 - p).toNat 5).1 - p by omega] at this
    exact this
end Go.Proofs.YtlicmhgpldmliaaDoor
