/- What a deed brings, in plain words. No condition. -/
import Derived.Test.YteannbphaodadaaLawP
namespace Go.Proofs.Yteannbphaodadaa.kit
open Go.RowKit Go.PlainAid Go.Maps
set_option linter.unusedVariables false

theorem step_st {b : Bl} {s : ByteArray} {on : Int} {ho : Bool} : stepV b s on false ho ≠ 0 := by
  unfold stepV
  split
  · decide
  · split
    · decide
    · rw [if_pos rfl]; decide
theorem st2_no {b : Bl} {x : De} (h : b.st = 2) : codeD b x ≠ 0 := by
  unfold codeD
  split
  · unfold codeV
    split
    · decide
    · have hc : canV b x.call = false := by
        unfold canV
        rw [h]
        split
        · rfl
        · split <;> rfl
      rw [hc]
      exact step_st
  · decide
theorem next_same {b : Bl} {x : De} (h : codeD b x ≠ 0) : nextD b x = b := by
  unfold nextD
  split
  · rename_i hc
    rw [codeD_of hc.1 hc.2] at h
    unfold nextV
    rw [if_neg h]
  · rfl
theorem code_call {b : Bl} {x : De} (h : codeD b x = 0) : (0 ≤ x.call ∧ x.call ≤ 3) ∧ nextD b x = doneV b x.call x.by_ x.to_ x.day := by
  by_cases hc : 0 ≤ x.call ∧ x.call ≤ 3
  · refine ⟨hc, ?_⟩
    rw [codeD_of hc.1 hc.2] at h
    rw [nextD_of hc.1 hc.2]
    unfold nextV
    rw [if_pos h]
  · unfold codeD at h
    rw [if_neg hc] at h
    cases h
theorem next_paid {b : Bl} {x : De} (h : codeD b x = 0) (h2 : x.call = 2) : (nextD b x).st = 2 := by
  rw [(code_call h).2]
  unfold doneV
  rw [if_neg (by omega), if_neg (by omega), if_pos h2]
theorem next_open {b : Bl} {x : De} (h : codeD b x = 0) (h2 : x.call ≠ 2) (hb : b.st ≠ 2) : (nextD b x).st ≠ 2 := by
  rw [(code_call h).2]
  unfold doneV
  by_cases g0 : x.call = 0
  · rw [if_pos g0]; show (1 : Int) ≠ 2; decide
  by_cases g1 : x.call = 1
  · rw [if_neg g0, if_pos g1]; exact hb
  rw [if_neg g0, if_neg g1, if_neg h2]
  show (3 : Int) ≠ 2
  decide
theorem lia_nil {b : Bl} (h : b.st = 2) : liaV b = [] := by unfold liaV; rw [if_pos h]
theorem lia_ne {b : Bl} {z : ByteArray} (hz : z ∈ liaV b) : z ≠ b.hol := by
  by_cases h : b.st = 2
  · rw [lia_nil h] at hz; cases hz
  · exact ((lia_mem h z).1 hz).2
theorem lia_lt {b : Bl} {k : Nat} {x y : ByteArray} (hx : (liaV b)[k]? = some x) (hy : (liaV b)[k + 1]? = some y) : ltS x y := by
  obtain ⟨h1, e1⟩ := List.getElem?_eq_some_iff.1 hx
  obtain ⟨h2, e2⟩ := List.getElem?_eq_some_iff.1 hy
  have := List.pairwise_iff_getElem.1 (lia_up b) k (k + 1) h1 h2 (Nat.lt_succ_self _)
  rw [e1, e2] at this
  exact this
end Go.Proofs.Yteannbphaodadaa.kit
