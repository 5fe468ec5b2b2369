/- The text of money: the program and the document. Condition: the table of powers of ten. -/
import Derived.Test.YtmmcngdpfikdiaaDoorMyFmt
import Derived.Test.YtmmcngdpfikdiaaDoorShR
namespace Go.Proofs.YtmmcngdpfikdiaaDoor.kit
open Go.RowKit Go.PlainAid
set_option linter.unusedVariables false

def bodyL (d n : Nat) : List UInt8 := Lib.decDigits (n / 10 ^ d) ++ (if d = 0 then [] else 46 :: digsW d n)
def sgnS (a : Int) : ByteArray := if a < 0 then ⟨#[45]⟩ else ⟨#[]⟩
def textV (m : Mon) : ByteArray := if mayM m = true then m.cur ++ (⟨#[32]⟩ : ByteArray) ++ sgnS m.amt ++ bstr (bodyL (digV m.cur) m.amt.natAbs) else ⟨#[]⟩
theorem body_split (d n : Nat) (hd : d ≠ 0) : bodyL d n = (padW (d + 1) n).take ((padW (d + 1) n).length - d) ++ [46] ++ (padW (d + 1) n).drop ((padW (d + 1) n).length - d) := by
  have hl := digsW_len d n
  rw [padW_split, List.length_append, hl, Nat.add_sub_cancel, List.take_left, List.drop_left, padW_one]
  unfold bodyL
  rw [if_neg hd]
  simp
theorem body_zero (n : Nat) : bodyL 0 n = padW 1 n := by unfold bodyL; rw [if_pos rfl, padW_one]; simp
theorem dec_len (n : Nat) (h : n ≤ 1099511627776) : 1 ≤ (Lib.decDigits n).length ∧ (Lib.decDigits n).length ≤ 13 := by
  rw [Lib.decDigits_length]
  refine ⟨Lib.nDigits_pos n, ?_⟩
  rcases Nat.lt_or_ge 13 (Lib.nDigits n) with h1 | h1
  · have : n = n / 10 ^ 0 := by simp
    obtain ⟨k, hk⟩ : ∃ k, Lib.nDigits n = k + 1 := ⟨Lib.nDigits n - 1, by omega⟩
    have h2 := Lib.nDigits_unique 12 n
    rcases Nat.lt_or_ge n (10 ^ 12) with h3 | h3
    · have hz : ∀ (j : Nat) (x : Nat), x < 10 ^ (j + 1) → Lib.nDigits x ≤ j + 1 := by
        intro j
        induction j with
        | zero => intro x hx; rw [Lib.nDigits_small (by simpa using hx)]; omega
        | succ j ih =>
          intro x hx
          by_cases h10 : x < 10
          · rw [Lib.nDigits_small h10]; omega
          · rw [Lib.nDigits_big h10]
            have := ih (x / 10) (by rw [Nat.pow_succ] at hx; omega)
            omega
      have := hz 11 n h3
      omega
    · have := h2 h3 (by omega)
      omega
  · exact h1
theorem pad_len (d n : Nat) (h : n ≤ 1099511627776) (hd : d ≤ 3) : d + 1 ≤ (padW (d + 1) n).length ∧ (padW (d + 1) n).length ≤ 13 := by
  have := dec_len n h
  unfold padW
  rw [List.length_append, List.length_replicate]
  omega
theorem repeat_zero : ∀ c, Lib.repeatL [48] c = List.replicate c 48
  | 0 => rfl
  | c + 1 => by
    rw [List.replicate_succ, ← repeat_zero c]
    rfl
theorem eq_lit (s : ByteArray) (l : List UInt8) : (s.toList == l) = decide (s = ⟨l.toArray⟩) := by
  have h := eq_str s ⟨l.toArray⟩
  rw [ByteArray.toList_eq ⟨l.toArray⟩] at h
  exact h
set_option maxHeartbeats 3200000 in
theorem digits_any (s : ByteArray) (w : World) : Calls Tryd.prog 35 #[.string s] w fun e w' => e = .returned (.int .i64 (digV s : Int)) ∧ w = w' := by
  have j0 := eq_lit s [74, 80, 89]
  have j1 := eq_lit s [75, 82, 87]
  have j2 := eq_lit s [66, 72, 68]
  have j3 := eq_lit s [75, 87, 68]
  have j4 := eq_lit s [84, 78, 68]
  by_cases h1 : s = ⟨#[74, 80, 89]⟩ ∨ s = ⟨#[75, 82, 87]⟩
  · have E : Hid ((0 : Int) = (digV s : Int)) := Lib.hid (by unfold digV; rw [if_pos h1]; rfl)
    by_cases h2 : s = ⟨#[74, 80, 89]⟩
    · replace j0 := j0.trans (decide_eq_true h2)
      clear h1 h2 j1 j2 j3 j4
      go_enter Tryd.func35, Tryd.ntmps35
      go_wp2
      go_ret
      exact ⟨ret_int E.out, rfl⟩
    · have h3 := h1.resolve_left h2
      replace j0 := j0.trans (decide_eq_false h2)
      replace j1 := j1.trans (decide_eq_true h3)
      clear h1 h2 h3 j2 j3 j4
      go_enter Tryd.func35, Tryd.ntmps35
      go_wp2
      go_ret
      exact ⟨ret_int E.out, rfl⟩
  · have n0 : ¬ s = ⟨#[74, 80, 89]⟩ := fun h => h1 (.inl h)
    have n1 : ¬ s = ⟨#[75, 82, 87]⟩ := fun h => h1 (.inr h)
    replace j0 := j0.trans (decide_eq_false n0)
    replace j1 := j1.trans (decide_eq_false n1)
    have HD : Hid (digV s = if s = ⟨#[66, 72, 68]⟩ ∨ s = ⟨#[75, 87, 68]⟩ ∨ s = ⟨#[84, 78, 68]⟩ then 3 else 2) := Lib.hid (by unfold digV; rw [if_neg h1])
    clear h1 n0 n1
    obtain ⟨x2, hx2⟩ : ∃ b, decide (s = ⟨#[66, 72, 68]⟩) = b := ⟨_, rfl⟩
    obtain ⟨x3, hx3⟩ : ∃ b, decide (s = ⟨#[75, 87, 68]⟩) = b := ⟨_, rfl⟩
    obtain ⟨x4, hx4⟩ : ∃ b, decide (s = ⟨#[84, 78, 68]⟩) = b := ⟨_, rfl⟩
    have E : Hid (((if x2 = true ∨ x3 = true ∨ x4 = true then 3 else 2 : Nat) : Int) = (digV s : Int)) := Lib.hid (by rw [HD.out, ← hx2, ← hx3, ← hx4]; simp only [decide_eq_true_eq])
    replace j2 := j2.trans hx2
    replace j3 := j3.trans hx3
    replace j4 := j4.trans hx4
    clear hx2 hx3 hx4 HD
    cases x2
    all_goals cases x3
    all_goals cases x4
    all_goals
      go_enter Tryd.func35, Tryd.ntmps35
      go_wp2
      go_ret
      exact ⟨ret_int (by have := E.out; simpa using this), rfl⟩
set_option maxHeartbeats 3200000 in
theorem rdigits_any (s : ByteArray) (w : World) : Calls Tryd.prog 38 #[.string s] w fun e w' => e = .returned (.int .i64 (digV s : Int)) ∧ w = w' := by
  have j0 := eq_lit s [74, 80, 89]
  have j1 := eq_lit s [75, 82, 87]
  have j2 := eq_lit s [66, 72, 68]
  have j3 := eq_lit s [75, 87, 68]
  have j4 := eq_lit s [84, 78, 68]
  by_cases h1 : s = ⟨#[74, 80, 89]⟩ ∨ s = ⟨#[75, 82, 87]⟩
  · have E : Hid ((0 : Int) = (digV s : Int)) := Lib.hid (by unfold digV; rw [if_pos h1]; rfl)
    by_cases h2 : s = ⟨#[74, 80, 89]⟩
    · replace j0 := j0.trans (decide_eq_true h2)
      clear h1 h2 j1 j2 j3 j4
      go_enter Tryd.func38, Tryd.ntmps38
      go_wp2
      go_ret
      exact ⟨ret_int E.out, rfl⟩
    · have h3 := h1.resolve_left h2
      replace j0 := j0.trans (decide_eq_false h2)
      replace j1 := j1.trans (decide_eq_true h3)
      clear h1 h2 h3 j2 j3 j4
      go_enter Tryd.func38, Tryd.ntmps38
      go_wp2
      go_ret
      exact ⟨ret_int E.out, rfl⟩
  · have n0 : ¬ s = ⟨#[74, 80, 89]⟩ := fun h => h1 (.inl h)
    have n1 : ¬ s = ⟨#[75, 82, 87]⟩ := fun h => h1 (.inr h)
    replace j0 := j0.trans (decide_eq_false n0)
    replace j1 := j1.trans (decide_eq_false n1)
    have HD : Hid (digV s = if s = ⟨#[66, 72, 68]⟩ ∨ s = ⟨#[75, 87, 68]⟩ ∨ s = ⟨#[84, 78, 68]⟩ then 3 else 2) := Lib.hid (by unfold digV; rw [if_neg h1])
    clear h1 n0 n1
    obtain ⟨x2, hx2⟩ : ∃ b, decide (s = ⟨#[66, 72, 68]⟩) = b := ⟨_, rfl⟩
    obtain ⟨x3, hx3⟩ : ∃ b, decide (s = ⟨#[75, 87, 68]⟩) = b := ⟨_, rfl⟩
    obtain ⟨x4, hx4⟩ : ∃ b, decide (s = ⟨#[84, 78, 68]⟩) = b := ⟨_, rfl⟩
    have E : Hid (((if x2 = true ∨ x3 = true ∨ x4 = true then 3 else 2 : Nat) : Int) = (digV s : Int)) := Lib.hid (by rw [HD.out, ← hx2, ← hx3, ← hx4]; simp only [decide_eq_true_eq])
    replace j2 := j2.trans hx2
    replace j3 := j3.trans hx3
    replace j4 := j4.trans hx4
    clear hx2 hx3 hx4 HD
    cases x2
    all_goals cases x3
    all_goals cases x4
    all_goals
      go_enter Tryd.func38, Tryd.ntmps38
      go_wp2
      go_ret
      exact ⟨ret_int (by have := E.out; simpa using this), rfl⟩
end Go.Proofs.YtmmcngdpfikdiaaDoor.kit
