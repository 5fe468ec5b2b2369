/- Marks in plain words: their signs, their sum, whether one is right. No condition. -/
import Derived.Test.YtjemmddgeejffaaDoorNames
import Derived.PlainAid
import Derived.Lib.ItoaNum
namespace Go.Proofs.YtjemmddgeejffaaDoor.kit
open Go.RowKit Go.PlainAid
set_option linter.unusedVariables false

def letB (c : Int) : Bool := decide (97 ≤ c) && decide (c ≤ 122)
def digB (c : Int) : Bool := decide (48 ≤ c) && decide (c ≤ 57)
def okAt (s : ByteArray) (i : Nat) : Bool := if i < 4 then letB (bt s i) else digB (bt s i)
def headF (s : ByteArray) : Nat → Bool
  | 0 => true
  | k + 1 => headF s k && okAt s k
def headB (s : ByteArray) : Bool := decide (10 ≤ s.size) && headF s 10
def vAt (s : ByteArray) (i : Nat) : Int := if i < 4 then bt s i - 96 else bt s i - 48
def sumN (s : ByteArray) : Nat → Int
  | 0 => 0
  | k + 1 => sumN s k + vAt s k * ((k : Int) + 1)
theorem sumN_succ (s : ByteArray) (k : Nat) : sumN s (k + 1) = sumN s k + vAt s k * ((k : Int) + 1) := rfl
def sumV (s : ByteArray) : Int := if headB s = true then sumN s 10 % 97 else -1
def numN (s : ByteArray) : Nat → Int
  | 0 => 0
  | k + 1 => numN s k * 10 + (bt s (k + 4) - 48)
theorem numN_succ (s : ByteArray) (k : Nat) : numN s (k + 1) = numN s k * 10 + (bt s (k + 4) - 48) := rfl
def rightB (s : ByteArray) : Bool := decide (s.size = 12) && (headF s 10 && (digB (bt s 10) && (digB (bt s 11) && decide (sumN s 10 % 97 = 10 * (bt s 10 - 48) + (bt s 11 - 48)))))
theorem headF_at {s : ByteArray} : ∀ {k : Nat}, headF s k = true → ∀ i, i < k → okAt s i = true
  | 0, _, i, h => by omega
  | k + 1, h, i, hi => by
    simp only [headF, Bool.and_eq_true] at h
    rcases Nat.lt_or_ge i k with h1 | h1
    · exact headF_at h.1 i h1
    · have : i = k := by omega
      subst this; exact h.2
theorem headF_of {s : ByteArray} : ∀ {k : Nat}, (∀ i, i < k → okAt s i = true) → headF s k = true
  | 0, _ => rfl
  | k + 1, h => by
    have h1 := headF_of (s := s) (k := k) (fun i hi => h i (by omega))
    have h2 := h k (by omega)
    unfold headF
    rw [h1, h2]; rfl
theorem headF_bad {s : ByteArray} {k n : Nat} (hk : k < n) (h : okAt s k = false) : headF s n = false := by
  cases e : headF s n
  · rfl
  · rw [headF_at e k hk] at h; cases h
theorem letB_iff {c : Int} : letB c = true ↔ 97 ≤ c ∧ c ≤ 122 := by unfold letB; simp
theorem digB_iff {c : Int} : digB c = true ↔ 48 ≤ c ∧ c ≤ 57 := by unfold digB; simp
theorem v_bd {s : ByteArray} {k : Nat} (h : okAt s k = true) : 0 ≤ vAt s k ∧ vAt s k ≤ 26 := by
  unfold okAt at h; unfold vAt
  by_cases hk : k < 4
  · rw [if_pos hk] at h ⊢; have := letB_iff.1 h; omega
  · rw [if_neg hk] at h ⊢; have := digB_iff.1 h; omega
theorem sum_bd {s : ByteArray} : ∀ {k : Nat}, k ≤ 10 → headF s k = true → 0 ≤ sumN s k ∧ sumN s k ≤ 260 * k
  | 0, _, _ => by simp [sumN]
  | k + 1, hk, h => by
    simp only [headF, Bool.and_eq_true] at h
    have h1 := sum_bd (by omega) h.1
    have h2 := v_bd h.2
    have h3 : vAt s k * ((k : Int) + 1) ≤ 26 * ((k : Int) + 1) := Int.mul_le_mul_of_nonneg_right h2.2 (by omega)
    have h4 : 0 ≤ vAt s k * ((k : Int) + 1) := Int.mul_nonneg h2.1 (by omega)
    unfold sumN
    omega
theorem sumV_bd (s : ByteArray) : -1 ≤ sumV s ∧ sumV s ≤ 96 := by
  unfold sumV
  by_cases h : headB s = true
  · rw [if_pos h]; omega
  · rw [if_neg h]; omega
theorem sumV_in {s : ByteArray} (h : headB s = true) : 0 ≤ sumV s := by unfold sumV; rw [if_pos h]; omega
theorem sumV_out {s : ByteArray} (h : headB s = false) : sumV s = -1 := by unfold sumV; rw [if_neg (by rw [h]; simp)]
theorem num_bd {s : ByteArray} (h : headF s 10 = true) : ∀ {k : Nat}, k ≤ 6 → 0 ≤ numN s k ∧ numN s k < (10 ^ k : Nat)
  | 0, _ => by simp [numN]
  | k + 1, hk => by
    have h1 := num_bd h (k := k) (by omega)
    have h2 := headF_at h (k + 4) (by omega)
    unfold okAt at h2
    rw [if_neg (by omega)] at h2
    have h3 := digB_iff.1 h2
    have e : ((10 ^ (k + 1) : Nat) : Int) = ((10 ^ k : Nat) : Int) * 10 := by rw [Nat.pow_succ]; push_cast; rfl
    unfold numN
    rw [e]
    omega
/-! ### digits -/
/-- So many decimal digits of a number. -/
def digsW : Nat → Nat → List UInt8
  | 0, _ => []
  | k + 1, n => digsW k (n / 10) ++ [UInt8.ofNat (48 + n % 10)]
theorem digsW_len : ∀ (k n : Nat), (digsW k n).length = k
  | 0, _ => rfl
  | k + 1, n => by simp [digsW, digsW_len k]
theorem digsW_zero : ∀ k, digsW k 0 = List.replicate k 48
  | 0 => rfl
  | k + 1 => by
    rw [digsW, Nat.zero_div, digsW_zero k, List.replicate_succ']
    rfl
/-- The decimal digits, with noughts ahead. -/
def padW (k n : Nat) : List UInt8 := List.replicate (k - (Lib.decDigits n).length) 48 ++ Lib.decDigits n
theorem dec_small {n : Nat} (h : n < 10) : Lib.decDigits n = [UInt8.ofNat (48 + n)] := Lib.decDigits_one h
theorem dec_big {n : Nat} (h : ¬ n < 10) : Lib.decDigits n = Lib.decDigits (n / 10) ++ [UInt8.ofNat (48 + n % 10)] := by
  rw [Lib.decDigits, dif_neg h]
theorem padW_eq : ∀ (k n : Nat), n < 10 ^ k → 1 ≤ k → padW k n = digsW k n
  | 0, _, _, h => by omega
  | 1, n, h, _ => by
    have h' : n < 10 := by simpa using h
    unfold padW
    rw [dec_small h']
    simp only [List.length_singleton, Nat.sub_self, List.replicate_zero, List.nil_append, digsW]
    rw [Nat.mod_eq_of_lt h']
  | k + 2, n, h, _ => by
    by_cases hn : n < 10
    · unfold padW
      rw [dec_small hn, digsW, Nat.div_eq_of_lt hn, digsW_zero, Nat.mod_eq_of_lt hn]
      simp
    · have h2 : n / 10 < 10 ^ (k + 1) := by rw [Nat.pow_succ] at h; omega
      have h3 := padW_eq (k + 1) (n / 10) h2 (by omega)
      unfold padW at h3 ⊢
      rw [dec_big hn, digsW, ← h3]
      simp [List.append_assoc]
def bstr (l : List UInt8) : ByteArray := ⟨l.toArray⟩
theorem bt_list (s : ByteArray) (k : Nat) : bt s k = ((s.data.toList.getD k 0).toNat : Int) := by
  unfold bt
  by_cases h : k < s.size
  · rw [dif_pos h, List.getD_eq_getElem?_getD, List.getElem?_eq_getElem (by rw [len_list]; exact h)]; rfl
  · rw [dif_neg h, List.getD_eq_getElem?_getD, List.getElem?_eq_none (by rw [len_list]; omega)]; rfl
theorem size_bstr (l : List UInt8) : (bstr l).size = l.length := by unfold bstr; rw [← len_list]
theorem data_bstr (l : List UInt8) : (bstr l).data.toList = l := by unfold bstr; simp
theorem bt_bstr (l : List UInt8) (k : Nat) : bt (bstr l) k = ((l.getD k 0).toNat : Int) := by rw [bt_list, data_bstr]
end Go.Proofs.YtjemmddgeejffaaDoor.kit
