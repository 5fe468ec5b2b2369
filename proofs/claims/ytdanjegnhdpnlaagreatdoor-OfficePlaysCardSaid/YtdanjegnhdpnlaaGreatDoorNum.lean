/- Texts byte by byte; numbers in decimal digits. No condition. -/
import Derived.Test.YtdanjegnhdpnlaaGreatDoorNames
import Derived.PlainAid
import Derived.Lib.ItoaNum
import Derived.Lib.IndexBytes
namespace Go.Proofs.YtdanjegnhdpnlaaGreatDoor.kit
open Go.RowKit Go.PlainAid
set_option linter.unusedVariables false

/-! ### digits -/
/-- So many decimal digits of a number. -/
def digsW : Nat → Nat → List UInt8
  | 0, _ => []
  | k + 1, n => digsW k (n / 10) ++ [UInt8.ofNat (48 + n % 10)]
theorem digsW_len : ∀ (k n : Nat), (digsW k n).length = k
  | 0, _ => rfl
  | k + 1, n => by simp [digsW, digsW_len k]
theorem digsW_zero : ∀ k, digsW k 0 = List.replicate k 48
  | 0 => rfl
  | k + 1 => by
    rw [digsW, Nat.zero_div, digsW_zero k, List.replicate_succ']
    rfl
/-- The decimal digits, with noughts ahead. -/
def padW (k n : Nat) : List UInt8 := List.replicate (k - (Lib.decDigits n).length) 48 ++ Lib.decDigits n
theorem dec_small {n : Nat} (h : n < 10) : Lib.decDigits n = [UInt8.ofNat (48 + n)] := Lib.decDigits_one h
theorem dec_big {n : Nat} (h : ¬ n < 10) : Lib.decDigits n = Lib.decDigits (n / 10) ++ [UInt8.ofNat (48 + n % 10)] := by
  rw [Lib.decDigits, dif_neg h]
theorem padW_eq : ∀ (k n : Nat), n < 10 ^ k → 1 ≤ k → padW k n = digsW k n
  | 0, _, _, h => by omega
  | 1, n, h, _ => by
    have h' : n < 10 := by simpa using h
    unfold padW
    rw [dec_small h']
    simp only [List.length_singleton, Nat.sub_self, List.replicate_zero, List.nil_append, digsW]
    rw [Nat.mod_eq_of_lt h']
  | k + 2, n, h, _ => by
    by_cases hn : n < 10
    · unfold padW
      rw [dec_small hn, digsW, Nat.div_eq_of_lt hn, digsW_zero, Nat.mod_eq_of_lt hn]
      simp
    · have h2 : n / 10 < 10 ^ (k + 1) := by rw [Nat.pow_succ] at h; omega
      have h3 := padW_eq (k + 1) (n / 10) h2 (by omega)
      unfold padW at h3 ⊢
      rw [dec_big hn, digsW, ← h3]
      simp [List.append_assoc]
def bstr (l : List UInt8) : ByteArray := ⟨l.toArray⟩
theorem bt_list (s : ByteArray) (k : Nat) : bt s k = ((s.data.toList.getD k 0).toNat : Int) := by
  unfold bt
  by_cases h : k < s.size
  · rw [dif_pos h, List.getD_eq_getElem?_getD, List.getElem?_eq_getElem (by rw [len_list]; exact h)]; rfl
  · rw [dif_neg h, List.getD_eq_getElem?_getD, List.getElem?_eq_none (by rw [len_list]; omega)]; rfl
theorem size_bstr (l : List UInt8) : (bstr l).size = l.length := by unfold bstr; rw [← len_list]
theorem data_bstr (l : List UInt8) : (bstr l).data.toList = l := by unfold bstr; simp
theorem bt_bstr (l : List UInt8) (k : Nat) : bt (bstr l) k = ((l.getD k 0).toNat : Int) := by rw [bt_list, data_bstr]
theorem size_app (a b : ByteArray) : (a ++ b).size = a.size + b.size := ByteArray.size_append
theorem padW_len (k n : Nat) (h : n < 10 ^ k) (hk : 1 ≤ k) : (padW k n).length = k := by rw [padW_eq k n h hk, digsW_len]
/-! ### bytes of sums and parts -/
theorem bt_app (a b : ByteArray) (i : Nat) : bt (a ++ b) i = if i < a.size then bt a i else bt b (i - a.size) := by
  rw [bt_list, bt_list, bt_list]
  have e : (a ++ b).data.toList = a.data.toList ++ b.data.toList := by rw [ByteArray.data_append]; simp
  rw [e, List.getD_eq_getElem?_getD, List.getElem?_append, len_list]
  by_cases h : i < a.size
  · rw [if_pos h, if_pos h, List.getD_eq_getElem?_getD]
  · rw [if_neg h, if_neg h, List.getD_eq_getElem?_getD]
theorem bt_ext (s : ByteArray) (a b i : Nat) (hb : b ≤ s.size) (h : a + i < b) : bt (s.extract a b) i = bt s (a + i) := by
  rw [bt_list, bt_list, Lib.extract_data, List.getD_eq_getElem?_getD, List.getD_eq_getElem?_getD, List.getElem?_take, if_pos (by omega), List.getElem?_drop]
theorem bt_inj {a b : ByteArray} (hs : a.size = b.size) (h : ∀ i, i < a.size → bt a i = bt b i) : a = b := by
  apply ByteArray.ext
  apply Array.toList_inj.1
  have ha := len_list a
  have hb := len_list b
  apply List.ext_getElem (by omega)
  intro i h1 h2
  have h3 := h i (by omega)
  rw [bt_list, bt_list, List.getD_eq_getElem?_getD, List.getD_eq_getElem?_getD, List.getElem?_eq_getElem h1, List.getElem?_eq_getElem h2] at h3
  apply UInt8.toNat_inj.1
  simp only [Option.getD_some] at h3
  omega
theorem bt_digs : ∀ (k n i : Nat), i < k → bt (bstr (digsW k n)) i = 48 + ((n / 10 ^ (k - 1 - i) % 10 : Nat) : Int)
  | 0, _, i, h => by omega
  | k + 1, n, i, h => by
    rw [bt_bstr, digsW]
    rcases Nat.lt_or_ge i k with h1 | h1
    · have h2 := bt_digs k (n / 10) i h1
      rw [bt_bstr] at h2
      rw [List.getD_eq_getElem?_getD, List.getElem?_append_left (by rw [digsW_len]; exact h1), ← List.getD_eq_getElem?_getD, h2, Nat.div_div_eq_div_mul, ← Nat.pow_succ', show (k - 1 - i).succ = k + 1 - 1 - i by omega]
    · have : i = k := by omega
      subst this
      rw [List.getD_eq_getElem?_getD, List.getElem?_append_right (by rw [digsW_len]; omega), digsW_len]
      simp
      omega
theorem digsW_front : ∀ (k m : Nat), digsW (k + 1) m = UInt8.ofNat (48 + m / 10 ^ k % 10) :: digsW k m
  | 0, m => by simp [digsW]
  | k + 1, m => by
    rw [digsW, digsW_front k (m / 10), digsW, List.cons_append, Nat.div_div_eq_div_mul, ← Nat.pow_succ']
theorem of48 (k : Nat) : UInt8.ofNat (48 + k) = 48 + UInt8.ofNat k := by simp
theorem one_cons (c : UInt8) (l : List UInt8) : (⟨#[c]⟩ : ByteArray) ++ bstr l = bstr (c :: l) := by
  apply ByteArray.ext
  apply Array.toList_inj.1
  unfold bstr
  simp [ByteArray.data_append]
theorem u8_is (c : UInt8) (m : Nat) (h : m < 256) : c = UInt8.ofNat m ↔ (c.toNat : Int) = (m : Int) := by
  constructor
  · rintro rfl; simp; omega
  · intro h1
    apply UInt8.toNat_inj.1
    simp; omega
theorem ret_string {a b : ByteArray} (h : a = b) : Ending.returned (.string a) = .returned (.string b) := by rw [h]
theorem zero_cons (l : List UInt8) : (⟨#[48]⟩ : ByteArray) ++ bstr l = bstr (48 :: l) := by
  apply ByteArray.ext
  apply Array.toList_inj.1
  unfold bstr
  simp [ByteArray.data_append]
theorem itoa_nat (n : Nat) : Lib.itoa (n : Int) = Lib.decDigits n := by
  unfold Lib.itoa
  rw [if_neg (by omega)]; simp
theorem eq_str (a b : ByteArray) : (a.toList == b.toList) = decide (a = b) := by
  rw [ByteArray.toList_eq, ByteArray.toList_eq, Bool.eq_iff_iff]
  simp only [beq_iff_eq, decide_eq_true_eq]
  constructor
  · intro h; exact ByteArray.ext (Array.toList_inj.1 h)
  · rintro rfl; rfl
theorem empty_size (r : ByteArray) : r.toList.isEmpty = decide (r.size = 0) := by
  rw [ByteArray.toList_eq, ← len_list]
  cases r.data.toList <;> simp
theorem app_list (a b : ByteArray) : (a ++ b).data.toList = a.data.toList ++ b.data.toList := by rw [ByteArray.data_append]; simp
theorem list_inj {a b : ByteArray} (h : a.data.toList = b.data.toList) : a = b := ByteArray.ext (Array.toList_inj.1 h)
theorem bstr_app (a b : List UInt8) : bstr a ++ bstr b = bstr (a ++ b) := list_inj (by rw [app_list, data_bstr, data_bstr, data_bstr])
theorem bstr_list (s : ByteArray) : bstr s.data.toList = s := list_inj (data_bstr _)
/-- Padded digits: the last one split off. -/
theorem padW_snoc (k n : Nat) (hk : 1 ≤ k) : padW (k + 1) n = padW k (n / 10) ++ [UInt8.ofNat (48 + n % 10)] := by
  by_cases hn : n < 10
  · unfold padW
    rw [dec_small hn, Nat.div_eq_of_lt hn, Nat.mod_eq_of_lt hn, dec_small (by omega)]
    simp only [List.length_singleton, Nat.add_sub_cancel]
    obtain ⟨j, rfl⟩ : ∃ j, k = j + 1 := ⟨k - 1, by omega⟩
    rw [Nat.add_sub_cancel, List.replicate_succ']
    rfl
  · unfold padW
    rw [dec_big hn]
    simp [List.append_assoc]
theorem padW_split : ∀ (d n : Nat), padW (d + 1) n = padW 1 (n / 10 ^ d) ++ digsW d n
  | 0, n => by simp [digsW]
  | d + 1, n => by
    rw [padW_snoc (d + 1) n (by omega), padW_split d (n / 10), digsW, Nat.div_div_eq_div_mul, ← Nat.pow_succ', List.append_assoc]
theorem digsW_mod : ∀ (d n : Nat), digsW d (n % 10 ^ d) = digsW d n
  | 0, _ => rfl
  | d + 1, n => by
    rw [digsW, digsW, Nat.pow_succ', Nat.mod_mul_right_div_self, digsW_mod d (n / 10), Nat.mod_mul_right_mod]
theorem padW_one (n : Nat) : padW 1 n = Lib.decDigits n := by
  unfold padW
  have : 1 ≤ (Lib.decDigits n).length := by rw [Lib.decDigits_length]; exact Lib.nDigits_pos n
  rw [show 1 - (Lib.decDigits n).length = 0 by omega]; rfl
end Go.Proofs.YtdanjegnhdpnlaaGreatDoor.kit
