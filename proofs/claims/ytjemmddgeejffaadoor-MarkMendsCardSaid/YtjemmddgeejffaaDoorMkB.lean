/- Numbers in so many digits: the program. Condition: the table of powers of ten, for numbers from 100 on. -/
import Derived.Test.YtjemmddgeejffaaDoorMkA
import Derived.Test.YtjemmddgeejffaaDoorShelf
import Derived.Lib.AppendIntMem
namespace Go.Proofs.YtjemmddgeejffaaDoor.kit
open Go.RowKit Go.PlainAid
set_option linter.unusedVariables false

theorem ret_string {a b : ByteArray} (h : a = b) : Ending.returned (.string a) = .returned (.string b) := by rw [h]
theorem zero_cons (l : List UInt8) : (⟨#[48]⟩ : ByteArray) ++ bstr l = bstr (48 :: l) := by
  apply ByteArray.ext
  apply Array.toList_inj.1
  unfold bstr
  simp [ByteArray.data_append]
theorem digits_small (n k : Nat) (hn : n < 100) (hk : k ≤ 6) (w : World) :
    Calls Tryd.prog 27 #[.int .i64 n, .int .i64 k] w fun e w' => e = .returned (.string (bstr (padW k n))) ∧ w' = w := by
  obtain ⟨L, hL⟩ : ∃ L, (Lib.decDigits n).length = L := ⟨_, rfl⟩
  have HI := Lib.hid (Tryd.strconv_Itoa_small n hn w)
  go_enter Tryd.func27, Tryd.ntmps27
  go_wp2_with fail
  refine (HI.out).mono ?_
  rintro e w1 ⟨rfl, rfl⟩
  go_wp2
  go_loop [5] (fun v => ∃ j : Nat, (j = 0 ∨ j + L ≤ k) ∧ v = .string (bstr (List.replicate j 48 ++ Lib.decDigits n))) (fun v => k - (match v with | .string s => s.size | _ => 0))
  case atStart => exact ⟨0, .inl rfl, rfl⟩
  case round =>
    obtain ⟨j, hj, rfl⟩ := hrel
    have HS : (bstr (List.replicate j 48 ++ Lib.decDigits n)).size = j + L := by rw [size_bstr, List.length_append, List.length_replicate, hL]
    by_cases hlt : j + L < k
    · have HC : Hid ((⟨#[48]⟩ : ByteArray) ++ bstr (List.replicate j 48 ++ Lib.decDigits n) = bstr (List.replicate (j + 1) 48 ++ Lib.decDigits n)) := Lib.hid (by rw [List.replicate_succ, List.cons_append, zero_cons])
      go_wp2
      go_round
      case rel => exact ⟨j + 1, .inr (by omega), by rw [← HC.out]⟩
      case measure => simp only []; rw [HC.out, size_bstr, size_bstr]; simp; omega
    · have HE : Hid (bstr (List.replicate j 48 ++ Lib.decDigits n) = bstr (padW k n)) := Lib.hid (by unfold padW; rw [hL]; congr 3; omega)
      go_wp2
      go_ret
      exact ⟨ret_string HE.out, rfl⟩
abbrev PowTab (w : World) : Prop := Lib.TabIs Tryd.prog w "internal/strconv.uint64pow10" .u64 Lib.pow10Tab
theorem itoa_nat (n : Nat) : Lib.itoa (n : Int) = Lib.decDigits n := by
  unfold Lib.itoa
  rw [if_neg (by omega)]; simp
theorem digits_any (n k : Nat) (hn : n ≤ 999999) (hk : k ≤ 6) (w : World) (ht : PowTab w) :
    Calls Tryd.prog 27 #[.int .i64 n, .int .i64 k] w fun e w' => e = .returned (.string (bstr (padW k n))) ∧ Below w.heap.size w w' := by
  obtain ⟨L, hL⟩ : ∃ L, (Lib.decDigits n).length = L := ⟨_, rfl⟩
  have HI := Lib.hid (Tryd.strconv_Itoa n (by omega) (by omega) w ht)
  rw [itoa_nat] at HI
  clear ht
  go_enter Tryd.func27, Tryd.ntmps27
  go_wp2_with fail
  refine ((HI.out.mono fun e w' h => (show e = _ ∧ Below w.heap.size w w' from ⟨h.1, by obtain ⟨k, os, rfl⟩ := h.2; exact Lib.below_grow _ _ (Nat.le_refl _) _ _⟩))).mono ?_
  rintro e w1 ⟨rfl, hb1⟩
  have HB1 := Lib.hid hb1
  clear hb1
  go_wp2
  go_loop [5] (fun v => ∃ j : Nat, (j = 0 ∨ j + L ≤ k) ∧ v = .string (bstr (List.replicate j 48 ++ Lib.decDigits n))) (fun v => k - (match v with | .string s => s.size | _ => 0))
  case atStart => exact ⟨0, .inl rfl, rfl⟩
  case round =>
    obtain ⟨j, hj, rfl⟩ := hrel
    have HS : (bstr (List.replicate j 48 ++ Lib.decDigits n)).size = j + L := by rw [size_bstr, List.length_append, List.length_replicate, hL]
    by_cases hlt : j + L < k
    · have HC : Hid ((⟨#[48]⟩ : ByteArray) ++ bstr (List.replicate j 48 ++ Lib.decDigits n) = bstr (List.replicate (j + 1) 48 ++ Lib.decDigits n)) := Lib.hid (by rw [List.replicate_succ, List.cons_append, zero_cons])
      go_wp2
      go_round
      case rel => exact ⟨j + 1, .inr (by omega), by rw [← HC.out]⟩
      case measure => simp only []; rw [HC.out, size_bstr, size_bstr]; simp; omega
    · have HE : Hid (bstr (List.replicate j 48 ++ Lib.decDigits n) = bstr (padW k n)) := Lib.hid (by unfold padW; rw [hL]; congr 3; omega)
      go_wp2
      go_ret
      exact ⟨ret_string HE.out, HB1.out⟩
end Go.Proofs.YtjemmddgeejffaaDoor.kit
