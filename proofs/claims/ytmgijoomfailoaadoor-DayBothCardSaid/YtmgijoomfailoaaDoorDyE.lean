/- The text of a day: the program and the document. Conditions: the tables of powers of ten and of the months. -/
import Derived.Test.YtmgijoomfailoaaDoorDyD
import Derived.Test.YtmgijoomfailoaaDoorShelf
import Derived.Lib.AppendIntMem
import Derived.Laws.BytesArg
namespace Go.Proofs.YtmgijoomfailoaaDoor.cal
open Go.RowKit Go.Proofs.YtmgijoomfailoaaDoor.kit Go.PlainAid
set_option linter.unusedVariables false

theorem digits_small (n k : Nat) (hn : n < 100) (hk : k ≤ 6) (w : World) :
    Calls Tryd.prog 51 #[.int .i64 n, .int .i64 k] w fun e w' => e = .returned (.string (bstr (padW k n))) ∧ w' = w := by
  obtain ⟨L, hL⟩ : ∃ L, (Lib.decDigits n).length = L := ⟨_, rfl⟩
  have HI := Lib.hid (Tryd.strconv_Itoa_small n hn w)
  go_enter Tryd.func51, Tryd.ntmps51
  go_wp2_with fail
  refine (HI.out).mono ?_
  rintro e w1 ⟨rfl, rfl⟩
  go_wp2
  go_loop [5] (fun v => ∃ j : Nat, (j = 0 ∨ j + L ≤ k) ∧ v = .string (bstr (List.replicate j 48 ++ Lib.decDigits n))) (fun v => k - (match v with | .string s => s.size | _ => 0))
  case atStart => exact ⟨0, .inl rfl, rfl⟩
  case round =>
    obtain ⟨j, hj, rfl⟩ := hrel
    have HS : (bstr (List.replicate j 48 ++ Lib.decDigits n)).size = j + L := by rw [size_bstr, List.length_append, List.length_replicate, hL]
    by_cases hlt : j + L < k
    · have HC : Hid ((⟨#[48]⟩ : ByteArray) ++ bstr (List.replicate j 48 ++ Lib.decDigits n) = bstr (List.replicate (j + 1) 48 ++ Lib.decDigits n)) := Lib.hid (by rw [List.replicate_succ, List.cons_append, zero_cons])
      go_wp2
      go_round
      case rel => exact ⟨j + 1, .inr (by omega), by rw [← HC.out]⟩
      case measure => simp only []; rw [HC.out, size_bstr, size_bstr]; simp; omega
    · have HE : Hid (bstr (List.replicate j 48 ++ Lib.decDigits n) = bstr (padW k n)) := Lib.hid (by unfold padW; rw [hL]; congr 3; omega)
      go_wp2
      go_ret
      exact ⟨ret_string HE.out, rfl⟩
abbrev PowTab (w : World) : Prop := Lib.TabIs Tryd.prog w "internal/strconv.uint64pow10" .u64 Lib.pow10Tab
theorem digits_any (n k : Nat) (hn : n ≤ 999999) (hk : k ≤ 6) (w : World) (ht : PowTab w) :
    Calls Tryd.prog 51 #[.int .i64 n, .int .i64 k] w fun e w' => e = .returned (.string (bstr (padW k n))) ∧ Below w.heap.size w w' := by
  obtain ⟨L, hL⟩ : ∃ L, (Lib.decDigits n).length = L := ⟨_, rfl⟩
  have HI := Lib.hid (Tryd.strconv_Itoa n (by omega) (by omega) w ht)
  rw [itoa_nat] at HI
  clear ht
  go_enter Tryd.func51, Tryd.ntmps51
  go_wp2_with fail
  refine ((HI.out.mono fun e w' h => (show e = _ ∧ Below w.heap.size w w' from ⟨h.1, by obtain ⟨k, os, rfl⟩ := h.2; exact Lib.below_grow _ _ (Nat.le_refl _) _ _⟩))).mono ?_
  rintro e w1 ⟨rfl, hb1⟩
  have HB1 := Lib.hid hb1
  clear hb1
  go_wp2
  go_loop [5] (fun v => ∃ j : Nat, (j = 0 ∨ j + L ≤ k) ∧ v = .string (bstr (List.replicate j 48 ++ Lib.decDigits n))) (fun v => k - (match v with | .string s => s.size | _ => 0))
  case atStart => exact ⟨0, .inl rfl, rfl⟩
  case round =>
    obtain ⟨j, hj, rfl⟩ := hrel
    have HS : (bstr (List.replicate j 48 ++ Lib.decDigits n)).size = j + L := by rw [size_bstr, List.length_append, List.length_replicate, hL]
    by_cases hlt : j + L < k
    · have HC : Hid ((⟨#[48]⟩ : ByteArray) ++ bstr (List.replicate j 48 ++ Lib.decDigits n) = bstr (List.replicate (j + 1) 48 ++ Lib.decDigits n)) := Lib.hid (by rw [List.replicate_succ, List.cons_append, zero_cons])
      go_wp2
      go_round
      case rel => exact ⟨j + 1, .inr (by omega), by rw [← HC.out]⟩
      case measure => simp only []; rw [HC.out, size_bstr, size_bstr]; simp; omega
    · have HE : Hid (bstr (List.replicate j 48 ++ Lib.decDigits n) = bstr (padW k n)) := Lib.hid (by unfold padW; rw [hL]; congr 3; omega)
      go_wp2
      go_ret
      exact ⟨ret_string HE.out, HB1.out⟩
theorem conv1 (w : World) (c : Int) : (convert 64 9 (.slice (some ⟨w.heap.size, 0, none⟩) 1 1)).run Tryd.prog (w.alloc (.cells #[.int .u8 c] 5)) = .ok (.string ⟨#[UInt8.ofNat c.toNat]⟩) (w.alloc (.cells #[.int .u8 c] 5)) :=
  run_convert_bytes_arg _ _ _ Tryd.underlying64 Tryd.underlying5 w.heap.size 0 1 1 [c] rfl (fun i hi => by
    obtain rfl : i = 0 := by omega
    exact (Blk.new w 5 #[.int .u8 c]).cell 0) _ Tryd.underlying9
set_option maxHeartbeats 3200000 in
theorem rdigits_any (m l : Nat) (w : World) (hl4 : l ≤ 6) (hm : m ≤ 1099511627776) :
    Calls Tryd.prog 53 #[.int .i64 m, .int .i64 l] w fun e w' => e = .returned (.string (bstr (digsW l m))) ∧ Below w.heap.size w w' := by
  have h1 := conv1
  go_enter Tryd.func53, Tryd.ntmps53
  go_wp2
  go_loopw [0, 5, 6] (fun a s i wr => ∃ k : Nat, k ≤ l ∧ i = .int .i64 k ∧ a = .int .i64 ((m / 10 ^ k : Nat) : Int) ∧ s = .string (bstr (digsW k m)) ∧ Below w.heap.size w wr) (fun _ _ i _ => l - (intOf i).toNat)
  case atStart => exact ⟨0, by omega, rfl, by simp, rfl, Below.refl _ _⟩
  case round =>
    obtain ⟨k, hk, rfl, rfl, rfl, hbel⟩ := hrel
    have hzk : (bstr (digsW k m)).size = k := by rw [size_bstr, digsW_len]
    obtain ⟨x, hx⟩ : ∃ x, m / 10 ^ k = x := ⟨_, rfl⟩
    have hxm : x ≤ 1099511627776 := by have := Nat.div_le_self m (10 ^ k); omega
    by_cases hgo : k < l
    · have HX1 : Hid ((m / 10 ^ (k + 1) : Nat) = x / 10) := Lib.hid (by rw [Nat.pow_succ, ← Nat.div_div_eq_div_mul, hx])
      have HX2 : Hid ((⟨#[48 + UInt8.ofNat (x % 10)]⟩ : ByteArray) ++ bstr (digsW k m) = bstr (digsW (k + 1) m)) := Lib.hid (by rw [← of48, digsW_front, ← hx, one_cons])
      have HW : Hid (∀ c, Below w.heap.size w (wr.alloc (.cells #[.int .u8 c] 5))) := Lib.hid fun c => hbel.alloc hbel.size _
      rw [hx]
      clear hx
      have hc : (48 + (x : Int) % 10).toNat = 48 + x % 10 := by omega
      have d1 : decide ((k : Int) < (l : Int)) = true := decide_eq_true (by omega)
      go_wp2
      go_roundw
      case rel => exact ⟨k + 1, by omega, by go_num, by rw [HX1.out]; simp, by rw [← HX2.out], HW.out _⟩
      case measure => simp [intOf]; omega
    · obtain rfl : k = l := by omega
      rw [hx]
      have d1 : decide ((k : Int) < (k : Int)) = false := decide_eq_false (by omega)
      have HB := Lib.hid hbel
      go_wp2
      go_ret
      exact ⟨rfl, HB.out⟩
def textL (y m o : Nat) : List UInt8 := digsW 4 y ++ 45 :: (digsW 2 m ++ 45 :: digsW 2 o)
theorem text_cat (y m o : Nat) : bstr (digsW 4 y) ++ (⟨#[45]⟩ : ByteArray) ++ bstr (digsW 2 m) ++ (⟨#[45]⟩ : ByteArray) ++ bstr (digsW 2 o) = bstr (textL y m o) := by
  apply list_inj
  simp only [app_list, data_bstr, textL, List.append_assoc]
  rfl
set_option maxRecDepth 100000 in
set_option maxHeartbeats 1600000 in
theorem text_any (d y m o : Nat) (h : IsMon d y m o) (hd : d ≤ 1048576) (w : World) (ht : MonTab w) (hp : PowTab w) :
    Calls Tryd.prog 30 #[.int .i64 (d : Int)] w fun e w' => e = .returned (.string (bstr (textL y m o))) ∧ Below w.heap.size w w' := by
  have HI := Lib.hid (isDay_any (d : Int) w)
  rw [show isDayB (d : Int) = true from decide_eq_true (by omega)] at HI
  have HMO := Lib.hid (month_any d y m o h hd w ht)
  have hy5 := h.year hd
  have hm2 := h.m2
  have hm1 := h.m1
  have ho1 := h.o1
  have ho2 : o ≤ 31 := by have := h.o2; have := lenM_bd y m; omega
  have H4 := Lib.hid (digits_any y 4 (by omega) (by omega) w hp)
  have H2 := Lib.hid (fun w => digits_small m 2 (by omega) (by omega) w)
  have H1 := Lib.hid (fun w => digits_small o 2 (by omega) (by omega) w)
  rw [padW_eq 4 y (by omega) (by omega)] at H4
  rw [padW_eq 2 m (by omega) (by omega)] at H2
  rw [padW_eq 2 o (by omega) (by omega)] at H1
  have z4 : (bstr (digsW 4 y)).size = 4 := by rw [size_bstr, digsW_len]
  have z2 : (bstr (digsW 2 m)).size = 2 := by rw [size_bstr, digsW_len]
  have z1 : (bstr (digsW 2 o)).size = 2 := by rw [size_bstr, digsW_len]
  have HE := Lib.hid (text_cat y m o)
  obtain ⟨S4, hS4⟩ : ∃ S, bstr (digsW 4 y) = S := ⟨_, rfl⟩
  obtain ⟨S2, hS2⟩ : ∃ S, bstr (digsW 2 m) = S := ⟨_, rfl⟩
  obtain ⟨S1, hS1⟩ : ∃ S, bstr (digsW 2 o) = S := ⟨_, rfl⟩
  rw [hS4] at H4 z4 HE
  rw [hS2] at H2 z2 HE
  rw [hS1] at H1 z1 HE
  clear h ht hp hS4 hS2 hS1
  go_enter Tryd.func30, Tryd.ntmps30
  go_wp2_with fail
  refine HI.out.mono ?_
  rintro e w' ⟨rfl, rfl⟩
  go_wp2_with fail
  refine HMO.out.mono ?_
  rintro e w' ⟨rfl, rfl⟩
  go_wp2_with fail
  refine H4.out.mono ?_
  rintro e w1 ⟨rfl, hb1⟩
  have HB1 := Lib.hid hb1
  clear hb1
  go_wp2_with fail
  refine (H2.out _).mono ?_
  rintro e w' ⟨rfl, rfl⟩
  go_wp2_with fail
  refine (H1.out _).mono ?_
  rintro e w' ⟨rfl, rfl⟩
  go_wp2_with fail
  go_ret
  exact ⟨ret_string HE.out, HB1.out⟩
theorem text_no (d : Int) (h : isDayB d = false) (w : World) :
    Calls Tryd.prog 30 #[.int .i64 d] w fun e w' => e = .returned (.string ⟨#[]⟩) ∧ w = w' := by
  have HI := Lib.hid (isDay_any d w)
  rw [h] at HI
  go_enter Tryd.func30, Tryd.ntmps30
  go_wp2_with fail
  refine HI.out.mono ?_
  rintro e w' ⟨rfl, rfl⟩
  go_wp2_with fail
  go_ret
  exact ⟨rfl, rfl⟩
set_option maxRecDepth 100000 in
set_option maxHeartbeats 1600000 in
theorem rtext_any (d y m o : Nat) (h : IsMon d y m o) (hd : d ≤ 1048576) (w : World) :
    Calls Tryd.prog 32 #[.int .i64 (d : Int)] w fun e w' => e = .returned (.string (bstr (textL y m o))) ∧ Below w.heap.size w w' := by
  have HMO := Lib.hid (rmonth_any d y m o h hd w)
  have hy5 := h.year hd
  have hm2 := h.m2
  have ho2 : o ≤ 31 := by have := h.o2; have := lenM_bd y m; omega
  have H4 := Lib.hid (fun w => rdigits_any y 4 w (by omega) (by omega))
  have H2 := Lib.hid (fun w => rdigits_any m 2 w (by omega) (by omega))
  have H1 := Lib.hid (fun w => rdigits_any o 2 w (by omega) (by omega))
  have z4 : (bstr (digsW 4 y)).size = 4 := by rw [size_bstr, digsW_len]
  have z2 : (bstr (digsW 2 m)).size = 2 := by rw [size_bstr, digsW_len]
  have z1 : (bstr (digsW 2 o)).size = 2 := by rw [size_bstr, digsW_len]
  have HE := Lib.hid (text_cat y m o)
  obtain ⟨S4, hS4⟩ : ∃ S, bstr (digsW 4 y) = S := ⟨_, rfl⟩
  obtain ⟨S2, hS2⟩ : ∃ S, bstr (digsW 2 m) = S := ⟨_, rfl⟩
  obtain ⟨S1, hS1⟩ : ∃ S, bstr (digsW 2 o) = S := ⟨_, rfl⟩
  rw [hS4] at H4 z4 HE
  rw [hS2] at H2 z2 HE
  rw [hS1] at H1 z1 HE
  clear h hS4 hS2 hS1
  go_enter Tryd.func32, Tryd.ntmps32
  go_wp2_with fail
  refine HMO.out.mono ?_
  rintro e w' ⟨rfl, rfl⟩
  go_wp2_with fail
  refine (H4.out _).mono ?_
  rintro e w1 ⟨rfl, hb1⟩
  have HB1 := Lib.hid hb1
  clear hb1
  go_wp2_with fail
  refine (H2.out _).mono ?_
  rintro e w2 ⟨rfl, hb2⟩
  have HB2 := Lib.hid (HB1.out.trans (hb2.mono HB1.out.size))
  clear hb2
  go_wp2_with fail
  refine (H1.out _).mono ?_
  rintro e w3 ⟨rfl, hb3⟩
  have HB3 := Lib.hid (HB2.out.trans (hb3.mono HB2.out.size))
  clear hb3
  go_wp2_with fail
  go_ret
  exact ⟨ret_string HE.out, HB3.out⟩
end Go.Proofs.YtmgijoomfailoaaDoor.cal
