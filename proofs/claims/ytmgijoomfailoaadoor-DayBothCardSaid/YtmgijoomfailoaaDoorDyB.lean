/- The year, month and day of the month of a day: the program and the document. Condition: the table of the months. -/
import Derived.Test.YtmgijoomfailoaaDoorDyA
namespace Go.Proofs.YtmgijoomfailoaaDoor.cal
open Go.RowKit Go.Proofs.YtmgijoomfailoaaDoor.kit Go.PlainAid
set_option linter.unusedVariables false

theorem ret_3 {a b c x y z : Int} (h : a = x ∧ b = y ∧ c = z) : Ending.returned (.tuple #[.int .i64 a, .int .i64 b, .int .i64 c]) = .returned (.tuple #[.int .i64 x, .int .i64 y, .int .i64 z]) := by obtain ⟨rfl, rfl, rfl⟩ := h; rfl
set_option maxRecDepth 100000 in
set_option maxHeartbeats 1600000 in
theorem rmonth_any (d y m o : Nat) (h : IsMon d y m o) (hd : d ≤ 1048576) (w : World) :
    Calls Tryd.prog 16 #[.int .i64 (d : Int)] w fun e w' => e = .returned (.tuple #[.int .i64 (y : Int), .int .i64 (m : Int), .int .i64 (o : Int)]) ∧ w = w' := by
  have HM := Lib.hid h
  have hy5 := h.year hd
  have HZ : Hid (FY 2000 + d = d) := Lib.hid (by rw [FY_zero]; omega)
  have hz1 : 2000 ≤ y := h.y1
  clear h
  go_enter Tryd.func16, Tryd.ntmps16
  go_wp2_with fail
  go_loop [0, 5] (fun dd yy => ∃ z r : Nat, dd = .int .i64 r ∧ yy = .int .i64 z ∧ 2000 ≤ z ∧ z ≤ y ∧ FY z + r = d) (fun dd _ => (intOf dd).toNat)
  case atStart => exact ⟨2000, d, rfl, rfl, by omega, hz1, HZ.out⟩
  case round =>
    obtain ⟨z, r, rfl, rfl, hz2, hz3, hs⟩ := hrel
    have bd := yearL_bd z
    have hrd : r ≤ 1048576 := by omega
    have HL := Lib.hid (ryear_any z)
    by_cases hzy : z < y
    · have hyl := HM.out.early hz2 hs hzy
      have HS : Hid (FY (z + 1) + (r - yearL z) = d) := Lib.hid (by rw [FY_succ hz2]; omega)
      obtain ⟨L, hL⟩ : ∃ L, yearL z = L := ⟨_, rfl⟩
      rw [hL] at HL hyl bd HS
      have t1 : decide ((L : Int) ≤ (r : Int)) = true := decide_eq_true (by omega)
      have t1n : decide (L ≤ r) = true := decide_eq_true hyl
      clear hs hL
      go_wp2_with fail
      refine (HL.out _).mono ?_
      rintro e w' ⟨rfl, rfl⟩
      go_wp2_with fail
      refine (HL.out _).mono ?_
      rintro e w' ⟨rfl, rfl⟩
      go_wp2_with fail
      go_round
      case rel => exact ⟨z + 1, r - L, by go_num, by go_num, by omega, by omega, HS.out⟩
      case measure => simp [intOf]; omega
    · obtain rfl : z = y := by omega
      have hyl := HM.out.at_year hs
      have HS := Lib.hid hs
      obtain ⟨L, hL⟩ : ∃ L, yearL z = L := ⟨_, rfl⟩
      rw [hL] at HL hyl bd
      have t1 : decide ((L : Int) ≤ (r : Int)) = false := decide_eq_false (by omega)
      have t1n : decide (L ≤ r) = false := decide_eq_false (by omega)
      clear hs hL
      go_wp2_with fail
      refine (HL.out _).mono ?_
      rintro e w' ⟨rfl, rfl⟩
      go_wp2_with fail
      clear t1 t1n hyl HL bd
      go_loop [0, 6] (fun dd mm => ∃ i q : Nat, dd = .int .i64 q ∧ mm = .int .i64 i ∧ 1 ≤ i ∧ i ≤ m ∧ FY z + cm z (i - 1) + q = d) (fun dd _ => (intOf dd).toNat)
      case atStart => exact ⟨1, r, rfl, rfl, by omega, HM.out.m1, HS.out⟩
      case round =>
        obtain ⟨i, q, rfl, rfl, hi1, hi2, hq⟩ := hrel
        have bd := lenM_bd z i
        have hm12 := HM.out.m2
        have hqd : q ≤ 1048576 := by omega
        have HL := Lib.hid (rdays_any z i)
        by_cases him : i < m
        · have hyl := HM.out.earlyM hi1 hq him
          have HQ : Hid (FY z + cm z (i + 1 - 1) + (q - lenM z i) = d) := Lib.hid (by rw [Nat.add_sub_cancel, cm_next hi1]; omega)
          obtain ⟨L, hL⟩ : ∃ L, lenM z i = L := ⟨_, rfl⟩
          rw [hL] at HL hyl bd HQ
          have t1 : decide ((L : Int) ≤ (q : Int)) = true := decide_eq_true (by omega)
          have t1n : decide (L ≤ q) = true := decide_eq_true hyl
          clear hq hL
          go_wp2_with fail
          refine (HL.out _).mono ?_
          rintro e w' ⟨rfl, rfl⟩
          go_wp2_with fail
          refine (HL.out _).mono ?_
          rintro e w' ⟨rfl, rfl⟩
          go_wp2_with fail
          go_round
          case rel => exact ⟨i + 1, q - L, by go_num, by go_num, by omega, by omega, HQ.out⟩
          case measure => simp [intOf]; omega
        · obtain rfl : i = m := by omega
          have hyl := HM.out.at_mon hq
          obtain ⟨L, hL⟩ : ∃ L, lenM z i = L := ⟨_, rfl⟩
          rw [hL] at HL hyl bd
          have HO := Lib.hid hyl.2
          have t1 : decide ((L : Int) ≤ (q : Int)) = false := decide_eq_false (by omega)
          have t1n : decide (L ≤ q) = false := decide_eq_false (by omega)
          clear hq hL hyl
          go_wp2_with fail
          refine (HL.out _).mono ?_
          rintro e w' ⟨rfl, rfl⟩
          go_wp2_with fail
          go_ret3
          exact ⟨ret_3 ⟨rfl, rfl, by have := HO.out; omega⟩, rfl⟩
set_option maxRecDepth 100000 in
set_option maxHeartbeats 1600000 in
theorem month_any (d y m o : Nat) (h : IsMon d y m o) (hd : d ≤ 1048576) (w : World) (ht : MonTab w) :
    Calls Tryd.prog 12 #[.int .i64 (d : Int)] w fun e w' => e = .returned (.tuple #[.int .i64 (y : Int), .int .i64 (m : Int), .int .i64 (o : Int)]) ∧ w = w' := by
  have HM := Lib.hid h
  have HT := Lib.hid ht
  have HI := Lib.hid (isDay_any (d : Int) w)
  rw [show isDayB (d : Int) = true from decide_eq_true (by omega)] at HI
  have a1 : (d : Int) / 146097 = ((d / 146097 : Nat) : Int) := by omega
  have a2 : Int.tdiv (d : Int) 146097 = ((d / 146097 : Nat) : Int) := by rw [Int.tdiv_eq_ediv_of_nonneg (by omega), a1]
  have b1 : (d : Int) % 146097 = ((d % 146097 : Nat) : Int) := by omega
  have b2 : Int.tmod (d : Int) 146097 = ((d % 146097 : Nat) : Int) := by rw [Int.tmod_eq_emod_of_nonneg (by omega), b1]
  have HZ0 := FY_start d
  have hq7 : d / 146097 ≤ 7 := by omega
  obtain ⟨q0, hq0⟩ : ∃ q, d / 146097 = q := ⟨_, rfl⟩
  obtain ⟨r0, hr0⟩ : ∃ q, d % 146097 = q := ⟨_, rfl⟩
  rw [hq0] at a1 a2 hq7 HZ0
  rw [hr0] at b1 b2 HZ0
  have hrb : r0 < 146097 := by omega
  have hz1 : 2000 + q0 * 400 ≤ y := by
    rcases Nat.lt_or_ge y (2000 + q0 * 400) with h1 | h1
    · have h2 := FY_le (show y + 1 ≤ 2000 + q0 * 400 by omega)
      have h3 := h.hi
      omega
    · exact h1
  have HZ := Lib.hid HZ0
  have hy5 := h.year hd
  clear h ht HZ0 hq0 hr0
  go_enter Tryd.func12, Tryd.ntmps12
  go_wp2_with fail
  refine HI.out.mono ?_
  rintro e w' ⟨rfl, rfl⟩
  go_wp2_with fail
  go_loop [0, 2] (fun dd yy => ∃ z r : Nat, dd = .int .i64 r ∧ yy = .int .i64 z ∧ 2000 ≤ z ∧ z ≤ y ∧ FY z + r = d) (fun dd _ => (intOf dd).toNat)
  case atStart => exact ⟨2000 + q0 * 400, r0, by go_num, by go_num, by omega, hz1, HZ.out⟩
  case round =>
    obtain ⟨z, r, rfl, rfl, hz2, hz3, hs⟩ := hrel
    have bd := yearL_bd z
    have hrd : r ≤ 1048576 := by omega
    have HL := Lib.hid (daysOf_any z)
    by_cases hzy : z < y
    · have hyl := HM.out.early hz2 hs hzy
      have HS : Hid (FY (z + 1) + (r - yearL z) = d) := Lib.hid (by rw [FY_succ hz2]; omega)
      obtain ⟨L, hL⟩ : ∃ L, yearL z = L := ⟨_, rfl⟩
      rw [hL] at HL hyl bd HS
      have t1 : decide ((L : Int) ≤ (r : Int)) = true := decide_eq_true (by omega)
      have t1n : decide (L ≤ r) = true := decide_eq_true hyl
      clear hs hL
      go_wp2_with fail
      refine (HL.out _).mono ?_
      rintro e w' ⟨rfl, rfl⟩
      go_wp2_with fail
      refine (HL.out _).mono ?_
      rintro e w' ⟨rfl, rfl⟩
      go_wp2_with fail
      go_round
      case rel => exact ⟨z + 1, r - L, by go_num, by go_num, by omega, by omega, HS.out⟩
      case measure => simp [intOf]; omega
    · obtain rfl : z = y := by omega
      have hyl := HM.out.at_year hs
      have HS := Lib.hid hs
      obtain ⟨L, hL⟩ : ∃ L, yearL z = L := ⟨_, rfl⟩
      rw [hL] at HL hyl bd
      have t1 : decide ((L : Int) ≤ (r : Int)) = false := decide_eq_false (by omega)
      have t1n : decide (L ≤ r) = false := decide_eq_false (by omega)
      clear hs hL
      go_wp2_with fail
      refine (HL.out _).mono ?_
      rintro e w' ⟨rfl, rfl⟩
      go_wp2_with fail
      clear t1 t1n hyl HL bd
      go_loop [0, 3] (fun dd mm => ∃ i q : Nat, dd = .int .i64 q ∧ mm = .int .i64 i ∧ 1 ≤ i ∧ i ≤ m ∧ FY z + cm z (i - 1) + q = d) (fun dd _ => (intOf dd).toNat)
      case atStart => exact ⟨1, r, rfl, rfl, by omega, HM.out.m1, HS.out⟩
      case round =>
        obtain ⟨i, q, rfl, rfl, hi1, hi2, hq⟩ := hrel
        have bd := lenM_bd z i
        have hm12 := HM.out.m2
        have hqd : q ≤ 1048576 := by omega
        have HL := Lib.hid (length_any z i hi1 (by omega) w HT.out)
        by_cases him : i < m
        · have hyl := HM.out.earlyM hi1 hq him
          have HQ : Hid (FY z + cm z (i + 1 - 1) + (q - lenM z i) = d) := Lib.hid (by rw [Nat.add_sub_cancel, cm_next hi1]; omega)
          obtain ⟨L, hL⟩ : ∃ L, lenM z i = L := ⟨_, rfl⟩
          rw [hL] at HL hyl bd HQ
          have t1 : decide ((L : Int) ≤ (q : Int)) = true := decide_eq_true (by omega)
          have t1n : decide (L ≤ q) = true := decide_eq_true hyl
          clear hq hL
          go_wp2_with fail
          refine (HL.out).mono ?_
          rintro e w' ⟨rfl, rfl⟩
          go_wp2_with fail
          refine (HL.out).mono ?_
          rintro e w' ⟨rfl, rfl⟩
          go_wp2_with fail
          go_round
          case rel => exact ⟨i + 1, q - L, by go_num, by go_num, by omega, by omega, HQ.out⟩
          case measure => simp [intOf]; omega
        · obtain rfl : i = m := by omega
          have hyl := HM.out.at_mon hq
          obtain ⟨L, hL⟩ : ∃ L, lenM z i = L := ⟨_, rfl⟩
          rw [hL] at HL hyl bd
          have HO := Lib.hid hyl.2
          have t1 : decide ((L : Int) ≤ (q : Int)) = false := decide_eq_false (by omega)
          have t1n : decide (L ≤ q) = false := decide_eq_false (by omega)
          clear hq hL hyl
          go_wp2_with fail
          refine (HL.out).mono ?_
          rintro e w' ⟨rfl, rfl⟩
          go_wp2_with fail
          go_ret3
          exact ⟨ret_3 ⟨rfl, rfl, by have := HO.out; omega⟩, rfl⟩
theorem month_no (d : Int) (h : isDayB d = false) (w : World) :
    Calls Tryd.prog 12 #[.int .i64 d] w fun e w' => e = .returned (.tuple #[.int .i64 0, .int .i64 0, .int .i64 0]) ∧ w = w' := by
  have HI := Lib.hid (isDay_any d w)
  rw [h] at HI
  go_enter Tryd.func12, Tryd.ntmps12
  go_wp2_with fail
  refine HI.out.mono ?_
  rintro e w' ⟨rfl, rfl⟩
  go_wp2_with fail
  go_ret3
  exact ⟨rfl, rfl⟩
end Go.Proofs.YtmgijoomfailoaaDoor.cal
