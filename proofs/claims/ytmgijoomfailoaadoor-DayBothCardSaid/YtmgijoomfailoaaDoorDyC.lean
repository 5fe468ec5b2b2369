/- The number of a year's, month's and day of the month's day: the program and the document. Condition: the table of the months. -/
import Derived.Test.YtmgijoomfailoaaDoorDyB
namespace Go.Proofs.YtmgijoomfailoaaDoor.cal
open Go.RowKit Go.Proofs.YtmgijoomfailoaaDoor.kit Go.PlainAid
set_option linter.unusedVariables false

theorem rfirst_any (y : Nat) (h1 : 2000 ≤ y) (h2 : y ≤ 20000) (w : World) : Calls Tryd.prog 58 #[.int .i64 (y : Int)] w fun e w' => e = .returned (.int .i64 (FY y : Int)) ∧ w = w' := by
  go_enter Tryd.func58, Tryd.ntmps58
  go_wp2_with fail
  go_loop [3, 4] (fun aa yy => ∃ z : Nat, aa = .int .i64 (FY z : Int) ∧ yy = .int .i64 (z : Int) ∧ 2000 ≤ z ∧ z ≤ y) (fun _ yy => y - (intOf yy).toNat)
  case atStart => exact ⟨2000, rfl, rfl, by omega, h1⟩
  case round =>
    obtain ⟨z, rfl, rfl, hz2, hz3⟩ := hrel
    have bd := yearL_bd z
    have fb := FY_up z
    have HL := Lib.hid (ryear_any z)
    by_cases hzy : z < y
    · have HS : Hid (FY (z + 1) = FY z + yearL z) := Lib.hid (FY_succ (by omega))
      obtain ⟨L, hL⟩ : ∃ L, yearL z = L := ⟨_, rfl⟩
      rw [hL] at HL bd HS
      obtain ⟨F, hF⟩ : ∃ F, FY z = F := ⟨_, rfl⟩
      rw [hF] at HS fb ⊢
      clear hL hF
      have t1 : decide ((z : Int) < (y : Int)) = true := decide_eq_true (by omega)
      have t1n : decide (z < y) = true := decide_eq_true hzy
      go_wp2_with fail
      refine (HL.out _).mono ?_
      rintro e w' ⟨rfl, rfl⟩
      go_wp2_with fail
      go_round
      case rel => exact ⟨z + 1, by rw [HS.out]; go_num, by go_num, by omega, by omega⟩
      case measure => simp [intOf]; omega
    · obtain rfl : z = y := by omega
      have t1 : decide ((z : Int) < (z : Int)) = false := decide_eq_false (by omega)
      clear HL bd
      go_wp2_with fail
      go_ret
      exact ⟨rfl, rfl⟩
set_option maxRecDepth 100000 in
set_option maxHeartbeats 1600000 in
theorem dayOf_any (y m o : Nat) (h1 : 2000 ≤ y) (h2 : y ≤ 20000) (h3 : 1 ≤ m) (h4 : m ≤ 12) (h5 : 1 ≤ o) (h6 : o ≤ 100) (w : World) (ht : MonTab w) :
    Calls Tryd.prog 40 #[.int .i64 (y : Int), .int .i64 (m : Int), .int .i64 (o : Int)] w fun e w' => e = .returned (.int .i64 (dayV y m o : Int)) ∧ w = w' := by
  have HT := Lib.hid ht
  obtain ⟨k, rfl⟩ : ∃ k, y = 2000 + k := ⟨y - 2000, by omega⟩
  have s1 : ((2000 + k : Nat) : Int) - 2000 = (k : Int) := by omega
  have a1 : (k : Int) / 400 = ((k / 400 : Nat) : Int) := by omega
  have a2 : Int.tdiv (k : Int) 400 = ((k / 400 : Nat) : Int) := by rw [Int.tdiv_eq_ediv_of_nonneg (by omega), a1]
  have b1 : (k : Int) % 400 = ((k % 400 : Nat) : Int) := by omega
  have b2 : Int.tmod (k : Int) 400 = ((k % 400 : Nat) : Int) := by rw [Int.tmod_eq_emod_of_nonneg (by omega), b1]
  have hF0 : FY (2000 + 400 * (k / 400)) = 146097 * (k / 400) := by
    unfold FY
    rw [show 2000 + 400 * (k / 400) - 2000 = 400 * (k / 400) by omega, fy_mul]
  have hkk := Nat.div_add_mod k 400
  obtain ⟨q, hq⟩ : ∃ q, k / 400 = q := ⟨_, rfl⟩
  obtain ⟨r, hr⟩ : ∃ q, k % 400 = q := ⟨_, rfl⟩
  rw [hq] at a1 a2 hF0 hkk
  rw [hr] at b1 b2 hkk
  have hqb : q ≤ 100 := by omega
  have hrb : r < 400 := by omega
  obtain ⟨y, hy⟩ : ∃ y, 2000 + k = y := ⟨_, rfl⟩
  rw [hy] at s1 h1 h2 ⊢
  have fb := FY_up y
  have hst : (y : Int) - (r : Int) = ((2000 + 400 * q : Nat) : Int) := by omega
  have HF0 := Lib.hid hF0
  clear ht hq hr hF0
  go_enter Tryd.func40, Tryd.ntmps40
  go_wp2_with fail
  go_loop [7, 8] (fun aa yy => ∃ z : Nat, aa = .int .i64 (FY z : Int) ∧ yy = .int .i64 (z : Int) ∧ 2000 ≤ z ∧ z ≤ y) (fun _ yy => y - (intOf yy).toNat)
  case atStart => exact ⟨2000 + 400 * q, by rw [HF0.out]; go_num, by go_num, by omega, by omega⟩
  case round =>
    obtain ⟨z, rfl, rfl, hz2, hz3⟩ := hrel
    have bd := yearL_bd z
    have fb := FY_up z
    have HL := Lib.hid (daysOf_any z)
    by_cases hzy : z < y
    · have HS : Hid (FY (z + 1) = FY z + yearL z) := Lib.hid (FY_succ (by omega))
      obtain ⟨L, hL⟩ : ∃ L, yearL z = L := ⟨_, rfl⟩
      rw [hL] at HL bd HS
      obtain ⟨F, hF⟩ : ∃ F, FY z = F := ⟨_, rfl⟩
      rw [hF] at HS fb ⊢
      clear hL hF
      have t1 : decide ((z : Int) < (y : Int)) = true := decide_eq_true (by omega)
      have t1n : decide (z < y) = true := decide_eq_true hzy
      go_wp2_with fail
      refine (HL.out _).mono ?_
      rintro e w' ⟨rfl, rfl⟩
      go_wp2_with fail
      go_round
      case rel => exact ⟨z + 1, by rw [HS.out]; go_num, by go_num, by omega, by omega⟩
      case measure => simp [intOf]; omega
    · obtain rfl : z = y := by omega
      have t1 : decide ((z : Int) < (z : Int)) = false := decide_eq_false (by omega)
      clear HL bd
      go_wp2_with fail
      obtain ⟨F0, hF0⟩ : ∃ F, FY z = F := ⟨_, rfl⟩
      have HE : Hid (dayV z m o = F0 + cm z (m - 1) + o - 1) := Lib.hid (by unfold dayV; rw [hF0])
      rw [hF0] at fb ⊢
      clear hF0
      go_loop [7, 9] (fun aa mm => ∃ i : Nat, aa = .int .i64 ((F0 : Int) + (cm z (i - 1) : Int)) ∧ mm = .int .i64 (i : Int) ∧ 1 ≤ i ∧ i ≤ m) (fun _ mm => m - (intOf mm).toNat)
      case atStart => exact ⟨1, by show _ = Value.int .i64 (_ + ((0 : Nat) : Int)); go_num, rfl, by omega, by omega⟩
      case round =>
        obtain ⟨i, rfl, rfl, hi1, hi2⟩ := hrel
        have bd := lenM_bd z i
        have cb := cm_up z (i - 1)
        by_cases him : i < m
        · have HL := Lib.hid (length_any z i hi1 (by omega) w HT.out)
          have HS : Hid (cm z (i + 1 - 1) = cm z (i - 1) + lenM z i) := Lib.hid (by rw [Nat.add_sub_cancel, cm_next hi1])
          obtain ⟨L, hL⟩ : ∃ L, lenM z i = L := ⟨_, rfl⟩
          rw [hL] at HL bd HS
          obtain ⟨F, hF⟩ : ∃ F, cm z (i - 1) = F := ⟨_, rfl⟩
          rw [hF] at HS cb ⊢
          have t1 : decide ((i : Int) < (m : Int)) = true := decide_eq_true (by omega)
          have t1n : decide (i < m) = true := decide_eq_true him
          clear hL hF
          go_wp2_with fail
          refine (HL.out).mono ?_
          rintro e w' ⟨rfl, rfl⟩
          go_wp2_with fail
          go_round
          case rel => exact ⟨i + 1, by rw [HS.out]; go_num, by go_num, by omega, by omega⟩
          case measure => simp [intOf]; omega
        · obtain rfl : i = m := by omega
          have t1 : decide ((i : Int) < (i : Int)) = false := decide_eq_false (by omega)
          clear bd
          obtain ⟨C, hC⟩ : ∃ C, cm z (i - 1) = C := ⟨_, rfl⟩
          rw [hC] at HE cb ⊢
          clear hC
          go_wp2_with fail
          go_ret
          exact ⟨ret_int (by have := HE.out; omega), rfl⟩
end Go.Proofs.YtmgijoomfailoaaDoor.cal
