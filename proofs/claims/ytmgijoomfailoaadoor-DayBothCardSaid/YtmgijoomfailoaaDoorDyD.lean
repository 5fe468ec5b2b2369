/- So many months on: the program and the document. Condition: the table of the months. -/
import Derived.Test.YtmgijoomfailoaaDoorDyC
namespace Go.Proofs.YtmgijoomfailoaaDoor.cal
open Go.RowKit Go.Proofs.YtmgijoomfailoaaDoor.kit Go.PlainAid
set_option linter.unusedVariables false

theorem ret_ib2 {r : Int × Bool} {a : Int} {b : Bool} (h : r = (a, b)) : Ending.returned (.tuple #[.int .i64 a, .bool b]) = .returned (.tuple #[.int .i64 r.1, .bool r.2]) := by rw [h]

set_option maxRecDepth 100000 in
set_option maxHeartbeats 1600000 in
theorem rday_any (y m o : Nat) (h1 : 2000 ≤ y) (h2 : y ≤ 5000) (h3 : 1 ≤ m) (h4 : m ≤ 12) (h5 : 1 ≤ o) (h6 : o ≤ lenM y m) (w : World) :
    Calls Tryd.prog 42 #[.int .i64 (y : Int), .int .i64 (m : Int), .int .i64 (o : Int)] w fun e w' => e = .returned (.tuple #[.int .i64 (dayV y m o : Int), .bool (decide (dayV y m o ≤ 1048576))]) ∧ w = w' := by
  have HD := Lib.hid (fun w => rdays_any y m w)
  have HF := Lib.hid (fun w => rfirst_any y h1 (by omega) w)
  have HI := Lib.hid (fun (d : Nat) w => ris_any (d : Int) w)
  have fb := FY_up y
  have lb := lenM_bd y m
  have ho31 : o ≤ 31 := by omega
  have c1 : decide ((y : Int) < 2000) = false := decide_eq_false (by omega)
  have c2 : decide ((5000 : Int) < (y : Int)) = false := decide_eq_false (by omega)
  have c3 : decide ((m : Int) < 1) = false := decide_eq_false (by omega)
  have c4 : decide ((12 : Int) < (m : Int)) = false := decide_eq_false (by omega)
  have c5 : decide ((o : Int) < 1) = false := decide_eq_false (by omega)
  have c6 : decide ((lenM y m : Int) < (o : Int)) = false := decide_eq_false (by omega)
  have c6n : decide (lenM y m < o) = false := decide_eq_false (by omega)
  obtain ⟨F0, hF0⟩ : ∃ F, FY y = F := ⟨_, rfl⟩
  have HE : Hid (∀ C, cm y (m - 1) = C → dayV y m o = F0 + C + o - 1) := Lib.hid (fun C hC => by unfold dayV; rw [hF0, hC])
  rw [hF0] at HF fb
  clear hF0 h6
  go_enter Tryd.func42, Tryd.ntmps42
  go_wp2_with fail
  refine (HD.out _).mono ?_
  rintro e w' ⟨rfl, rfl⟩
  go_wp2_with fail
  refine (HF.out _).mono ?_
  rintro e w' ⟨rfl, rfl⟩
  clear HD HF c6 c6n lb
  go_wp2_with fail
  go_loop [8, 9] (fun aa mm => ∃ i : Nat, aa = .int .i64 ((F0 : Int) + (o : Int) - 1 + (cm y (i - 1) : Int)) ∧ mm = .int .i64 (i : Int) ∧ 1 ≤ i ∧ i ≤ m) (fun _ mm => m - (intOf mm).toNat)
  case atStart => exact ⟨1, by show _ = Value.int .i64 (_ + ((0 : Nat) : Int)); go_num, rfl, by omega, by omega⟩
  case round =>
    obtain ⟨i, rfl, rfl, hi1, hi2⟩ := hrel
    have bd := lenM_bd y i
    have cb := cm_up y (i - 1)
    by_cases him : i < m
    · have HL := Lib.hid (fun w => rdays_any y i w)
      have HS : Hid (cm y (i + 1 - 1) = cm y (i - 1) + lenM y i) := Lib.hid (by rw [Nat.add_sub_cancel, cm_next hi1])
      obtain ⟨L, hL⟩ : ∃ L, lenM y i = L := ⟨_, rfl⟩
      rw [hL] at HL bd HS
      obtain ⟨F, hF⟩ : ∃ F, cm y (i - 1) = F := ⟨_, rfl⟩
      rw [hF] at HS cb ⊢
      have t1 : decide ((i : Int) < (m : Int)) = true := decide_eq_true (by omega)
      have t1n : decide (i < m) = true := decide_eq_true him
      clear hL hF
      go_wp2_with fail
      refine (HL.out _).mono ?_
      rintro e w' ⟨rfl, rfl⟩
      go_wp2_with fail
      go_round
      case rel => exact ⟨i + 1, by rw [HS.out]; go_num, by go_num, by omega, by omega⟩
      case measure => simp [intOf]; omega
    · obtain rfl : i = m := by omega
      have t1 : decide ((i : Int) < (i : Int)) = false := decide_eq_false (by omega)
      obtain ⟨C, hC⟩ : ∃ C, cm y (i - 1) = C := ⟨_, rfl⟩
      have HV := Lib.hid (HE.out C hC)
      rw [hC] at cb ⊢
      have hv : (F0 : Int) + (o : Int) - 1 + (C : Int) = ((dayV y i o : Nat) : Int) := by have := HV.out; omega
      have HI2 := Lib.hid (HI.out (dayV y i o))
      obtain ⟨V, hV⟩ : ∃ V, dayV y i o = V := ⟨_, rfl⟩
      rw [hV] at hv HI2
      have EB : isDayB (V : Int) = decide (dayV y i o ≤ 1048576) := by
        unfold isDayB
        rw [hV]
        apply decide_eq_decide.2
        omega
      have HR : Hid (((dayV y i o : Nat) : Int) = (V : Int)) := Lib.hid (by rw [hV])
      rw [EB] at HI2
      rw [hV] at HI2 EB
      clear hC bd HE HI HV
      go_wp2_with fail
      refine (HI2.out _).mono ?_
      rintro e w' ⟨rfl, rfl⟩
      go_wp2_with fail
      go_ret2
      exact ⟨by rw [hV]; rfl, rfl⟩
set_option maxRecDepth 100000 in
set_option maxHeartbeats 1600000 in
theorem tenor_any (d y m o : Nat) (n : Int) (h : IsMon d y m o) (hd : d ≤ 1048576) (hn : -40000 ≤ n ∧ n ≤ 40000) (w : World) (ht : MonTab w) :
    Calls Tryd.prog 13 #[.int .i64 (d : Int), .int .i64 n] w fun e w' => e = .returned (.tuple #[.int .i64 (tenV y m o n).1, .bool (tenV y m o n).2]) ∧ w = w' := by
  have HI := Lib.hid (fun (d : Int) w => isDay_any d w)
  have HI0 := Lib.hid (HI.out d)
  rw [show isDayB (d : Int) = true from decide_eq_true (by omega)] at HI0
  have HMO := Lib.hid (month_any d y m o h hd w ht)
  have hy5 := h.year hd
  have hy0 := h.y1
  have hm1 := h.m1
  have hm2 := h.m2
  have ho1 := h.o1
  have ho2 : o ≤ 31 := by have := h.o2; have := lenM_bd y m; omega
  have c1 : decide (n < -40000) = false := decide_eq_false (by omega)
  have c2 : decide ((40000 : Int) < n) = false := decide_eq_false (by omega)
  obtain ⟨a, ha⟩ : ∃ a, tenAt y m n = a := ⟨_, rfl⟩
  have hva : ((y : Int) - 2000) * 12 + (m : Int) - 1 + n = a := ha
  by_cases hneg : a < 0
  · have HE : Hid ((0, false) = tenV y m o n) := Lib.hid (by unfold tenV; rw [ha, if_pos hneg])
    have c3 : decide (a < 0) = true := decide_eq_true hneg
    clear h ha ht
    go_enter Tryd.func13, Tryd.ntmps13
    go_wp2_with fail
    refine (HI0.out _).mono ?_
    rintro e w' ⟨rfl, rfl⟩
    go_wp2_with fail
    refine HMO.out.mono ?_
    rintro e w' ⟨rfl, rfl⟩
    go_wp2_with fail
    go_ret2
    exact ⟨ret_ib2 HE.out.symm, rfl⟩
  have c3 : decide (a < 0) = false := decide_eq_false hneg
  obtain ⟨A, rfl⟩ : ∃ A : Nat, a = A := ⟨a.toNat, by omega⟩
  have hA : A ≤ 80000 := by omega
  have e1 : (A : Int) / 12 = ((A / 12 : Nat) : Int) := by omega
  have e2 : Int.tdiv (A : Int) 12 = ((A / 12 : Nat) : Int) := by rw [Int.tdiv_eq_ediv_of_nonneg (by omega), e1]
  have e3 : (A : Int) % 12 = ((A % 12 : Nat) : Int) := by omega
  have e4 : Int.tmod (A : Int) 12 = ((A % 12 : Nat) : Int) := by rw [Int.tmod_eq_emod_of_nonneg (by omega), e3]
  have EV : tenV y m o n = if tenD o A ≤ 1048576 then ((tenD o A : Int), true) else (0, false) := by
    unfold tenV; rw [ha, if_neg hneg, Int.toNat_natCast]
  have ET : tenD o A = dayV (2000 + A / 12) (A % 12 + 1) (min o (lenM (2000 + A / 12) (A % 12 + 1))) := rfl
  obtain ⟨Y, hY⟩ : ∃ Y, 2000 + A / 12 = Y := ⟨_, rfl⟩
  obtain ⟨M, hM⟩ : ∃ M, A % 12 + 1 = M := ⟨_, rfl⟩
  have f1 : (2000 : Int) + ((A / 12 : Nat) : Int) = (Y : Int) := by omega
  have f2 : ((A % 12 : Nat) : Int) + 1 = (M : Int) := by omega
  have hYb : 2000 ≤ Y ∧ Y ≤ 9000 := by omega
  have hMb : 1 ≤ M ∧ M ≤ 12 := by omega
  rw [hY, hM] at ET
  have HL := Lib.hid (length_any Y M hMb.1 hMb.2 w ht)
  have lb := lenM_bd Y M
  obtain ⟨L, hL⟩ : ∃ L, lenM Y M = L := ⟨_, rfl⟩
  rw [hL] at ET HL lb
  obtain ⟨O, hO⟩ : ∃ O, min o L = O := ⟨_, rfl⟩
  have f3 : min (o : Int) (L : Int) = (O : Int) := by omega
  rw [hO] at ET
  have HD := Lib.hid (dayOf_any Y M O hYb.1 (by omega) hMb.1 hMb.2 (by omega) (by omega) w ht)
  rw [← ET] at HD
  obtain ⟨T, hT⟩ : ∃ T, tenD o A = T := ⟨_, rfl⟩
  rw [hT] at EV HD
  have HI1 := Lib.hid (HI.out T)
  obtain ⟨q0, hq0⟩ : ∃ q, A / 12 = q := ⟨_, rfl⟩
  obtain ⟨q1, hq1⟩ : ∃ q, A % 12 = q := ⟨_, rfl⟩
  rw [hq0] at e1 e2 f1
  rw [hq1] at e3 e4 f2
  have hOb : 1 ≤ O ∧ O ≤ 31 := by omega
  clear h ha ht hY hM hL hO hT ET hq0 hq1 HI hneg
  by_cases hT : T ≤ 1048576
  · have HE : Hid (tenV y m o n = ((T : Int), true)) := Lib.hid (by rw [EV, if_pos hT])
    rw [show isDayB (T : Int) = true from decide_eq_true (by omega)] at HI1
    clear EV
    by_cases hoL : o ≤ L
    · obtain rfl : O = o := by omega
      have u1 : decide ((O : Int) ≤ (L : Int)) = true := decide_eq_true (by omega)
      have u1n : decide (O ≤ L) = true := decide_eq_true hoL
      go_enter Tryd.func13, Tryd.ntmps13
      go_wp2_with fail
      refine (HI0.out _).mono ?_
      rintro e w' ⟨rfl, rfl⟩
      go_wp2_with fail
      refine HMO.out.mono ?_
      rintro e w' ⟨rfl, rfl⟩
      go_wp2_with fail
      refine HL.out.mono ?_
      rintro e w' ⟨rfl, rfl⟩
      go_wp2_with fail
      refine HD.out.mono ?_
      rintro e w' ⟨rfl, rfl⟩
      go_wp2_with fail
      refine (HI1.out _).mono ?_
      rintro e w' ⟨rfl, rfl⟩
      go_wp2_with fail
      go_ret2
      exact ⟨ret_ib2 HE.out, rfl⟩
    · obtain rfl : O = L := by omega
      have u1 : decide ((o : Int) ≤ (O : Int)) = false := decide_eq_false (by omega)
      have u1n : decide (o ≤ O) = false := decide_eq_false hoL
      go_enter Tryd.func13, Tryd.ntmps13
      go_wp2_with fail
      refine (HI0.out _).mono ?_
      rintro e w' ⟨rfl, rfl⟩
      go_wp2_with fail
      refine HMO.out.mono ?_
      rintro e w' ⟨rfl, rfl⟩
      go_wp2_with fail
      refine HL.out.mono ?_
      rintro e w' ⟨rfl, rfl⟩
      go_wp2_with fail
      refine HD.out.mono ?_
      rintro e w' ⟨rfl, rfl⟩
      go_wp2_with fail
      refine (HI1.out _).mono ?_
      rintro e w' ⟨rfl, rfl⟩
      go_wp2_with fail
      go_ret2
      exact ⟨ret_ib2 HE.out, rfl⟩
  · have HE : Hid (tenV y m o n = (0, false)) := Lib.hid (by rw [EV, if_neg hT])
    rw [show isDayB (T : Int) = false from decide_eq_false (by omega)] at HI1
    clear EV hT
    by_cases hoL : o ≤ L
    · obtain rfl : O = o := by omega
      have u1 : decide ((O : Int) ≤ (L : Int)) = true := decide_eq_true (by omega)
      have u1n : decide (O ≤ L) = true := decide_eq_true hoL
      go_enter Tryd.func13, Tryd.ntmps13
      go_wp2_with fail
      refine (HI0.out _).mono ?_
      rintro e w' ⟨rfl, rfl⟩
      go_wp2_with fail
      refine HMO.out.mono ?_
      rintro e w' ⟨rfl, rfl⟩
      go_wp2_with fail
      refine HL.out.mono ?_
      rintro e w' ⟨rfl, rfl⟩
      go_wp2_with fail
      refine HD.out.mono ?_
      rintro e w' ⟨rfl, rfl⟩
      go_wp2_with fail
      refine (HI1.out _).mono ?_
      rintro e w' ⟨rfl, rfl⟩
      go_wp2_with fail
      go_ret2
      exact ⟨ret_ib2 HE.out, rfl⟩
    · obtain rfl : O = L := by omega
      have u1 : decide ((o : Int) ≤ (O : Int)) = false := decide_eq_false (by omega)
      have u1n : decide (o ≤ O) = false := decide_eq_false hoL
      go_enter Tryd.func13, Tryd.ntmps13
      go_wp2_with fail
      refine (HI0.out _).mono ?_
      rintro e w' ⟨rfl, rfl⟩
      go_wp2_with fail
      refine HMO.out.mono ?_
      rintro e w' ⟨rfl, rfl⟩
      go_wp2_with fail
      refine HL.out.mono ?_
      rintro e w' ⟨rfl, rfl⟩
      go_wp2_with fail
      refine HD.out.mono ?_
      rintro e w' ⟨rfl, rfl⟩
      go_wp2_with fail
      refine (HI1.out _).mono ?_
      rintro e w' ⟨rfl, rfl⟩
      go_wp2_with fail
      go_ret2
      exact ⟨ret_ib2 HE.out, rfl⟩
end Go.Proofs.YtmgijoomfailoaaDoor.cal
