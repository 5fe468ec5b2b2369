/- So many months on: the document; a month on against a month less. No condition. -/
import Derived.Test.YtmgijoomfailoaaDoorDyD
namespace Go.Proofs.YtmgijoomfailoaaDoor.cal
open Go.RowKit Go.Proofs.YtmgijoomfailoaaDoor.kit Go.PlainAid
set_option linter.unusedVariables false

set_option maxRecDepth 100000 in
set_option maxHeartbeats 1600000 in
theorem rtenor_any (d y m o : Nat) (n : Int) (h : IsMon d y m o) (hd : d ≤ 1048576) (hn : -40000 ≤ n ∧ n ≤ 40000) (w : World) :
    Calls Tryd.prog 14 #[.int .i64 (d : Int), .int .i64 n] w fun e w' => e = .returned (.tuple #[.int .i64 (tenV y m o n).1, .bool (tenV y m o n).2]) ∧ w = w' := by
  have HI0 := Lib.hid (fun w => ris_any d w)
  rw [show isDayB (d : Int) = true from decide_eq_true (by omega)] at HI0
  have HMO := Lib.hid (fun w => rmonth_any d y m o h hd w)
  have hy5 := h.year hd
  have hy0 := h.y1
  have hm1 := h.m1
  have hm2 := h.m2
  have ho1 := h.o1
  have ho2 : o ≤ 31 := by have := h.o2; have := lenM_bd y m; omega
  have c1 : decide (n < -40000) = false := decide_eq_false (by omega)
  have c2 : decide ((40000 : Int) < n) = false := decide_eq_false (by omega)
  obtain ⟨b, hb⟩ : ∃ b, 12 * (y : Int) + (m : Int) - 1 + n = b := ⟨_, rfl⟩
  have ha : tenAt y m n = b - 24000 := by unfold tenAt; omega
  have EV : tenV y m o n = if b - 24000 < 0 then (0, false) else if tenD o (b - 24000).toNat ≤ 1048576 then ((tenD o (b - 24000).toNat : Int), true) else (0, false) := by
    unfold tenV; rw [ha]
  clear h ha
  by_cases hneg : b < 24000
  · have HE : Hid (tenV y m o n = (0, false)) := Lib.hid (by rw [EV, if_pos (by omega)])
    have c3 : decide (b < 24000) = true := decide_eq_true hneg
    clear EV
    go_enter Tryd.func14, Tryd.ntmps14
    go_wp2_with fail
    refine (HI0.out _).mono ?_
    rintro e w' ⟨rfl, rfl⟩
    go_wp2_with fail
    refine (HMO.out _).mono ?_
    rintro e w' ⟨rfl, rfl⟩
    go_wp2_with fail
    go_ret2
    exact ⟨ret_ib2 HE.out, rfl⟩
  have c3 : decide (b < 24000) = false := decide_eq_false hneg
  obtain ⟨A, hA⟩ : ∃ A : Nat, b = A + 24000 := ⟨(b - 24000).toNat, by omega⟩
  rw [hA, if_neg (by omega), show ((A : Int) + 24000 - 24000).toNat = A by omega] at EV
  by_cases hbig : 36000 < A
  · have HE : Hid (tenV y m o n = (0, false)) := Lib.hid (by rw [EV, if_neg (by have := tenD_late ho1 (show 36000 ≤ A by omega); omega)])
    have c4 : decide ((60000 : Int) < b) = true := decide_eq_true (by omega)
    clear EV hA
    go_enter Tryd.func14, Tryd.ntmps14
    go_wp2_with fail
    refine (HI0.out _).mono ?_
    rintro e w' ⟨rfl, rfl⟩
    go_wp2_with fail
    refine (HMO.out _).mono ?_
    rintro e w' ⟨rfl, rfl⟩
    go_wp2_with fail
    go_ret2
    exact ⟨ret_ib2 HE.out, rfl⟩
  have c4 : decide ((60000 : Int) < b) = false := decide_eq_false (by omega)
  have ET : tenD o A = dayV (2000 + A / 12) (A % 12 + 1) (min o (lenM (2000 + A / 12) (A % 12 + 1))) := rfl
  obtain ⟨Y, hY⟩ : ∃ Y, 2000 + A / 12 = Y := ⟨_, rfl⟩
  obtain ⟨M, hM⟩ : ∃ M, A % 12 + 1 = M := ⟨_, rfl⟩
  have e1 : b / 12 = (Y : Int) := by omega
  have e2 : Int.tdiv b 12 = (Y : Int) := by rw [Int.tdiv_eq_ediv_of_nonneg (by omega), e1]
  have e3 : b % 12 = (M : Int) - 1 := by omega
  have e4 : Int.tmod b 12 = (M : Int) - 1 := by rw [Int.tmod_eq_emod_of_nonneg (by omega), e3]
  have hYb : 2000 ≤ Y ∧ Y ≤ 5000 := by omega
  have hMb : 1 ≤ M ∧ M ≤ 12 := by omega
  rw [hY, hM] at ET
  have HL := Lib.hid (fun w => rdays_any Y M w)
  have lb := lenM_bd Y M
  have HD := Lib.hid (fun (O : Nat) (h1 : 1 ≤ O) (h2 : O ≤ lenM Y M) w => rday_any Y M O hYb.1 hYb.2 hMb.1 hMb.2 h1 h2 w)
  obtain ⟨L, hL⟩ : ∃ L, lenM Y M = L := ⟨_, rfl⟩
  rw [hL] at ET HL lb HD
  have hbb : b ≤ 100000 := by omega
  clear hA hY hM hL hneg hbig
  by_cases hoL : o ≤ L
  · have HD2 := Lib.hid (fun w => HD.out o ho1 hoL w)
    rw [show min o L = o by omega] at ET
    rw [← ET] at HD2
    have u1 : decide ((L : Int) < (o : Int)) = false := decide_eq_false (by omega)
    have u1n : decide (L < o) = false := decide_eq_false (by omega)
    obtain ⟨T, hT⟩ : ∃ T, tenD o A = T := ⟨_, rfl⟩
    rw [hT] at EV HD2
    clear hT ET HD
    by_cases hT : T ≤ 1048576
    · have HE : Hid (tenV y m o n = ((T : Int), true)) := Lib.hid (by rw [EV, if_pos hT])
      rw [decide_eq_true hT] at HD2
      clear EV
      go_enter Tryd.func14, Tryd.ntmps14
      go_wp2_with fail
      refine (HI0.out _).mono ?_
      rintro e w' ⟨rfl, rfl⟩
      go_wp2_with fail
      refine (HMO.out _).mono ?_
      rintro e w' ⟨rfl, rfl⟩
      go_wp2_with fail
      refine (HL.out _).mono ?_
      rintro e w' ⟨rfl, rfl⟩
      go_wp2_with (go_at_call 41; refine (HL.out _).mono ?_; rintro e w' ⟨rfl, rfl⟩)
      refine (HD2.out _).mono ?_
      rintro e w' ⟨rfl, rfl⟩
      go_wp2_with fail
      go_ret2
      exact ⟨ret_ib2 HE.out, rfl⟩
    · have HE : Hid (tenV y m o n = (0, false)) := Lib.hid (by rw [EV, if_neg hT])
      rw [decide_eq_false hT] at HD2
      clear EV hT
      go_enter Tryd.func14, Tryd.ntmps14
      go_wp2_with fail
      refine (HI0.out _).mono ?_
      rintro e w' ⟨rfl, rfl⟩
      go_wp2_with fail
      refine (HMO.out _).mono ?_
      rintro e w' ⟨rfl, rfl⟩
      go_wp2_with fail
      refine (HL.out _).mono ?_
      rintro e w' ⟨rfl, rfl⟩
      go_wp2_with (go_at_call 41; refine (HL.out _).mono ?_; rintro e w' ⟨rfl, rfl⟩)
      refine (HD2.out _).mono ?_
      rintro e w' ⟨rfl, rfl⟩
      go_wp2_with fail
      go_ret2
      exact ⟨ret_ib2 HE.out, rfl⟩
  · have HD2 := Lib.hid (fun w => HD.out L (by omega) (Nat.le_refl _) w)
    rw [show min o L = L by omega] at ET
    rw [← ET] at HD2
    have u1 : decide ((L : Int) < (o : Int)) = true := decide_eq_true (by omega)
    have u1n : decide (L < o) = true := decide_eq_true (by omega)
    obtain ⟨T, hT⟩ : ∃ T, tenD o A = T := ⟨_, rfl⟩
    rw [hT] at EV HD2
    clear hT ET HD
    by_cases hT : T ≤ 1048576
    · have HE : Hid (tenV y m o n = ((T : Int), true)) := Lib.hid (by rw [EV, if_pos hT])
      rw [decide_eq_true hT] at HD2
      clear EV
      go_enter Tryd.func14, Tryd.ntmps14
      go_wp2_with fail
      refine (HI0.out _).mono ?_
      rintro e w' ⟨rfl, rfl⟩
      go_wp2_with fail
      refine (HMO.out _).mono ?_
      rintro e w' ⟨rfl, rfl⟩
      go_wp2_with fail
      refine (HL.out _).mono ?_
      rintro e w' ⟨rfl, rfl⟩
      go_wp2_with (go_at_call 41; refine (HL.out _).mono ?_; rintro e w' ⟨rfl, rfl⟩)
      refine (HD2.out _).mono ?_
      rintro e w' ⟨rfl, rfl⟩
      go_wp2_with fail
      go_ret2
      exact ⟨ret_ib2 HE.out, rfl⟩
    · have HE : Hid (tenV y m o n = (0, false)) := Lib.hid (by rw [EV, if_neg hT])
      rw [decide_eq_false hT] at HD2
      clear EV hT
      go_enter Tryd.func14, Tryd.ntmps14
      go_wp2_with fail
      refine (HI0.out _).mono ?_
      rintro e w' ⟨rfl, rfl⟩
      go_wp2_with fail
      refine (HMO.out _).mono ?_
      rintro e w' ⟨rfl, rfl⟩
      go_wp2_with fail
      refine (HL.out _).mono ?_
      rintro e w' ⟨rfl, rfl⟩
      go_wp2_with (go_at_call 41; refine (HL.out _).mono ?_; rintro e w' ⟨rfl, rfl⟩)
      refine (HD2.out _).mono ?_
      rintro e w' ⟨rfl, rfl⟩
      go_wp2_with fail
      go_ret2
      exact ⟨ret_ib2 HE.out, rfl⟩
end Go.Proofs.YtmgijoomfailoaaDoor.cal
