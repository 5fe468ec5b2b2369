/- The day of a text: the document. No condition. -/
import Derived.Test.YtmgijoomfailoaaDoorDyH
import Derived.Test.YtmgijoomfailoaaDoorDyD
namespace Go.Proofs.YtmgijoomfailoaaDoor.cal
open Go.RowKit Go.Proofs.YtmgijoomfailoaaDoor.kit Go.PlainAid
set_option linter.unusedVariables false

set_option maxHeartbeats 1600000 in
theorem rday_no (y m o : Nat) (h : ¬ (2000 ≤ y ∧ y ≤ 5000 ∧ 1 ≤ m ∧ m ≤ 12 ∧ 1 ≤ o ∧ o ≤ lenM y m)) (w : World) :
    Calls Tryd.prog 42 #[.int .i64 (y : Int), .int .i64 (m : Int), .int .i64 (o : Int)] w fun e w' => e = .returned (.tuple #[.int .i64 0, .bool false]) ∧ w = w' := by
  have HD := Lib.hid (fun w => rdays_any y m w)
  by_cases k1 : y < 2000
  · have c1 : decide ((y : Int) < 2000) = true := decide_eq_true (by omega)
    have c1n : decide (y < 2000) = true := decide_eq_true (by omega)
    clear h
    go_enter Tryd.func42, Tryd.ntmps42
    go_wp2_with fail
    go_ret2
    exact ⟨rfl, rfl⟩
  have c1 : decide ((y : Int) < 2000) = false := decide_eq_false (by omega)
  have c1n : decide (y < 2000) = false := decide_eq_false (by omega)
  by_cases k2 : 5000 < y
  · have c2 : decide ((5000 : Int) < (y : Int)) = true := decide_eq_true (by omega)
    have c2n : decide (5000 < y) = true := decide_eq_true (by omega)
    clear h
    go_enter Tryd.func42, Tryd.ntmps42
    go_wp2_with fail
    go_ret2
    exact ⟨rfl, rfl⟩
  have c2 : decide ((5000 : Int) < (y : Int)) = false := decide_eq_false (by omega)
  have c2n : decide (5000 < y) = false := decide_eq_false (by omega)
  by_cases k3 : m < 1
  · have c3 : decide ((m : Int) < 1) = true := decide_eq_true (by omega)
    have c3n : decide (m < 1) = true := decide_eq_true (by omega)
    clear h
    go_enter Tryd.func42, Tryd.ntmps42
    go_wp2_with fail
    go_ret2
    exact ⟨rfl, rfl⟩
  have c3 : decide ((m : Int) < 1) = false := decide_eq_false (by omega)
  have c3n : decide (m < 1) = false := decide_eq_false (by omega)
  by_cases k4 : 12 < m
  · have c4 : decide ((12 : Int) < (m : Int)) = true := decide_eq_true (by omega)
    have c4n : decide (12 < m) = true := decide_eq_true (by omega)
    clear h
    go_enter Tryd.func42, Tryd.ntmps42
    go_wp2_with fail
    go_ret2
    exact ⟨rfl, rfl⟩
  have c4 : decide ((12 : Int) < (m : Int)) = false := decide_eq_false (by omega)
  have c4n : decide (12 < m) = false := decide_eq_false (by omega)
  by_cases k5 : o < 1
  · have c5 : decide ((o : Int) < 1) = true := decide_eq_true (by omega)
    have c5n : decide (o < 1) = true := decide_eq_true (by omega)
    clear h
    go_enter Tryd.func42, Tryd.ntmps42
    go_wp2_with fail
    go_ret2
    exact ⟨rfl, rfl⟩
  have c5 : decide ((o : Int) < 1) = false := decide_eq_false (by omega)
  have c5n : decide (o < 1) = false := decide_eq_false (by omega)
  have c6 : decide ((lenM y m : Int) < (o : Int)) = true := decide_eq_true (by omega)
  have c6n : decide (lenM y m < o) = true := decide_eq_true (by omega)
  clear h k1 k2 k3 k4 k5
  go_enter Tryd.func42, Tryd.ntmps42
  go_wp2_with fail
  refine (HD.out _).mono ?_
  rintro e w' ⟨rfl, rfl⟩
  go_wp2_with fail
  go_ret2
  exact ⟨rfl, rfl⟩
set_option maxRecDepth 100000 in
set_option maxHeartbeats 3200000 in
theorem rparse_any (s : ByteArray) (w : World) (hs : s.size ≤ maxLen) :
    Calls Tryd.prog 33 #[.string s] w fun e w' => e = .returned (.tuple #[.int .i64 (parseD s).1, .int .i64 (parseD s).2]) ∧ Below w.heap.size w w' := by
  unfold maxLen at hs
  by_cases h10 : s.size = 10
  rotate_left
  · have HE : Hid (parseD s = (0, 2)) := Lib.hid (by unfold parseD; rw [if_neg (fun h => h10 (form_iff.1 h).1)])
    have d0 : ((s.size : Int) != 10) = true := by simp; omega
    have d0n : (s.size != 10) = true := by simp; omega
    go_enter Tryd.func33, Tryd.ntmps33
    go_wp2_with fail
    go_ret2
    exact ⟨ret_di HE.out, Below.refl _ _⟩
  have hbt := get_bt s
  by_cases h4 : bt s 4 = 45
  rotate_left
  · have HE : Hid (parseD s = (0, 2)) := Lib.hid (by unfold parseD; rw [if_neg (fun h => h4 (form_iff.1 h).2.1)])
    have d1 : (bt s 4 != 45) = true := by simpa using h4
    clear h4
    go_enter Tryd.func33, Tryd.ntmps33
    go_wp2_with fail
    go_ret2
    exact ⟨ret_di HE.out, Below.refl _ _⟩
  have d1 : (bt s 4 != 45) = false := by simpa using h4
  by_cases h7 : bt s 7 = 45
  rotate_left
  · have HE : Hid (parseD s = (0, 2)) := Lib.hid (by unfold parseD; rw [if_neg (fun h => h7 (form_iff.1 h).2.2.1)])
    have d2 : (bt s 7 != 45) = true := by simpa using h7
    clear h7
    go_enter Tryd.func33, Tryd.ntmps33
    go_wp2_with fail
    go_ret2
    exact ⟨ret_di HE.out, Below.refl _ _⟩
  have d2 : (bt s 7 != 45) = false := by simpa using h7
  have z0 : (s.extract 0 4).size = 4 := by rw [ByteArray.size_extract]; omega
  have z5 : (s.extract 5 7).size = 2 := by rw [ByteArray.size_extract]; omega
  have z8 : (s.extract 8 10).size = 2 := by rw [ByteArray.size_extract]; omega
  have HA := Lib.hid (fun w => rnumber_any (s.extract 0 4) 4 z0 (by omega) w)
  have HB := Lib.hid (fun w => rnumber_any (s.extract 5 7) 2 z5 (by omega) w)
  have HC := Lib.hid (fun w => rnumber_any (s.extract 8 10) 2 z8 (by omega) w)
  have HP : Hid ((formB s = true ↔ dgF (s.extract 0 4) 4 = true ∧ dgF (s.extract 5 7) 2 = true ∧ dgF (s.extract 8 10) 2 = true)) := Lib.hid (by
    rw [form_iff]; exact ⟨fun h => h.2.2.2, fun h => ⟨h10, h4, h7, h⟩⟩)
  have r1 : dgF (s.extract 0 4) 4 = true → numR (s.extract 0 4) 4 = (yS s : Int) := fun g => by have := vF_bd g; unfold numR yS; rw [if_pos g]; omega
  have r2 : dgF (s.extract 5 7) 2 = true → numR (s.extract 5 7) 2 = (mS s : Int) := fun g => by have := vF_bd g; unfold numR mS; rw [if_pos g]; omega
  have r3 : dgF (s.extract 8 10) 2 = true → numR (s.extract 8 10) 2 = (oS s : Int) := fun g => by have := vF_bd g; unfold numR oS; rw [if_pos g]; omega
  have n1 : dgF (s.extract 0 4) 4 = false → numR (s.extract 0 4) 4 = -1 := fun g => by unfold numR; rw [g]; rfl
  have n2 : dgF (s.extract 5 7) 2 = false → numR (s.extract 5 7) 2 = -1 := fun g => by unfold numR; rw [g]; rfl
  have n3 : dgF (s.extract 8 10) 2 = false → numR (s.extract 8 10) 2 = -1 := fun g => by unfold numR; rw [g]; rfl
  clear h4 h7
  cases g1 : dgF (s.extract 0 4) 4
  · have HE : Hid (parseD s = (0, 2)) := Lib.hid (by unfold parseD; rw [if_neg (fun h => by have := (HP.out.1 h).1; rw [g1] at this; cases this)])
    rw [n1 g1] at HA
    clear HP r1 r2 r3 n1 n2 n3 g1
    obtain ⟨T1, hT1⟩ : ∃ T, s.extract 0 4 = T := ⟨_, rfl⟩
    obtain ⟨T2, hT2⟩ : ∃ T, s.extract 5 7 = T := ⟨_, rfl⟩
    obtain ⟨T3, hT3⟩ : ∃ T, s.extract 8 10 = T := ⟨_, rfl⟩
    rw [hT1] at HA
    rw [hT2] at HB
    rw [hT3] at HC
    clear z0 z5 z8
    go_enter Tryd.func33, Tryd.ntmps33
    go_wp2_with fail
    refine (HA.out _).mono ?_
    rintro e w' ⟨rfl, rfl⟩
    go_wp2_with fail
    go_ret2
    exact ⟨ret_di HE.out, Below.refl _ _⟩
  rw [r1 g1] at HA
  cases g2 : dgF (s.extract 5 7) 2
  · have HE : Hid (parseD s = (0, 2)) := Lib.hid (by unfold parseD; rw [if_neg (fun h => by have := (HP.out.1 h).2.1; rw [g2] at this; cases this)])
    rw [n2 g2] at HB
    clear HP r1 r2 r3 n1 n2 n3 g1 g2
    obtain ⟨T1, hT1⟩ : ∃ T, s.extract 0 4 = T := ⟨_, rfl⟩
    obtain ⟨T2, hT2⟩ : ∃ T, s.extract 5 7 = T := ⟨_, rfl⟩
    obtain ⟨T3, hT3⟩ : ∃ T, s.extract 8 10 = T := ⟨_, rfl⟩
    rw [hT1] at HA
    rw [hT2] at HB
    rw [hT3] at HC
    clear z0 z5 z8
    go_enter Tryd.func33, Tryd.ntmps33
    go_wp2_with fail
    refine (HA.out _).mono ?_
    rintro e w' ⟨rfl, rfl⟩
    go_wp2_with fail
    refine (HB.out _).mono ?_
    rintro e w' ⟨rfl, rfl⟩
    go_wp2_with fail
    go_ret2
    exact ⟨ret_di HE.out, Below.refl _ _⟩
  rw [r2 g2] at HB
  cases g3 : dgF (s.extract 8 10) 2
  · have HE : Hid (parseD s = (0, 2)) := Lib.hid (by unfold parseD; rw [if_neg (fun h => by have := (HP.out.1 h).2.2; rw [g3] at this; cases this)])
    rw [n3 g3] at HC
    clear HP r1 r2 r3 n1 n2 n3 g1 g2 g3
    obtain ⟨T1, hT1⟩ : ∃ T, s.extract 0 4 = T := ⟨_, rfl⟩
    obtain ⟨T2, hT2⟩ : ∃ T, s.extract 5 7 = T := ⟨_, rfl⟩
    obtain ⟨T3, hT3⟩ : ∃ T, s.extract 8 10 = T := ⟨_, rfl⟩
    rw [hT1] at HA
    rw [hT2] at HB
    rw [hT3] at HC
    clear z0 z5 z8
    go_enter Tryd.func33, Tryd.ntmps33
    go_wp2_with fail
    refine (HA.out _).mono ?_
    rintro e w' ⟨rfl, rfl⟩
    go_wp2_with fail
    refine (HB.out _).mono ?_
    rintro e w' ⟨rfl, rfl⟩
    go_wp2_with fail
    refine (HC.out _).mono ?_
    rintro e w' ⟨rfl, rfl⟩
    go_wp2_with fail
    go_ret2
    exact ⟨ret_di HE.out, Below.refl _ _⟩
  rw [r3 g3] at HC
  have hf := HP.out.2 ⟨g1, g2, g3⟩
  have EV : parseD s = if inB (yS s) (mS s) (oS s) = true then ((dayV (yS s) (mS s) (oS s) : Int), 0) else (0, 3) := by unfold parseD; rw [if_pos hf]
  have by1 : yS s ≤ 9999 := by have := vF_bd g1; unfold yS; omega
  have bm1 : mS s ≤ 99 := by have := vF_bd g2; unfold mS; omega
  have bo1 : oS s ≤ 99 := by have := vF_bd g3; unfold oS; omega
  obtain ⟨y, hy⟩ : ∃ y, yS s = y := ⟨_, rfl⟩
  obtain ⟨m, hm⟩ : ∃ y, mS s = y := ⟨_, rfl⟩
  obtain ⟨o, ho⟩ : ∃ y, oS s = y := ⟨_, rfl⟩
  rw [hy] at HA EV by1
  rw [hm] at HB EV bm1
  rw [ho] at HC EV bo1
  clear hy hm ho r1 r2 r3 n1 n2 n3 g1 g2 g3 hf HP
  have HD : ∃ (v : Int) (ok : Bool), Hid (parseD s = (if ok = true then (v, 0) else (0, 3))) ∧ Hid (∀ w, Calls Tryd.prog 42 #[.int .i64 (y : Int), .int .i64 (m : Int), .int .i64 (o : Int)] w fun e w' => e = .returned (.tuple #[.int .i64 v, .bool ok]) ∧ w = w') := by
    by_cases h : 2000 ≤ y ∧ y ≤ 5000 ∧ 1 ≤ m ∧ m ≤ 12 ∧ 1 ≤ o ∧ o ≤ lenM y m
    · refine ⟨(dayV y m o : Int), decide (dayV y m o ≤ 1048576), Lib.hid ?_, Lib.hid (fun w => rday_any y m o h.1 h.2.1 h.2.2.1 h.2.2.2.1 h.2.2.2.2.1 h.2.2.2.2.2 w)⟩
      rw [EV]
      unfold inB
      rw [decide_eq_true ⟨h.1, h.2.2.1, h.2.2.2.1, h.2.2.2.2.1, h.2.2.2.2.2⟩, Bool.true_and]
    · refine ⟨0, false, Lib.hid ?_, Lib.hid (fun w => rday_no y m o h w)⟩
      rw [EV, if_neg, if_neg (by simp)]
      intro hi
      unfold inB at hi
      simp only [Bool.and_eq_true, decide_eq_true_eq] at hi
      obtain ⟨⟨i1, i2, i3, i4, i5⟩, i6⟩ := hi
      have h5 : 5000 < y := by
        rcases Nat.lt_or_ge 5000 y with h5 | h5
        · exact h5
        · exact absurd ⟨i1, h5, i2, i3, i4, i5⟩ h
      have h6 := (dayV_mon y m o i1 i2 i3 i4 i5).year i6
      omega
  obtain ⟨v, ok, HE, HD⟩ := HD
  clear EV
  obtain ⟨T1, hT1⟩ : ∃ T, s.extract 0 4 = T := ⟨_, rfl⟩
  obtain ⟨T2, hT2⟩ : ∃ T, s.extract 5 7 = T := ⟨_, rfl⟩
  obtain ⟨T3, hT3⟩ : ∃ T, s.extract 8 10 = T := ⟨_, rfl⟩
  rw [hT1] at HA
  rw [hT2] at HB
  rw [hT3] at HC
  clear z0 z5 z8
  cases ok
  all_goals
    go_enter Tryd.func33, Tryd.ntmps33
    go_wp2_with fail
    refine (HA.out _).mono ?_
    rintro e w' ⟨rfl, rfl⟩
    go_wp2_with fail
    refine (HB.out _).mono ?_
    rintro e w' ⟨rfl, rfl⟩
    go_wp2_with fail
    refine (HC.out _).mono ?_
    rintro e w' ⟨rfl, rfl⟩
    go_wp2_with fail
    go_quiet ((first | (go_at_call 54; with_reducible exact Calls.quiet_of_same ((HA.out _).mono fun _ _ h => ⟨h.1, h.2.symm⟩)) | (go_at_call 54; with_reducible exact Calls.quiet_of_same ((HB.out _).mono fun _ _ h => ⟨h.1, h.2.symm⟩)) | (go_at_call 54; exact Calls.quiet_of_same ((HC.out _).mono fun _ _ h => ⟨h.1, h.2.symm⟩)) | (go_at_call 42; exact Calls.quiet_of_same ((HD.out _).mono fun _ _ h => ⟨h.1, h.2.symm⟩))))
    go_wp2_with fail
    go_ret2
    exact ⟨ret_di (by have := HE.out; simpa using this), below_drewN (Below.refl _ _) nq⟩
end Go.Proofs.YtmgijoomfailoaaDoor.cal
