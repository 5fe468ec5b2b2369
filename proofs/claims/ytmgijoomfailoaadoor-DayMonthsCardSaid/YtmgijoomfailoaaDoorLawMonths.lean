/- DayMonths: the law. Conditions: the tables of powers of ten and of the months. -/
import Derived.Test.YtmgijoomfailoaaDoorDyF
import Derived.Test.YtmgijoomfailoaaDoorDyT
namespace Go.Proofs.YtmgijoomfailoaaDoor
open Go.RowKit Go.Proofs.YtmgijoomfailoaaDoor.kit Go.Proofs.YtmgijoomfailoaaDoor.cal Go.PlainAid
set_option linter.unusedVariables false

theorem w64_id {x : Int} (h : -9223372036854775808 ≤ x ∧ x ≤ 9223372036854775807) : wrap64 x = x := by unfold wrap64; omega
theorem ten_no {n d : Int} (h : isDayB d = false ∨ n < -40000 ∨ 40000 < n) : ¬ (isDayB d = true ∧ -40000 ≤ n ∧ n ≤ 40000) := by
  rintro ⟨h1, h2, h3⟩
  rcases h with h | h | h
  · rw [h1] at h; cases h
  · omega
  · omega
theorem tenor_no (d n : Int) (w : World) (h : isDayB d = false ∨ n < -40000 ∨ 40000 < n) : Calls Tryd.prog 13 #[.int .i64 d, .int .i64 n] w fun e w' => e = .returned (.tuple #[.int .i64 0, .bool false]) ∧ w = w' := by
  have HI := Lib.hid (isDay_any d w)
  cases hi : isDayB d
  · rw [hi] at HI
    clear hi h
    go_enter Tryd.func13, Tryd.ntmps13
    go_wp2_with fail
    refine HI.out.mono ?_
    rintro e w' ⟨rfl, rfl⟩
    go_wp2_with fail
    go_ret2
    exact ⟨rfl, rfl⟩
  · rw [hi] at HI
    rw [hi] at h
    by_cases h1 : n < -40000
    · have c1 : decide (n < -40000) = true := decide_eq_true h1
      clear hi h h1
      go_enter Tryd.func13, Tryd.ntmps13
      go_wp2_with fail
      refine HI.out.mono ?_
      rintro e w' ⟨rfl, rfl⟩
      go_wp2_with fail
      go_ret2
      exact ⟨rfl, rfl⟩
    · have c1 : decide (n < -40000) = false := decide_eq_false h1
      have c2 : decide ((40000 : Int) < n) = true := decide_eq_true (by
        rcases h with h | h | h
        · cases h
        · omega
        · exact h)
      clear hi h h1
      go_enter Tryd.func13, Tryd.ntmps13
      go_wp2_with fail
      refine HI.out.mono ?_
      rintro e w' ⟨rfl, rfl⟩
      go_wp2_with fail
      go_ret2
      exact ⟨rfl, rfl⟩
theorem rtenor_no (d n : Int) (w : World) (h : isDayB d = false ∨ n < -40000 ∨ 40000 < n) : Calls Tryd.prog 14 #[.int .i64 d, .int .i64 n] w fun e w' => e = .returned (.tuple #[.int .i64 0, .bool false]) ∧ w = w' := by
  have HI := Lib.hid (ris_any d w)
  cases hi : isDayB d
  · rw [hi] at HI
    clear hi h
    go_enter Tryd.func14, Tryd.ntmps14
    go_wp2_with fail
    refine HI.out.mono ?_
    rintro e w' ⟨rfl, rfl⟩
    go_wp2_with fail
    go_ret2
    exact ⟨rfl, rfl⟩
  · rw [hi] at HI
    rw [hi] at h
    by_cases h1 : n < -40000
    · have c1 : decide (n < -40000) = true := decide_eq_true h1
      clear hi h h1
      go_enter Tryd.func14, Tryd.ntmps14
      go_wp2_with fail
      refine HI.out.mono ?_
      rintro e w' ⟨rfl, rfl⟩
      go_wp2_with fail
      go_ret2
      exact ⟨rfl, rfl⟩
    · have c1 : decide (n < -40000) = false := decide_eq_false h1
      have c2 : decide ((40000 : Int) < n) = true := decide_eq_true (by
        rcases h with h | h | h
        · cases h
        · omega
        · exact h)
      clear hi h h1
      go_enter Tryd.func14, Tryd.ntmps14
      go_wp2_with fail
      refine HI.out.mono ?_
      rintro e w' ⟨rfl, rfl⟩
      go_wp2_with fail
      go_ret2
      exact ⟨rfl, rfl⟩
set_option maxRecDepth 100000 in
set_option maxHeartbeats 3200000 in
theorem dayMonths_walk (d n : Int) (hd : I64 d) (hn : I64 n) (w : World) (ht : MonTab w) (hp : PowTab w) :
    Calls Tryd.prog 3 #[.int .i64 d, .int .i64 n] w fun e w' => e = .returned (.bool true) ∧ Below w.heap.size w w' := by
  have HT := Lib.hid (Lib.tabBelow_of_tabIs ht)
  unfold I64 at hd hn
  cases hi : isDayB d
  · have HA := Lib.hid (fun w => month_no d hi w)
    have HX := Lib.hid (fun w => tenor_no d n w (.inl hi))
    have HY := Lib.hid (fun w => rtenor_no d n w (.inl hi))
    have HI := Lib.hid (fun w => ris_any d w)
    rw [hi] at HI
    clear hi
    go_enter Tryd.func3, Tryd.ntmps3
    go_wp2_with fail
    refine (awake_any _ ht hp).mono ?_
    rintro e w1 ⟨rfl, hb1⟩
    have HB1 := Lib.hid hb1
    clear hb1
    go_wp2_with fail
    refine (HA.out _).mono ?_
    rintro e w' ⟨rfl, rfl⟩
    go_wp2_with fail
    refine (HX.out _).mono ?_
    rintro e w' ⟨rfl, rfl⟩
    go_wp2_with fail
    refine (HY.out _).mono ?_
    rintro e w' ⟨rfl, rfl⟩
    go_wp2_with fail
    refine (HI.out _).mono ?_
    rintro e w' ⟨rfl, rfl⟩
    go_wp2_with fail
    go_ret
    exact ⟨ret_bool (by simp), HB1.out⟩
  have hdb : 0 ≤ d ∧ d ≤ 1048576 := by unfold isDayB at hi; exact of_decide_eq_true hi
  obtain ⟨D, rfl⟩ : ∃ D : Nat, d = D := ⟨d.toNat, by omega⟩
  obtain ⟨y, m, o, hM⟩ := mon_ex D
  have HA := Lib.hid (fun w ht => month_any D y m o hM (by omega) w ht)
  have HR := Lib.hid (fun w => rmonth_any D y m o hM (by omega) w)
  have HI := Lib.hid (fun w => ris_any (D : Int) w)
  rw [hi] at HI
  by_cases hr : -40000 ≤ n ∧ n ≤ 40000
  rotate_left
  · have HX := Lib.hid (fun w => tenor_no D n w (by omega))
    have HY := Lib.hid (fun w => rtenor_no D n w (by omega))
    by_cases h1 : n < -40000
    · have c1 : decide (n < -40000) = true := decide_eq_true h1
      clear hi hM hr
      go_enter Tryd.func3, Tryd.ntmps3
      go_wp2_with fail
      refine (awake_any _ ht hp).mono ?_
      rintro e w1 ⟨rfl, hb1⟩
      have HB1 := Lib.hid hb1
      clear hb1
      go_wp2_with fail
      refine (HA.out _ (HT.out.on HB1.out).here).mono ?_
      rintro e w' ⟨rfl, rfl⟩
      go_wp2_with fail
      refine (HX.out _).mono ?_
      rintro e w' ⟨rfl, rfl⟩
      go_wp2_with fail
      refine (HY.out _).mono ?_
      rintro e w' ⟨rfl, rfl⟩
      go_wp2_with fail
      refine (HI.out _).mono ?_
      rintro e w' ⟨rfl, rfl⟩
      go_wp2_with fail
      refine (HR.out _).mono ?_
      rintro e w' ⟨rfl, rfl⟩
      go_wp2_with fail
      go_ret
      exact ⟨ret_bool (by simp), HB1.out⟩
    · have c1 : decide (n < -40000) = false := decide_eq_false h1
      have c2 : decide ((40000 : Int) ≤ n) = true := decide_eq_true (by omega)
      clear hi hM hr
      go_enter Tryd.func3, Tryd.ntmps3
      go_wp2_with fail
      refine (awake_any _ ht hp).mono ?_
      rintro e w1 ⟨rfl, hb1⟩
      have HB1 := Lib.hid hb1
      clear hb1
      go_wp2_with fail
      refine (HA.out _ (HT.out.on HB1.out).here).mono ?_
      rintro e w' ⟨rfl, rfl⟩
      go_wp2_with fail
      refine (HX.out _).mono ?_
      rintro e w' ⟨rfl, rfl⟩
      go_wp2_with fail
      refine (HY.out _).mono ?_
      rintro e w' ⟨rfl, rfl⟩
      go_wp2_with fail
      refine (HI.out _).mono ?_
      rintro e w' ⟨rfl, rfl⟩
      go_wp2_with fail
      refine (HR.out _).mono ?_
      rintro e w' ⟨rfl, rfl⟩
      go_wp2_with fail
      go_ret
      exact ⟨ret_bool (by simp), HB1.out⟩
  have HX := Lib.hid (fun w ht => tenor_any D y m o n hM (by omega) hr w ht)
  have HY := Lib.hid (fun w => rtenor_any D y m o n hM (by omega) hr w)
  have c1 : decide (n < -40000) = false := decide_eq_false (by omega)
  obtain ⟨⟨t, ok⟩, hv⟩ : ∃ v, tenV y m o n = v := ⟨_, rfl⟩
  by_cases h4 : 40000 ≤ n
  · rw [hv] at HX HY
    simp only [] at HX HY
    have c2 : decide ((40000 : Int) ≤ n) = true := decide_eq_true h4
    clear hi hM hr hv
    go_enter Tryd.func3, Tryd.ntmps3
    go_wp2_with fail
    refine (awake_any _ ht hp).mono ?_
    rintro e w1 ⟨rfl, hb1⟩
    have HB1 := Lib.hid hb1
    clear hb1
    go_wp2_with fail
    refine (HA.out _ (HT.out.on HB1.out).here).mono ?_
    rintro e w' ⟨rfl, rfl⟩
    go_wp2_with fail
    refine (HX.out _ (HT.out.on HB1.out).here).mono ?_
    rintro e w' ⟨rfl, rfl⟩
    go_wp2_with fail
    refine (HY.out _).mono ?_
    rintro e w' ⟨rfl, rfl⟩
    go_wp2_with fail
    refine (HI.out _).mono ?_
    rintro e w' ⟨rfl, rfl⟩
    go_wp2_with fail
    refine (HR.out _).mono ?_
    rintro e w' ⟨rfl, rfl⟩
    go_wp2_with fail
    go_ret
    exact ⟨ret_bool (by simp), HB1.out⟩
  have c2 : decide ((40000 : Int) ≤ n) = false := decide_eq_false h4
  cases ok
  · rw [hv] at HX HY
    simp only [] at HX HY
    clear hi hM hr hv h4
    go_enter Tryd.func3, Tryd.ntmps3
    go_wp2_with fail
    refine (awake_any _ ht hp).mono ?_
    rintro e w1 ⟨rfl, hb1⟩
    have HB1 := Lib.hid hb1
    clear hb1
    go_wp2_with fail
    refine (HA.out _ (HT.out.on HB1.out).here).mono ?_
    rintro e w' ⟨rfl, rfl⟩
    go_wp2_with fail
    refine (HX.out _ (HT.out.on HB1.out).here).mono ?_
    rintro e w' ⟨rfl, rfl⟩
    go_wp2_with fail
    refine (HY.out _).mono ?_
    rintro e w' ⟨rfl, rfl⟩
    go_wp2_with fail
    refine (HI.out _).mono ?_
    rintro e w' ⟨rfl, rfl⟩
    go_wp2_with fail
    refine (HR.out _).mono ?_
    rintro e w' ⟨rfl, rfl⟩
    go_wp2_with fail
    go_ret
    exact ⟨ret_bool (by simp), HB1.out⟩
  have HZ := Lib.hid (fun w ht => tenor_any D y m o (n + 1) hM (by omega) (by omega) w ht)
  obtain ⟨⟨u, so⟩, hv2⟩ : ∃ v, tenV y m o (n + 1) = v := ⟨_, rfl⟩
  have ho1 := hM.o1
  have key : so = true → t < u ∧ u ≤ t + 34 := by
    intro hso
    subst hso
    unfold tenV at hv hv2
    by_cases hneg : tenAt y m n < 0
    · rw [if_pos hneg] at hv; exact absurd (congrArg Prod.snd hv) (by simp)
    · rw [if_neg hneg] at hv
      have e1 : tenAt y m (n + 1) = tenAt y m n + 1 := by unfold tenAt; omega
      rw [e1, if_neg (by omega), show (tenAt y m n + 1).toNat = (tenAt y m n).toNat + 1 by omega] at hv2
      have hs := tenD_step ho1 (tenAt y m n).toNat
      split at hv
      · split at hv2
        · have h1 := congrArg Prod.fst hv
          have h2 := congrArg Prod.fst hv2
          simp only [] at h1 h2
          omega
        · exact absurd (congrArg Prod.snd hv2) (by simp)
      · exact absurd (congrArg Prod.snd hv) (by simp)
  have htb : 0 ≤ t ∧ t ≤ 1048576 := by
    unfold tenV at hv
    split at hv
    · exact absurd (congrArg Prod.snd hv) (by simp)
    · split at hv
      · have h1 := congrArg Prod.fst hv
        simp only [] at h1
        omega
      · exact absurd (congrArg Prod.snd hv) (by simp)
  have s1 : wrap64 (n + 1) = n + 1 := w64_id ⟨by omega, by omega⟩
  rw [hv] at HX HY
  rw [hv2] at HZ
  simp only [] at HX HY HZ
  cases so
  · clear hi hM hr hv h4 hv2 key
    go_enter Tryd.func3, Tryd.ntmps3
    go_wp2_with fail
    refine (awake_any _ ht hp).mono ?_
    rintro e w1 ⟨rfl, hb1⟩
    have HB1 := Lib.hid hb1
    clear hb1
    go_wp2_with fail
    refine (HA.out _ (HT.out.on HB1.out).here).mono ?_
    rintro e w' ⟨rfl, rfl⟩
    go_wp2_with fail
    refine (HX.out _ (HT.out.on HB1.out).here).mono ?_
    rintro e w' ⟨rfl, rfl⟩
    go_wp2_with fail
    refine (HY.out _).mono ?_
    rintro e w' ⟨rfl, rfl⟩
    go_wp2_with fail
    refine (HI.out _).mono ?_
    rintro e w' ⟨rfl, rfl⟩
    go_wp2_with fail
    refine (HR.out _).mono ?_
    rintro e w' ⟨rfl, rfl⟩
    go_wp2_with fail
    refine (HZ.out _ (HT.out.on HB1.out).here).mono ?_
    rintro e w' ⟨rfl, rfl⟩
    go_wp2_with fail
    go_ret
    exact ⟨ret_bool (by simp), HB1.out⟩
  · have hk := key rfl
    have c3 : decide (t < u) = true := decide_eq_true hk.1
    have c4 : decide (u ≤ t + 31 + 3) = true := decide_eq_true (by omega)
    have c5 : decide (u ≤ t + 34) = true := decide_eq_true (by omega)
    clear hi hM hr hv h4 hv2 key hk
    go_enter Tryd.func3, Tryd.ntmps3
    go_wp2_with fail
    refine (awake_any _ ht hp).mono ?_
    rintro e w1 ⟨rfl, hb1⟩
    have HB1 := Lib.hid hb1
    clear hb1
    go_wp2_with fail
    refine (HA.out _ (HT.out.on HB1.out).here).mono ?_
    rintro e w' ⟨rfl, rfl⟩
    go_wp2_with fail
    refine (HX.out _ (HT.out.on HB1.out).here).mono ?_
    rintro e w' ⟨rfl, rfl⟩
    go_wp2_with fail
    refine (HY.out _).mono ?_
    rintro e w' ⟨rfl, rfl⟩
    go_wp2_with fail
    refine (HI.out _).mono ?_
    rintro e w' ⟨rfl, rfl⟩
    go_wp2_with fail
    refine (HR.out _).mono ?_
    rintro e w' ⟨rfl, rfl⟩
    go_wp2_with fail
    refine (HZ.out _ (HT.out.on HB1.out).here).mono ?_
    rintro e w' ⟨rfl, rfl⟩
    go_wp2_with fail
    go_ret
    exact ⟨ret_bool (by simp), HB1.out⟩
end Go.Proofs.YtmgijoomfailoaaDoor
