/- The day of a text: the program and the document. Condition: the table of the months. -/
import Derived.Test.YtmgijoomfailoaaDoorDyP
namespace Go.Proofs.YtmgijoomfailoaaDoor.cal
open Go.RowKit Go.Proofs.YtmgijoomfailoaaDoor.kit Go.PlainAid
set_option linter.unusedVariables false

theorem ret_num {a b : Int} {x y : Bool} (h : a = b ∧ x = y) : Ending.returned (.tuple #[.int .i64 a, .bool x]) = .returned (.tuple #[.int .i64 b, .bool y]) := by obtain ⟨rfl, rfl⟩ := h; rfl
def numP (t : ByteArray) (k : Nat) : Int := if dgF t k = true then vF t k else 0
def numR (t : ByteArray) (k : Nat) : Int := if dgF t k = true then vF t k else -1
set_option maxHeartbeats 1600000 in
theorem number_any (t : ByteArray) (z : Nat) (hz : t.size = z) (hz4 : z ≤ 4) (w : World) :
    Calls Tryd.prog 52 #[.string t] w fun e w' => e = .returned (.tuple #[.int .i64 (numP t z), .bool (dgF t z)]) ∧ w = w' := by
  have hbt := get_bt t
  have HZ := Lib.hid hz
  go_enter Tryd.func52, Tryd.ntmps52
  go_wp2_with fail
  go_loop [4, 8] (fun nn i => ∃ k : Nat, k ≤ t.size ∧ i = .int .i64 k ∧ nn = .int .i64 (vF t k) ∧ Hid (dgF t k = true)) (fun _ i => t.size - (intOf i).toNat)
  case atStart => exact ⟨0, by omega, rfl, rfl, Lib.hid rfl⟩
  case round =>
    obtain ⟨k, hk, rfl, rfl, hd⟩ := hrel
    have hb := vF_bd hd.out
    have hp : ((10 ^ k : Nat) : Int) ≤ 10000 := by
      have h4 := Nat.pow_le_pow_right (show 1 ≤ 10 by omega) (show k ≤ 4 by omega)
      have h5 : (10 : Nat) ^ 4 = 10000 := rfl
      omega
    have hvb : 0 ≤ vF t k ∧ vF t k ≤ 10000 := by omega
    clear hb hp
    by_cases hlt : k < t.size
    · by_cases hdg : 48 ≤ bt t k ∧ bt t k ≤ 57
      · have HD : Hid (dgF t (k + 1) = true) := Lib.hid (by rw [dgF, hd.out, decide_eq_true hdg]; rfl)
        have HV : Hid (vF t (k + 1) = vF t k * 10 + (bt t k - 48)) := Lib.hid rfl
        have hd1 := hdg.1
        have hd2 := hdg.2
        obtain ⟨Z, hZ⟩ : ∃ Z, vF t k = Z := ⟨_, rfl⟩
        rw [hZ] at HV hvb ⊢
        clear hdg hZ
        go_wp2_with fail
        go_round
        case rel => exact ⟨k + 1, by omega, by go_num, by rw [HV.out], HD⟩
        case measure => simp [intOf]; omega
      · have HB := Lib.hid (dgF_bad (t := t) (n := z) (show k < z by omega) hdg)
        have HE : Hid ((0 : Int) = numP t z) := Lib.hid (by unfold numP; rw [if_neg (by rw [HB.out]; simp)])
        by_cases hlo : bt t k < 48
        · clear hdg
          go_wp2_with fail
          go_ret2
          exact ⟨ret_num ⟨HE.out, HB.out.symm⟩, rfl⟩
        · have hhi : 57 < bt t k := by omega
          clear hdg
          go_wp2_with fail
          go_ret2
          exact ⟨ret_num ⟨HE.out, HB.out.symm⟩, rfl⟩
    · have hkz : k = z := by omega
      subst hkz
      have HE : Hid (vF t k = numP t k) := Lib.hid (by unfold numP; rw [if_pos hd.out])
      go_wp2_with fail
      go_ret2
      exact ⟨ret_num ⟨HE.out, hd.out.symm⟩, rfl⟩
set_option maxHeartbeats 1600000 in
theorem rnumber_any (t : ByteArray) (z : Nat) (hz : t.size = z) (hz4 : z ≤ 4) (w : World) :
    Calls Tryd.prog 54 #[.string t] w fun e w' => e = .returned (.int .i64 (numR t z)) ∧ w = w' := by
  have hbt := get_bt t
  have HZ := Lib.hid hz
  go_enter Tryd.func54, Tryd.ntmps54
  go_wp2_with fail
  go_loop [3, 4] (fun nn i => ∃ k : Nat, k ≤ t.size ∧ i = .int .i64 k ∧ nn = .int .i64 (vF t k) ∧ Hid (dgF t k = true)) (fun _ i => t.size - (intOf i).toNat)
  case atStart => exact ⟨0, by omega, rfl, rfl, Lib.hid rfl⟩
  case round =>
    obtain ⟨k, hk, rfl, rfl, hd⟩ := hrel
    have hb := vF_bd hd.out
    have hp : ((10 ^ k : Nat) : Int) ≤ 10000 := by
      have h4 := Nat.pow_le_pow_right (show 1 ≤ 10 by omega) (show k ≤ 4 by omega)
      have h5 : (10 : Nat) ^ 4 = 10000 := rfl
      omega
    have hvb : 0 ≤ vF t k ∧ vF t k ≤ 10000 := by omega
    clear hb hp
    by_cases hlt : k < t.size
    · by_cases hdg : 48 ≤ bt t k ∧ bt t k ≤ 57
      · have HD : Hid (dgF t (k + 1) = true) := Lib.hid (by rw [dgF, hd.out, decide_eq_true hdg]; rfl)
        have HV : Hid (vF t (k + 1) = 10 * vF t k + (bt t k - 48)) := Lib.hid (by rw [vF]; omega)
        have hd1 := hdg.1
        have hd2 := hdg.2
        obtain ⟨Z, hZ⟩ : ∃ Z, vF t k = Z := ⟨_, rfl⟩
        rw [hZ] at HV hvb ⊢
        clear hdg hZ
        go_wp2_with fail
        go_round
        case rel => exact ⟨k + 1, by omega, by go_num, by rw [HV.out], HD⟩
        case measure => simp [intOf]; omega
      · have HB := Lib.hid (dgF_bad (t := t) (n := z) (show k < z by omega) hdg)
        have HE : Hid ((-1 : Int) = numR t z) := Lib.hid (by unfold numR; rw [if_neg (by rw [HB.out]; simp)])
        by_cases hlo : bt t k < 48
        · clear hdg
          go_wp2_with fail
          go_ret
          exact ⟨ret_int HE.out, rfl⟩
        · have hhi : 57 < bt t k := by omega
          clear hdg
          go_wp2_with fail
          go_ret
          exact ⟨ret_int HE.out, rfl⟩
    · have hkz : k = z := by omega
      subst hkz
      have HE : Hid (vF t k = numR t k) := Lib.hid (by unfold numR; rw [if_pos hd.out])
      go_wp2_with fail
      go_ret
      exact ⟨ret_int HE.out, rfl⟩
theorem ret_di {r : Int × Int} {a b : Int} (h : r = (a, b)) : Ending.returned (.tuple #[.int .i64 a, .int .i64 b]) = .returned (.tuple #[.int .i64 r.1, .int .i64 r.2]) := by rw [h]
/-! the program -/
set_option maxRecDepth 100000 in
set_option maxHeartbeats 3200000 in
theorem parse_any (s : ByteArray) (w : World) (hs : s.size ≤ maxLen) (ht : MonTab w) :
    Calls Tryd.prog 31 #[.string s] w fun e w' => e = .returned (.tuple #[.int .i64 (parseD s).1, .int .i64 (parseD s).2]) ∧ w = w' := by
  unfold maxLen at hs
  have HT := Lib.hid ht
  clear ht
  by_cases h10 : s.size = 10
  rotate_left
  · have HE : Hid (parseD s = (0, 2)) := Lib.hid (by unfold parseD; rw [if_neg (fun h => h10 (form_iff.1 h).1)])
    have d0 : ((s.size : Int) != 10) = true := by simp; omega
    have d0n : (s.size != 10) = true := by simp; omega
    go_enter Tryd.func31, Tryd.ntmps31
    go_wp2_with fail
    go_ret2
    exact ⟨ret_di HE.out, rfl⟩
  have hbt := get_bt s
  by_cases h4 : bt s 4 = 45
  rotate_left
  · have HE : Hid (parseD s = (0, 2)) := Lib.hid (by unfold parseD; rw [if_neg (fun h => h4 (form_iff.1 h).2.1)])
    have d1 : (bt s 4 != 45) = true := by simpa using h4
    clear h4
    go_enter Tryd.func31, Tryd.ntmps31
    go_wp2_with fail
    go_ret2
    exact ⟨ret_di HE.out, rfl⟩
  have d1 : (bt s 4 != 45) = false := by simpa using h4
  by_cases h7 : bt s 7 = 45
  rotate_left
  · have HE : Hid (parseD s = (0, 2)) := Lib.hid (by unfold parseD; rw [if_neg (fun h => h7 (form_iff.1 h).2.2.1)])
    have d2 : (bt s 7 != 45) = true := by simpa using h7
    clear h7
    go_enter Tryd.func31, Tryd.ntmps31
    go_wp2_with fail
    go_ret2
    exact ⟨ret_di HE.out, rfl⟩
  have d2 : (bt s 7 != 45) = false := by simpa using h7
  have z0 : (s.extract 0 4).size = 4 := by rw [ByteArray.size_extract]; omega
  have z5 : (s.extract 5 7).size = 2 := by rw [ByteArray.size_extract]; omega
  have z8 : (s.extract 8 10).size = 2 := by rw [ByteArray.size_extract]; omega
  have HA := Lib.hid (fun w => number_any (s.extract 0 4) 4 z0 (by omega) w)
  have HB := Lib.hid (fun w => number_any (s.extract 5 7) 2 z5 (by omega) w)
  have HC := Lib.hid (fun w => number_any (s.extract 8 10) 2 z8 (by omega) w)
  have HP : Hid ((formB s = true ↔ dgF (s.extract 0 4) 4 = true ∧ dgF (s.extract 5 7) 2 = true ∧ dgF (s.extract 8 10) 2 = true)) := Lib.hid (by
    rw [form_iff]; exact ⟨fun h => h.2.2.2, fun h => ⟨h10, h4, h7, h⟩⟩)
  clear h4 h7
  by_cases hf : formB s = true
  rotate_left
  · have HE : Hid (parseD s = (0, 2)) := Lib.hid (by unfold parseD; rw [if_neg hf])
    have hnf := fun h => hf (HP.out.2 h)
    obtain ⟨N1, hN1⟩ : ∃ N, numP (s.extract 0 4) 4 = N := ⟨_, rfl⟩
    obtain ⟨N2, hN2⟩ : ∃ N, numP (s.extract 5 7) 2 = N := ⟨_, rfl⟩
    obtain ⟨N3, hN3⟩ : ∃ N, numP (s.extract 8 10) 2 = N := ⟨_, rfl⟩
    obtain ⟨b1, hb1⟩ : ∃ N, dgF (s.extract 0 4) 4 = N := ⟨_, rfl⟩
    obtain ⟨b2, hb2⟩ : ∃ N, dgF (s.extract 5 7) 2 = N := ⟨_, rfl⟩
    obtain ⟨b3, hb3⟩ : ∃ N, dgF (s.extract 8 10) 2 = N := ⟨_, rfl⟩
    rw [hN1, hb1] at HA
    rw [hN2, hb2] at HB
    rw [hN3, hb3] at HC
    rw [hb1, hb2, hb3] at hnf
    have HN := Lib.hid hnf
    clear hf hnf hN1 hN2 hN3 hb1 hb2 hb3 HP
    cases b1 <;> cases b2 <;> cases b3
    all_goals first
      | (exfalso; exact HN.out ⟨rfl, rfl, rfl⟩)
      | skip
    all_goals
      clear HN
      go_enter Tryd.func31, Tryd.ntmps31
      go_wp2_with fail
      refine (HA.out _).mono ?_
      rintro e w' ⟨rfl, rfl⟩
      go_wp2_with fail
      refine (HB.out _).mono ?_
      rintro e w' ⟨rfl, rfl⟩
      go_wp2_with fail
      refine (HC.out _).mono ?_
      rintro e w' ⟨rfl, rfl⟩
      go_wp2_with fail
      go_ret2
      exact ⟨ret_di HE.out, rfl⟩
  obtain ⟨g1, g2, g3⟩ := HP.out.1 hf
  have v1 := vF_bd g1
  have v2 := vF_bd g2
  have v3 := vF_bd g3
  have q1 : numP (s.extract 0 4) 4 = (yS s : Int) := by unfold numP yS; rw [if_pos g1]; omega
  have q2 : numP (s.extract 5 7) 2 = (mS s : Int) := by unfold numP mS; rw [if_pos g2]; omega
  have q3 : numP (s.extract 8 10) 2 = (oS s : Int) := by unfold numP oS; rw [if_pos g3]; omega
  have EV : parseD s = if inB (yS s) (mS s) (oS s) = true then ((dayV (yS s) (mS s) (oS s) : Int), 0) else (0, 3) := by unfold parseD; rw [if_pos hf]
  have by1 : yS s ≤ 9999 := by unfold yS; omega
  have bm1 : mS s ≤ 99 := by unfold mS; omega
  have bo1 : oS s ≤ 99 := by unfold oS; omega
  rw [q1, g1] at HA
  rw [q2, g2] at HB
  rw [q3, g3] at HC
  obtain ⟨y, hy⟩ : ∃ y, yS s = y := ⟨_, rfl⟩
  obtain ⟨m, hm⟩ : ∃ y, mS s = y := ⟨_, rfl⟩
  obtain ⟨o, ho⟩ : ∃ y, oS s = y := ⟨_, rfl⟩
  rw [hy] at HA EV by1
  rw [hm] at HB EV bm1
  rw [ho] at HC EV bo1
  clear hy hm ho q1 q2 q3 v1 v2 v3 g1 g2 g3 hf HP
  have nin : ∀ (h : ¬ (2000 ≤ y ∧ 1 ≤ m ∧ m ≤ 12 ∧ 1 ≤ o ∧ o ≤ lenM y m)), parseD s = (0, 3) := fun h => by
    rw [EV, if_neg (by unfold inB; rw [decide_eq_false h, Bool.false_and]; simp)]
  by_cases k1 : 2000 ≤ y
  rotate_left
  · have HE := Lib.hid (nin (fun h => k1 h.1))
    have c1 : decide ((y : Int) < 2000) = true := decide_eq_true (by omega)
    have c1n : decide (y < 2000) = true := decide_eq_true (by omega)
    clear nin EV
    go_enter Tryd.func31, Tryd.ntmps31
    go_wp2_with fail
    refine (HA.out _).mono ?_
    rintro e w' ⟨rfl, rfl⟩
    go_wp2_with fail
    refine (HB.out _).mono ?_
    rintro e w' ⟨rfl, rfl⟩
    go_wp2_with fail
    refine (HC.out _).mono ?_
    rintro e w' ⟨rfl, rfl⟩
    go_wp2_with fail
    go_ret2
    exact ⟨ret_di HE.out, rfl⟩
  have c1 : decide ((y : Int) < 2000) = false := decide_eq_false (by omega)
  have c1n : decide (y < 2000) = false := decide_eq_false (by omega)
  by_cases k2 : 1 ≤ m
  rotate_left
  · have HE := Lib.hid (nin (fun h => k2 h.2.1))
    have c2 : decide ((m : Int) < 1) = true := decide_eq_true (by omega)
    have c2n : decide (m < 1) = true := decide_eq_true (by omega)
    clear nin EV
    go_enter Tryd.func31, Tryd.ntmps31
    go_wp2_with fail
    refine (HA.out _).mono ?_
    rintro e w' ⟨rfl, rfl⟩
    go_wp2_with fail
    refine (HB.out _).mono ?_
    rintro e w' ⟨rfl, rfl⟩
    go_wp2_with fail
    refine (HC.out _).mono ?_
    rintro e w' ⟨rfl, rfl⟩
    go_wp2_with fail
    go_ret2
    exact ⟨ret_di HE.out, rfl⟩
  have c2 : decide ((m : Int) < 1) = false := decide_eq_false (by omega)
  have c2n : decide (m < 1) = false := decide_eq_false (by omega)
  by_cases k3 : m ≤ 12
  rotate_left
  · have HE := Lib.hid (nin (fun h => k3 h.2.2.1))
    have c3 : decide ((12 : Int) < (m : Int)) = true := decide_eq_true (by omega)
    have c3n : decide (12 < m) = true := decide_eq_true (by omega)
    clear nin EV
    go_enter Tryd.func31, Tryd.ntmps31
    go_wp2_with fail
    refine (HA.out _).mono ?_
    rintro e w' ⟨rfl, rfl⟩
    go_wp2_with fail
    refine (HB.out _).mono ?_
    rintro e w' ⟨rfl, rfl⟩
    go_wp2_with fail
    refine (HC.out _).mono ?_
    rintro e w' ⟨rfl, rfl⟩
    go_wp2_with fail
    go_ret2
    exact ⟨ret_di HE.out, rfl⟩
  have c3 : decide ((12 : Int) < (m : Int)) = false := decide_eq_false (by omega)
  have c3n : decide (12 < m) = false := decide_eq_false (by omega)
  by_cases k4 : 1 ≤ o
  rotate_left
  · have HE := Lib.hid (nin (fun h => k4 h.2.2.2.1))
    have c4 : decide ((o : Int) < 1) = true := decide_eq_true (by omega)
    have c4n : decide (o < 1) = true := decide_eq_true (by omega)
    clear nin EV
    go_enter Tryd.func31, Tryd.ntmps31
    go_wp2_with fail
    refine (HA.out _).mono ?_
    rintro e w' ⟨rfl, rfl⟩
    go_wp2_with fail
    refine (HB.out _).mono ?_
    rintro e w' ⟨rfl, rfl⟩
    go_wp2_with fail
    refine (HC.out _).mono ?_
    rintro e w' ⟨rfl, rfl⟩
    go_wp2_with fail
    go_ret2
    exact ⟨ret_di HE.out, rfl⟩
  have c4 : decide ((o : Int) < 1) = false := decide_eq_false (by omega)
  have c4n : decide (o < 1) = false := decide_eq_false (by omega)
  have HL := Lib.hid (length_any y m k2 k3 w HT.out)
  have HD := Lib.hid (dayOf_any y m o k1 (by omega) k2 k3 k4 (by omega) w HT.out)
  have lb := lenM_bd y m
  have EI : inB y m o = (decide (o ≤ lenM y m) && decide (dayV y m o ≤ 1048576)) := by
    unfold inB
    congr 1
    apply decide_eq_decide.2
    exact ⟨fun h => h.2.2.2.2, fun h => ⟨k1, k2, k3, k4, h⟩⟩
  rw [EI] at EV
  obtain ⟨L, hL⟩ : ∃ L, lenM y m = L := ⟨_, rfl⟩
  obtain ⟨V, hV⟩ : ∃ L, dayV y m o = L := ⟨_, rfl⟩
  rw [hL] at EV HL lb
  rw [hV] at EV HD
  clear EI hL hV nin
  by_cases k5 : o ≤ L
  rotate_left
  · have HE : Hid (parseD s = (0, 3)) := Lib.hid (by rw [EV, decide_eq_false k5, Bool.false_and]; rfl)
    have c5 : decide ((L : Int) < (o : Int)) = true := decide_eq_true (by omega)
    have c5n : decide (L < o) = true := decide_eq_true (by omega)
    clear EV
    go_enter Tryd.func31, Tryd.ntmps31
    go_wp2_with fail
    refine (HA.out _).mono ?_
    rintro e w' ⟨rfl, rfl⟩
    go_wp2_with fail
    refine (HB.out _).mono ?_
    rintro e w' ⟨rfl, rfl⟩
    go_wp2_with fail
    refine (HC.out _).mono ?_
    rintro e w' ⟨rfl, rfl⟩
    go_wp2_with fail
    refine (HL.out).mono ?_
    rintro e w' ⟨rfl, rfl⟩
    go_wp2_with fail
    go_ret2
    exact ⟨ret_di HE.out, rfl⟩
  have c5 : decide ((L : Int) < (o : Int)) = false := decide_eq_false (by omega)
  have c5n : decide (L < o) = false := decide_eq_false (by omega)
  have HI := Lib.hid (isDay_any (V : Int) w)
  by_cases k6 : V ≤ 1048576
  · have HE : Hid (parseD s = ((V : Int), 0)) := Lib.hid (by rw [EV, decide_eq_true k5, decide_eq_true k6]; rfl)
    rw [show isDayB (V : Int) = true from decide_eq_true (by omega)] at HI
    clear EV
    go_enter Tryd.func31, Tryd.ntmps31
    go_wp2_with fail
    refine (HA.out _).mono ?_
    rintro e w' ⟨rfl, rfl⟩
    go_wp2_with fail
    refine (HB.out _).mono ?_
    rintro e w' ⟨rfl, rfl⟩
    go_wp2_with fail
    refine (HC.out _).mono ?_
    rintro e w' ⟨rfl, rfl⟩
    go_wp2_with fail
    refine (HL.out).mono ?_
    rintro e w' ⟨rfl, rfl⟩
    go_wp2_with fail
    refine (HD.out).mono ?_
    rintro e w' ⟨rfl, rfl⟩
    go_wp2_with fail
    refine (HI.out).mono ?_
    rintro e w' ⟨rfl, rfl⟩
    go_wp2_with fail
    go_ret2
    exact ⟨ret_di HE.out, rfl⟩
  · have HE : Hid (parseD s = (0, 3)) := Lib.hid (by rw [EV, decide_eq_false k6, Bool.and_false]; rfl)
    rw [show isDayB (V : Int) = false from decide_eq_false (by omega)] at HI
    clear EV
    go_enter Tryd.func31, Tryd.ntmps31
    go_wp2_with fail
    refine (HA.out _).mono ?_
    rintro e w' ⟨rfl, rfl⟩
    go_wp2_with fail
    refine (HB.out _).mono ?_
    rintro e w' ⟨rfl, rfl⟩
    go_wp2_with fail
    refine (HC.out _).mono ?_
    rintro e w' ⟨rfl, rfl⟩
    go_wp2_with fail
    refine (HL.out).mono ?_
    rintro e w' ⟨rfl, rfl⟩
    go_wp2_with fail
    refine (HD.out).mono ?_
    rintro e w' ⟨rfl, rfl⟩
    go_wp2_with fail
    refine (HI.out).mono ?_
    rintro e w' ⟨rfl, rfl⟩
    go_wp2_with fail
    go_ret2
    exact ⟨ret_di HE.out, rfl⟩
end Go.Proofs.YtmgijoomfailoaaDoor.cal
