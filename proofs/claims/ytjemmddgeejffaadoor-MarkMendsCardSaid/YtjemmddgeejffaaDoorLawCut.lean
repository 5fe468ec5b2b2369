/- MarkCut: the law. Condition: the table of powers of ten. -/
import Derived.Test.YtjemmddgeejffaaDoorLawTurns
namespace Go.Proofs.YtjemmddgeejffaaDoor
open Go.RowKit Go.Proofs.YtjemmddgeejffaaDoor.kit Go.PlainAid
set_option linter.unusedVariables false

theorem mend_short (s : ByteArray) (w : World) (h : ¬ s.size = 12) (hs : s.size ≤ 200) :
    Calls Tryd.prog 23 #[.string s] w fun e w' => e = .returned (.slice none 0 0) ∧ Below w.heap.size w w' := by
  have h12' : ((s.size : Int) != 12) = true := by simp; omega
  have h12n : (s.size != 12) = true := by simp; omega
  go_enter Tryd.func23, Tryd.ntmps23
  go_wp2_with fail
  go_ret
  exact ⟨rfl, (Below.refl _ _).alloc (Nat.le_refl _) _⟩
theorem right_size {s : ByteArray} (h : ¬ s.size = 12) : rightB s = false := by unfold rightB; rw [decide_eq_false h]; rfl
theorem sum_congr {s t : ByteArray} (hs : 10 ≤ s.size) (ht : 10 ≤ t.size) (h : ∀ i, i < 10 → bt s i = bt t i) : sumV s = sumV t := by
  unfold sumV headB
  rw [headF_congr h, sumN_congr h, decide_eq_true hs, decide_eq_true ht]
theorem empty_size (r : ByteArray) : r.toList.isEmpty = decide (r.size = 0) := by
  rw [ByteArray.toList_eq, ← len_list]
  cases r.data.toList <;> simp
theorem app_right {s r : ByteArray} (hr : rightB s = true) (hz : s.size = 12) : rightB (s ++ r) = r.toList.isEmpty := by
  rw [empty_size]
  by_cases h : r.size = 0
  · rw [decide_eq_true h]
    have : s ++ r = s := bt_inj (by rw [size_app]; omega) (fun i hi => by rw [size_app] at hi; rw [bt_app, if_pos (by omega)])
    rw [this, hr]
  · rw [decide_eq_false h]
    exact right_size (by rw [size_app]; omega)
theorem cut_sum {s : ByteArray} {k : Nat} (hh : headF s 10 = true) (hz : s.size = 12) (hk : k ≤ 11) : decide (0 ≤ sumV (s.extract 0 k)) = decide (10 ≤ k) := by
  have z : (s.extract 0 k).size = k := by rw [ByteArray.size_extract]; omega
  by_cases h : 10 ≤ k
  · rw [decide_eq_true h]
    refine decide_eq_true (sumV_in ?_)
    unfold headB
    rw [z, decide_eq_true h, Bool.true_and, headF_congr (t := s) (fun i hi => by rw [bt_ext _ _ _ _ (by omega) (by omega), Nat.zero_add]), hh]
  · rw [decide_eq_false h, sumV_out (by unfold headB; rw [z, decide_eq_false h]; rfl)]
    rfl
set_option maxRecDepth 100000 in
set_option maxHeartbeats 6400000 in
theorem cut_in (o r : ByteArray) (n k : Nat) (w : World) (hk : k ≤ 11) (hr50 : r.size ≤ 50) (ho : ownB o = true) (hn : n ≤ 999999) (hs : o.size ≤ maxLen) (ht : PowTab w) :
    Calls Tryd.prog 9 #[.string o, .int .i64 (n : Int), .string r, .int .i64 (k : Int)] w fun e w' => e = .returned (.bool true) ∧ Below w.heap.size w w' := by
  have HZ := Lib.hid hs
  have HT := Lib.hid ht
  have HTB := Lib.hid (Lib.tabBelow_of_tabIs ht)
  clear ht hs
  have HE := Lib.hid (makeE_ok ho hn)
  obtain ⟨M, hM⟩ : ∃ M, makeV o n = M := ⟨_, rfl⟩
  have hz : M.size = 12 := by rw [← hM]; exact mk_size ho hn
  have hr : rightB M = true := by rw [← hM]; exact mk_right ho hn
  have hh : headF M 10 = true := by unfold rightB at hr; simp at hr; exact hr.2.1
  rw [hM] at HE
  have zk : (M.extract 0 k).size = k := by rw [ByteArray.size_extract]; omega
  have zr : (M ++ r).size = 12 + r.size := by rw [size_app, hz]
  have HR1 := Lib.hid (fun w => right_any (M.extract 0 k) w (by unfold maxLen; omega))
  have HR2 := Lib.hid (fun w => right_any (M ++ r) w (by unfold maxLen; omega))
  have HS1 := Lib.hid (fun w => sum_any (M ++ r) w (by unfold maxLen; omega))
  have HS2 := Lib.hid (fun w => sum_any M w (by unfold maxLen; omega))
  have HS3 := Lib.hid (fun w => sum_any (M.extract 0 k) w (by unfold maxLen; omega))
  have HM := Lib.hid (fun w => mend_short (M.extract 0 k) w (by omega) (by omega))
  rw [right_size (by omega)] at HR1
  rw [app_right hr hz] at HR2
  rw [sum_congr (s := M ++ r) (t := M) (by omega) (by omega) (fun i hi => by rw [bt_app, if_pos (by omega)])] at HS1
  have hc := cut_sum hh hz hk
  obtain ⟨V, hV⟩ : ∃ V, sumV (M.extract 0 k) = V := ⟨_, rfl⟩
  rw [hV] at HS3 hc
  have hq := sumV_bd M
  have hq0 := sumV_in (s := M) (by unfold headB; rw [hh, decide_eq_true (by omega)]; rfl)
  obtain ⟨q, hqv⟩ : ∃ V, sumV M = V := ⟨_, rfl⟩
  rw [hqv] at HS1 HS2 hq hq0
  obtain ⟨X, hX⟩ : ∃ X, decide (10 ≤ k) = X := ⟨_, rfl⟩
  rw [hX] at hc
  have x1 : decide ((10 : Int) ≤ (k : Int)) = X := by rw [← hX, decide_eq_decide]; omega
  have x2 : decide (10 ≤ k) = X := hX
  obtain ⟨E, hE⟩ : ∃ X, r.toList.isEmpty = X := ⟨_, rfl⟩
  rw [hE] at HR2
  have q1 : decide (q < 0) = false := decide_eq_false (by omega)
  have q2 : decide (96 < q) = false := decide_eq_false (by omega)
  have k0 : decide ((k : Int) < 0) = false := decide_eq_false (by omega)
  have k1 : decide ((11 : Int) < (k : Int)) = false := decide_eq_false (by omega)
  have k1n : decide (11 < k) = false := decide_eq_false (by omega)
  have k2 : (k : Int) ≤ 12 := by omega
  have r0 : decide ((50 : Int) < (r.size : Int)) = false := decide_eq_false (by omega)
  have r0n : decide (50 < r.size) = false := decide_eq_false (by omega)
  have rs : r.size ≤ 50 := hr50
  clear hM ho hr hh hV hqv hX
  go_enter Tryd.func9, Tryd.ntmps9
  go_wp2_with fail
  refine (awake_any _ HT.out).mono ?_
  rintro e w1 ⟨rfl, hb1⟩
  have HB1 := Lib.hid hb1
  clear hb1
  go_wp2_with fail
  refine (make_any o _ _ HZ.out (HTB.out.on HB1.out).here).mono ?_
  rw [HE.out]
  rintro e w2 ⟨rfl, hb2⟩
  have HB2 := Lib.hid (HB1.out.trans (hb2.mono HB1.out.size))
  clear hb2
  go_wp2_with fail
  refine (HR1.out _).mono ?_
  rintro e w3 ⟨rfl, hb3⟩
  have HB3 := Lib.hid (HB2.out.trans (hb3.mono HB2.out.size))
  clear hb3
  go_wp2_with fail
  refine (HR2.out _).mono ?_
  rintro e w4 ⟨rfl, hb4⟩
  have HB4 := Lib.hid (HB3.out.trans (hb4.mono HB3.out.size))
  clear hb4
  go_wp2_with fail
  refine (HS1.out _).mono ?_
  rintro e w' ⟨rfl, rfl⟩
  go_wp2_with fail
  refine (HS2.out _).mono ?_
  rintro e w' ⟨rfl, rfl⟩
  go_wp2_with fail
  refine (HS2.out _).mono ?_
  rintro e w' ⟨rfl, rfl⟩
  go_wp2_with fail
  refine (HS2.out _).mono ?_
  rintro e w' ⟨rfl, rfl⟩
  go_wp2_with fail
  refine (HS3.out _).mono ?_
  rintro e w' ⟨rfl, rfl⟩
  go_wp2_with fail
  refine (HM.out _).mono ?_
  rintro e w5 ⟨rfl, hb5⟩
  have HB5 := Lib.hid (HB4.out.trans (hb5.mono HB4.out.size))
  clear hb5
  go_wp2_with fail
  go_ret
  exact ⟨ret_bool (by simp), HB5.out⟩
set_option maxRecDepth 100000 in
set_option maxHeartbeats 3200000 in
theorem markCut_walk (o r : ByteArray) (n c : Int) (w : World) (hs : o.size ≤ maxLen) (hrs : r.size ≤ maxLen) (ht : PowTab w) :
    Calls Tryd.prog 9 #[.string o, .int .i64 n, .string r, .int .i64 c] w fun e w' => e = .returned (.bool true) ∧ Below w.heap.size w w' := by
  by_cases hA : ownB o = true ∧ 0 ≤ n ∧ n ≤ 999999
  rotate_left
  · have HZ := Lib.hid hs
    have HT := Lib.hid ht
    have HTB := Lib.hid (Lib.tabBelow_of_tabIs ht)
    clear ht hs
    obtain ⟨f, hf, hf0⟩ := makeE_bad hA
    have HE := Lib.hid hf
    have c1 : (f != 0) = true := by simpa using hf0
    have c2 : (f == 0) = false := by simpa using hf0
    clear hA hf
    go_enter Tryd.func9, Tryd.ntmps9
    go_wp2_with fail
    refine (awake_any _ HT.out).mono ?_
    rintro e w1 ⟨rfl, hb1⟩
    have HB1 := Lib.hid hb1
    clear hb1
    go_wp2_with fail
    refine (make_any o _ _ HZ.out (HTB.out.on HB1.out).here).mono ?_
    rw [HE.out]
    rintro e w2 ⟨rfl, hb2⟩
    have HB2 := Lib.hid (HB1.out.trans (hb2.mono HB1.out.size))
    clear hb2
    go_wp2_with fail
    go_ret
    exact ⟨rfl, HB2.out⟩
  obtain ⟨m, rfl⟩ : ∃ m : Nat, n = m := ⟨n.toNat, by omega⟩
  have hm : m ≤ 999999 := by omega
  by_cases h50 : 50 < r.size
  · have HZ := Lib.hid hs
    have HT := Lib.hid ht
    have HTB := Lib.hid (Lib.tabBelow_of_tabIs ht)
    clear ht hs
    have HE := Lib.hid (makeE_ok hA.1 hm)
    have r0 : decide ((50 : Int) < (r.size : Int)) = true := decide_eq_true (by omega)
    have r0n : decide (50 < r.size) = true := decide_eq_true h50
    unfold maxLen at hrs
    clear hA
    go_enter Tryd.func9, Tryd.ntmps9
    go_wp2_with fail
    refine (awake_any _ HT.out).mono ?_
    rintro e w1 ⟨rfl, hb1⟩
    have HB1 := Lib.hid hb1
    clear hb1
    go_wp2_with fail
    refine (make_any o _ _ HZ.out (HTB.out.on HB1.out).here).mono ?_
    rw [HE.out]
    rintro e w2 ⟨rfl, hb2⟩
    have HB2 := Lib.hid (HB1.out.trans (hb2.mono HB1.out.size))
    clear hb2
    go_wp2_with fail
    go_ret
    exact ⟨rfl, HB2.out⟩
  by_cases hk : 0 ≤ c ∧ c ≤ 11
  · obtain ⟨k, rfl⟩ : ∃ m : Nat, c = m := ⟨c.toNat, by omega⟩
    exact cut_in o r m k w (by omega) (by omega) hA.1 hm hs ht
  · have HZ := Lib.hid hs
    have HT := Lib.hid ht
    have HTB := Lib.hid (Lib.tabBelow_of_tabIs ht)
    clear ht hs
    have HE := Lib.hid (makeE_ok hA.1 hm)
    have r0 : decide ((50 : Int) < (r.size : Int)) = false := decide_eq_false (by omega)
    have r0n : decide (50 < r.size) = false := decide_eq_false h50
    by_cases c0 : c < 0
    · have d0 : decide (c < 0) = true := decide_eq_true c0
      clear hA hk
      go_enter Tryd.func9, Tryd.ntmps9
      go_wp2_with fail
      refine (awake_any _ HT.out).mono ?_
      rintro e w1 ⟨rfl, hb1⟩
      have HB1 := Lib.hid hb1
      clear hb1
      go_wp2_with fail
      refine (make_any o _ _ HZ.out (HTB.out.on HB1.out).here).mono ?_
      rw [HE.out]
      rintro e w2 ⟨rfl, hb2⟩
      have HB2 := Lib.hid (HB1.out.trans (hb2.mono HB1.out.size))
      clear hb2
      go_wp2_with fail
      go_ret
      exact ⟨rfl, HB2.out⟩
    · have d0 : decide (c < 0) = false := decide_eq_false c0
      have d1 : decide (11 < c) = true := decide_eq_true (by omega)
      clear hA hk
      go_enter Tryd.func9, Tryd.ntmps9
      go_wp2_with fail
      refine (awake_any _ HT.out).mono ?_
      rintro e w1 ⟨rfl, hb1⟩
      have HB1 := Lib.hid hb1
      clear hb1
      go_wp2_with fail
      refine (make_any o _ _ HZ.out (HTB.out.on HB1.out).here).mono ?_
      rw [HE.out]
      rintro e w2 ⟨rfl, hb2⟩
      have HB2 := Lib.hid (HB1.out.trans (hb2.mono HB1.out.size))
      clear hb2
      go_wp2_with fail
      go_ret
      exact ⟨rfl, HB2.out⟩
end Go.Proofs.YtjemmddgeejffaaDoor
