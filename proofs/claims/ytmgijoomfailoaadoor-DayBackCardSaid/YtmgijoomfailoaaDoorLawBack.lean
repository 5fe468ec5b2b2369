/- DayBack: the law. Conditions: the tables of powers of ten and of the months. -/
import Derived.Test.YtmgijoomfailoaaDoorLawBetween
namespace Go.Proofs.YtmgijoomfailoaaDoor
open Go.RowKit Go.Proofs.YtmgijoomfailoaaDoor.kit Go.Proofs.YtmgijoomfailoaaDoor.cal
set_option linter.unusedVariables false

/-! there and back, in plain words -/
theorem cnt_one (c : Cal) (a : Int) (k : Nat) : cntF c a (k + 1) = (if restB c a then 0 else 1) + cntF c (a + 1) k := by
  have h := cnt_split c a 1 k
  rw [Nat.add_comm 1 k] at h
  rw [h]
  have h1 : cntF c a 1 = (if restB c a then 0 else 1) := by
    rw [show (1 : Nat) = 0 + 1 from rfl, cntF, cntF]
    simp
  rw [h1]
  rfl
/-- Where the n-th day that is worked on lies: so many are worked on up to it, and it is one. -/
theorem up_at {c : Cal} : ∀ (k : Nat) (n t : Int), k ≤ 1048577 → 1 ≤ n → upF c k n = (t, true) → (1048577 : Int) - k ≤ t ∧ t ≤ 1048576 ∧ restB c t = false ∧ cntF c (1048577 - k) (t - (1048577 - (k : Int))).toNat = n - 1
  | 0, n, t, _, _, h => by simp [upF] at h
  | k + 1, n, t, hk, hn, h => by
    rw [upF] at h
    have ed : (1048577 : Int) - ((k + 1 : Nat) : Int) = 1048576 - k := by omega
    rw [ed]
    cases hr : restB c (1048576 - (k : Int))
    · rw [hr] at h
      simp only [Bool.false_eq_true, if_false] at h
      by_cases h1 : 0 < n - 1
      · rw [if_pos h1] at h
        obtain ⟨i1, i2, i3, i4⟩ := up_at k (n - 1) t (by omega) (by omega) h
        refine ⟨by omega, i2, i3, ?_⟩
        rw [show (t - (1048576 - (k : Int))).toNat = (t - (1048577 - (k : Int))).toNat + 1 by omega, cnt_one, hr, show (1048576 - (k : Int)) + 1 = 1048577 - k by omega, i4]
        simp
        omega
      · rw [if_neg h1] at h
        have ht : t = 1048576 - (k : Int) := ((Prod.mk.inj h).1).symm
        subst ht
        refine ⟨by omega, by omega, hr, ?_⟩
        rw [show ((1048576 - (k : Int)) - (1048576 - (k : Int))).toNat = 0 by omega]
        simp [cntF]
        omega
    · rw [hr] at h
      simp only [if_true] at h
      rw [if_pos (by omega)] at h
      obtain ⟨i1, i2, i3, i4⟩ := up_at k n t (by omega) hn h
      refine ⟨by omega, i2, i3, ?_⟩
      rw [show (t - (1048576 - (k : Int))).toNat = (t - (1048577 - (k : Int))).toNat + 1 by omega, cnt_one, hr, show (1048576 - (k : Int)) + 1 = 1048577 - k by omega, i4]
      simp
/-- Back: if so many are worked on from d on up to the day, and d is one, it is d. -/
theorem dn_at {c : Cal} {d : Int} (h0 : 0 ≤ d) (hd : restB c d = false) : ∀ (k : Nat) (n : Int), d < k → 1 ≤ n → cntF c d ((k : Int) - d).toNat = n → dnF c k n = (d, true)
  | 0, n, hk, _, _ => by omega
  | k + 1, n, hk, hn, h => by
    rw [dnF]
    have e1 : (((k + 1 : Nat) : Int) - d).toNat = ((k : Int) - d).toNat + 1 := by omega
    rw [e1, cntF, show d + ((((k : Int) - d).toNat : Nat) : Int) = k by omega] at h
    by_cases hkd : (k : Int) = d
    · rw [hkd] at h ⊢
      rw [hd] at h ⊢
      rw [show (d - d).toNat = 0 by omega] at h
      simp [cntF] at h
      simp only [Bool.false_eq_true, if_false]
      rw [if_neg (by omega)]
    · cases hr : restB c k
      · rw [hr] at h
        simp only [Bool.false_eq_true, if_false] at h ⊢
        have hb : 1 ≤ cntF c d ((k : Int) - d).toNat := by
          rw [show ((k : Int) - d).toNat = (((k : Int) - d).toNat - 1) + 1 by omega, cnt_one, hd]
          have := (cnt_bd c (d + 1) (((k : Int) - d).toNat - 1)).1
          simp
          omega
        rw [if_pos (by omega)]
        exact dn_at h0 hd k (n - 1) (by omega) (by omega) (by omega)
      · rw [hr] at h
        simp only [if_true] at h ⊢
        rw [if_pos (by omega)]
        exact dn_at h0 hd k n (by omega) hn (by omega)
theorem back_all {c : Cal} {d n t : Int} (hw : worksB c d = true) (hn : 1 ≤ n ∧ n ≤ 300) (h : addW c d n = (t, true)) :
    d < t ∧ t ≤ 1048576 ∧ addW c t (-n) = (d, true) ∧ (isDayB t && restB c t) = false ∧ betweenV c d t = n ∧ betweenV c (d + 1) (t + 1) = n := by
  unfold worksB at hw
  simp only [Bool.and_eq_true, Bool.not_eq_true'] at hw
  obtain ⟨hd, hr⟩ := hw
  obtain ⟨d0, d1⟩ : 0 ≤ d ∧ d ≤ 1048576 := by simpa [isDayB] using hd
  unfold addW at h
  rw [hd, if_pos ⟨rfl, by omega, by omega⟩, if_pos (by omega)] at h
  obtain ⟨i1, i2, i3, i4⟩ := up_at _ n t (by omega) hn.1 h
  have ek : (1048577 : Int) - (((1048577 - (d + 1)).toNat : Nat) : Int) = d + 1 := by omega
  rw [ek] at i1 i4
  have b2 : betweenV c (d + 1) (t + 1) = n := by
    unfold betweenV
    rw [show max (d + 1) 0 = d + 1 by omega, show min (t + 1) 1048577 = t + 1 by omega, show (t + 1 - (d + 1)).toNat = (t - (d + 1)).toNat + 1 by omega, cntF, i4, show d + 1 + (((t - (d + 1)).toNat : Nat) : Int) = t by omega, i3]
    simp
  have b1 : betweenV c d t = n := by
    unfold betweenV
    rw [show max d 0 = d by omega, show min t 1048577 = t by omega, show (t - d).toNat = (t - (d + 1)).toNat + 1 by omega, cnt_one, hr, i4]
    simp
    omega
  refine ⟨by omega, i2, ?_, by rw [i3, Bool.and_false], b1, b2⟩
  unfold addW
  rw [show isDayB t = true from decide_eq_true (by omega), if_pos ⟨rfl, by omega, by omega⟩, if_neg (by omega), if_pos (by omega), Int.neg_neg]
  refine dn_at d0 hr _ n (by omega) hn.1 ?_
  rw [← b1]
  unfold betweenV
  rw [show max d 0 = d by omega, show min t 1048577 = t by omega]
  congr 1
  omega
theorem add_no {c : Cal} {d n t : Int} (h : addW c d n = (t, false)) : t = 0 := by
  have hup : ∀ (k : Nat) (n : Int), (upF c k n).2 = false → (upF c k n).1 = 0 := by
    intro k
    induction k with
    | zero => intro n _; rfl
    | succ k ih =>
      intro n h
      rw [upF] at h ⊢
      generalize (if restB c (1048576 - (k : Int)) = true then n else n - 1) = q at h ⊢
      by_cases hq : 0 < q
      · rw [if_pos hq] at h ⊢; exact ih _ h
      · rw [if_neg hq] at h; exact absurd h (by simp)
  have hdn : ∀ (k : Nat) (n : Int), (dnF c k n).2 = false → (dnF c k n).1 = 0 := by
    intro k
    induction k with
    | zero => intro n _; rfl
    | succ k ih =>
      intro n h
      rw [dnF] at h ⊢
      generalize (if restB c (k : Int) = true then n else n - 1) = q at h ⊢
      by_cases hq : 0 < q
      · rw [if_pos hq] at h ⊢; exact ih _ h
      · rw [if_neg hq] at h; exact absurd h (by simp)
  have h1 : (addW c d n).2 = false → (addW c d n).1 = 0 := by
    unfold addW
    split
    · split
      · exact hup _ _
      · split
        · exact hdn _ _
        · unfold nextV
          split
          · exact hup _ _
          · intro _; rfl
    · intro _; rfl
  rw [h] at h1
  exact h1 rfl
set_option maxRecDepth 100000 in
set_option maxHeartbeats 1600000 in
theorem dayBack_walk (c : Cal) (A1 : Option Addr) (n1 c1 : Nat) (A2 : Option Addr) (n2 c2 : Nat) (d n : Int) (hd : I64 d) (hn : I64 n) (w : World) (h1 : SliceOf w 1 intC A1 n1 c.rest) (h2 : SliceOf w 1 intC A2 n2 c.hol) (m1 : n1 ≤ maxLen) (m2 : n2 ≤ maxLen) (ht : MonTab w) (hp : PowTab w) :
    Calls Tryd.prog 7 #[.agg #[.slice A1 n1 c1, .slice A2 n2 c2], .int .i64 d, .int .i64 n] w fun e w' => e = .returned (.bool true) ∧ Below w.heap.size w w' := by
  have HT := Lib.hid (Lib.tabBelow_of_tabIs ht)
  have HP := Lib.hid (Lib.tabBelow_of_tabIs hp)
  have HA := Lib.hid (fun w h1 h2 => awake_any w h1 h2)
  have HV := Lib.hid (fun w => heavy_any c A1 n1 c1 A2 n2 c2 w m1 m2)
  have HW := Lib.hid (fun (w : World) (h1 : SliceOf w 1 intC A1 n1 c.rest) (h2 : SliceOf w 1 intC A2 n2 c.hol) (m1 : n1 ≤ maxLen) (m2 : n2 ≤ maxLen) => rworks_any c A1 n1 c1 A2 n2 c2 d w h1 h2 m1 m2)
  have HD := Lib.hid (fun d n (w : World) (h1 : SliceOf w 1 intC A1 n1 c.rest) (h2 : SliceOf w 1 intC A2 n2 c.hol) (m1 : n1 ≤ maxLen) (m2 : n2 ≤ maxLen) => add_any c A1 n1 c1 A2 n2 c2 d n w h1 h2 m1 m2)
  have HR := Lib.hid (fun d (w : World) (h1 : SliceOf w 1 intC A1 n1 c.rest) (h2 : SliceOf w 1 intC A2 n2 c.hol) (m1 : n1 ≤ maxLen) (m2 : n2 ≤ maxLen) => rests_any c A1 n1 c1 A2 n2 c2 d w h1 h2 m1 m2)
  have HX := Lib.hid (fun a b (w : World) (h1 : SliceOf w 1 intC A1 n1 c.rest) (h2 : SliceOf w 1 intC A2 n2 c.hol) (m1 : n1 ≤ maxLen) (m2 : n2 ≤ maxLen) => between_any c A1 n1 c1 A2 n2 c2 a b w h1 h2 m1 m2)
  have H1 := Lib.hid h1
  have H2 := Lib.hid h2
  have l1 := h1.len
  have l2 := h2.len
  clear h1 h2
  have hB0 : Below w.heap.size w (w.alloc (.cells #[.slice A1 n1 c1, .slice A2 n2 c2] 31)) := (Below.refl _ _).alloc (Nat.le_refl _) _
  have hk0 : Blk (w.alloc (.cells #[.slice A1 n1 c1, .slice A2 n2 c2] 31)) w.heap.size 31 #[.slice A1 n1 c1, .slice A2 n2 c2] := Blk.new _ _ _
  have a0 := hk0.cell 0; have a1 := hk0.cell 1
  simp only [List.getElem?_toArray, List.getElem?_cons_zero, List.getElem?_cons_succ] at a0 a1
  clear ht hp
  unfold I64 at hd hn
  obtain ⟨hv, ehv⟩ : ∃ b, (decide (20 < n1) || decide (60 < n2)) = b := ⟨_, rfl⟩
  rw [ehv] at HV
  clear ehv
  cases hv
  rotate_left
  · clear HW HD HR HX
    go_enter Tryd.func7, Tryd.ntmps7
    go_wp2_with fail
    refine (HA.out _ (HT.out.on hB0).here (HP.out.on hB0).here).mono ?_
    rintro e w1 ⟨rfl, hb1⟩
    clear a0 a1
    have hB1 := hB0.trans (hb1.mono hB0.size)
    have hk1 := hk0.below hb1 hk0.lt
    clear hB0 hk0 hb1
    have a0 := hk1.cell 0; have a1 := hk1.cell 1; simp only [List.getElem?_toArray, List.getElem?_cons_zero, List.getElem?_cons_succ] at a0 a1
    go_wp2_with fail
    refine (HV.out _).mono ?_
    rintro e w2 ⟨rfl, hb2⟩
    clear a0 a1
    have hB2 := hB1.trans (hb2.mono hB1.size)
    have hk2 := hk1.below hb2 hk1.lt
    clear hB1 hk1 hb2
    have a0 := hk2.cell 0; have a1 := hk2.cell 1; simp only [List.getElem?_toArray, List.getElem?_cons_zero, List.getElem?_cons_succ] at a0 a1
    go_wp2_with fail
    go_ret
    exact ⟨rfl, hB2⟩
  by_cases k1 : n < 1
  · have t1 : decide (n < 1) = true := decide_eq_true k1
    clear HW HD HR HX
    go_enter Tryd.func7, Tryd.ntmps7
    go_wp2_with fail
    refine (HA.out _ (HT.out.on hB0).here (HP.out.on hB0).here).mono ?_
    rintro e w1 ⟨rfl, hb1⟩
    clear a0 a1
    have hB1 := hB0.trans (hb1.mono hB0.size)
    have hk1 := hk0.below hb1 hk0.lt
    clear hB0 hk0 hb1
    have a0 := hk1.cell 0; have a1 := hk1.cell 1; simp only [List.getElem?_toArray, List.getElem?_cons_zero, List.getElem?_cons_succ] at a0 a1
    go_wp2_with fail
    refine (HV.out _).mono ?_
    rintro e w2 ⟨rfl, hb2⟩
    clear a0 a1
    have hB2 := hB1.trans (hb2.mono hB1.size)
    have hk2 := hk1.below hb2 hk1.lt
    clear hB1 hk1 hb2
    have a0 := hk2.cell 0; have a1 := hk2.cell 1; simp only [List.getElem?_toArray, List.getElem?_cons_zero, List.getElem?_cons_succ] at a0 a1
    go_wp2_with fail
    go_ret
    exact ⟨rfl, hB2⟩
  have t1 : decide (n < 1) = false := decide_eq_false k1
  by_cases k2 : 300 < n
  · have t2 : decide (300 < n) = true := decide_eq_true k2
    clear HW HD HR HX
    go_enter Tryd.func7, Tryd.ntmps7
    go_wp2_with fail
    refine (HA.out _ (HT.out.on hB0).here (HP.out.on hB0).here).mono ?_
    rintro e w1 ⟨rfl, hb1⟩
    clear a0 a1
    have hB1 := hB0.trans (hb1.mono hB0.size)
    have hk1 := hk0.below hb1 hk0.lt
    clear hB0 hk0 hb1
    have a0 := hk1.cell 0; have a1 := hk1.cell 1; simp only [List.getElem?_toArray, List.getElem?_cons_zero, List.getElem?_cons_succ] at a0 a1
    go_wp2_with fail
    refine (HV.out _).mono ?_
    rintro e w2 ⟨rfl, hb2⟩
    clear a0 a1
    have hB2 := hB1.trans (hb2.mono hB1.size)
    have hk2 := hk1.below hb2 hk1.lt
    clear hB1 hk1 hb2
    have a0 := hk2.cell 0; have a1 := hk2.cell 1; simp only [List.getElem?_toArray, List.getElem?_cons_zero, List.getElem?_cons_succ] at a0 a1
    go_wp2_with fail
    go_ret
    exact ⟨rfl, hB2⟩
  have t2 : decide (300 < n) = false := decide_eq_false k2
  cases hw : worksB c d
  · rw [hw] at HW
    clear hw HD HR HX
    go_enter Tryd.func7, Tryd.ntmps7
    go_wp2_with fail
    refine (HA.out _ (HT.out.on hB0).here (HP.out.on hB0).here).mono ?_
    rintro e w1 ⟨rfl, hb1⟩
    clear a0 a1
    have hB1 := hB0.trans (hb1.mono hB0.size)
    have hk1 := hk0.below hb1 hk0.lt
    clear hB0 hk0 hb1
    have a0 := hk1.cell 0; have a1 := hk1.cell 1; simp only [List.getElem?_toArray, List.getElem?_cons_zero, List.getElem?_cons_succ] at a0 a1
    go_wp2_with fail
    refine (HV.out _).mono ?_
    rintro e w2 ⟨rfl, hb2⟩
    clear a0 a1
    have hB2 := hB1.trans (hb2.mono hB1.size)
    have hk2 := hk1.below hb2 hk1.lt
    clear hB1 hk1 hb2
    have a0 := hk2.cell 0; have a1 := hk2.cell 1; simp only [List.getElem?_toArray, List.getElem?_cons_zero, List.getElem?_cons_succ] at a0 a1
    go_wp2_with fail
    refine (HW.out _ (H1.out.below hB2) (H2.out.below hB2) m1 m2).mono ?_
    rintro e w3 ⟨rfl, hb3⟩
    clear a0 a1
    have hB3 := hB2.trans (hb3.mono hB2.size)
    have hk3 := hk2.below hb3 hk2.lt
    clear hB2 hk2 hb3
    have a0 := hk3.cell 0; have a1 := hk3.cell 1; simp only [List.getElem?_toArray, List.getElem?_cons_zero, List.getElem?_cons_succ] at a0 a1
    go_wp2_with fail
    go_ret
    exact ⟨rfl, hB3⟩
  have hall := fun t (h : addW c d n = (t, true)) => back_all hw ⟨by omega, by omega⟩ h
  have hd01 : 0 ≤ d ∧ d ≤ 1048576 := by
    unfold worksB at hw
    simp only [Bool.and_eq_true] at hw
    simpa [isDayB] using hw.1
  rw [hw] at HW
  have HD1 := Lib.hid (HD.out d n)
  have s1 : wrap64 (-n) = -n := by unfold wrap64; omega
  obtain ⟨⟨t, ok⟩, ev⟩ : ∃ v, addW c d n = v := ⟨_, rfl⟩
  rw [ev] at HD1 hall
  cases ok
  · have t0 := add_no ev
    subst t0
    simp only [] at HD1
    clear hall ev hw HD HR HX hd hn
    go_enter Tryd.func7, Tryd.ntmps7
    go_wp2_with fail
    refine (HA.out _ (HT.out.on hB0).here (HP.out.on hB0).here).mono ?_
    rintro e w1 ⟨rfl, hb1⟩
    clear a0 a1
    have hB1 := hB0.trans (hb1.mono hB0.size)
    have hk1 := hk0.below hb1 hk0.lt
    clear hB0 hk0 hb1
    have a0 := hk1.cell 0; have a1 := hk1.cell 1; simp only [List.getElem?_toArray, List.getElem?_cons_zero, List.getElem?_cons_succ] at a0 a1
    go_wp2_with fail
    refine (HV.out _).mono ?_
    rintro e w2 ⟨rfl, hb2⟩
    clear a0 a1
    have hB2 := hB1.trans (hb2.mono hB1.size)
    have hk2 := hk1.below hb2 hk1.lt
    clear hB1 hk1 hb2
    have a0 := hk2.cell 0; have a1 := hk2.cell 1; simp only [List.getElem?_toArray, List.getElem?_cons_zero, List.getElem?_cons_succ] at a0 a1
    go_wp2_with fail
    refine (HW.out _ (H1.out.below hB2) (H2.out.below hB2) m1 m2).mono ?_
    rintro e w3 ⟨rfl, hb3⟩
    clear a0 a1
    have hB3 := hB2.trans (hb3.mono hB2.size)
    have hk3 := hk2.below hb3 hk2.lt
    clear hB2 hk2 hb3
    have a0 := hk3.cell 0; have a1 := hk3.cell 1; simp only [List.getElem?_toArray, List.getElem?_cons_zero, List.getElem?_cons_succ] at a0 a1
    go_wp2_with fail
    refine (HD1.out _ (H1.out.below hB3) (H2.out.below hB3) m1 m2).mono ?_
    rintro e w4 ⟨rfl, hb4⟩
    clear a0 a1
    have hB4 := hB3.trans (hb4.mono hB3.size)
    have hk4 := hk3.below hb4 hk3.lt
    clear hB3 hk3 hb4
    have a0 := hk4.cell 0; have a1 := hk4.cell 1; simp only [List.getElem?_toArray, List.getElem?_cons_zero, List.getElem?_cons_succ] at a0 a1
    go_wp2_with fail
    go_ret
    exact ⟨rfl, hB4⟩
  · obtain ⟨i1, i2, i3, i4, i5, i6⟩ := hall t rfl
    have HD2 := Lib.hid (HD.out t (-n))
    have HR2 := Lib.hid (HR.out t)
    have HX2 := Lib.hid (HX.out d t)
    have HX3 := Lib.hid (HX.out (d + 1) (t + 1))
    rw [i3] at HD2
    rw [i4] at HR2
    rw [i5] at HX2
    rw [i6] at HX3
    simp only [] at HD1 HD2
    have t3 : decide (d < t) = true := decide_eq_true i1
    clear hall ev hw HD HR HX hd hn i3 i4 i5 i6
    go_enter Tryd.func7, Tryd.ntmps7
    go_wp2_with fail
    refine (HA.out _ (HT.out.on hB0).here (HP.out.on hB0).here).mono ?_
    rintro e w1 ⟨rfl, hb1⟩
    clear a0 a1
    have hB1 := hB0.trans (hb1.mono hB0.size)
    have hk1 := hk0.below hb1 hk0.lt
    clear hB0 hk0 hb1
    have a0 := hk1.cell 0; have a1 := hk1.cell 1; simp only [List.getElem?_toArray, List.getElem?_cons_zero, List.getElem?_cons_succ] at a0 a1
    go_wp2_with fail
    refine (HV.out _).mono ?_
    rintro e w2 ⟨rfl, hb2⟩
    clear a0 a1
    have hB2 := hB1.trans (hb2.mono hB1.size)
    have hk2 := hk1.below hb2 hk1.lt
    clear hB1 hk1 hb2
    have a0 := hk2.cell 0; have a1 := hk2.cell 1; simp only [List.getElem?_toArray, List.getElem?_cons_zero, List.getElem?_cons_succ] at a0 a1
    go_wp2_with fail
    refine (HW.out _ (H1.out.below hB2) (H2.out.below hB2) m1 m2).mono ?_
    rintro e w3 ⟨rfl, hb3⟩
    clear a0 a1
    have hB3 := hB2.trans (hb3.mono hB2.size)
    have hk3 := hk2.below hb3 hk2.lt
    clear hB2 hk2 hb3
    have a0 := hk3.cell 0; have a1 := hk3.cell 1; simp only [List.getElem?_toArray, List.getElem?_cons_zero, List.getElem?_cons_succ] at a0 a1
    go_wp2_with fail
    refine (HD1.out _ (H1.out.below hB3) (H2.out.below hB3) m1 m2).mono ?_
    rintro e w4 ⟨rfl, hb4⟩
    clear a0 a1
    have hB4 := hB3.trans (hb4.mono hB3.size)
    have hk4 := hk3.below hb4 hk3.lt
    clear hB3 hk3 hb4
    have a0 := hk4.cell 0; have a1 := hk4.cell 1; simp only [List.getElem?_toArray, List.getElem?_cons_zero, List.getElem?_cons_succ] at a0 a1
    go_wp2_with fail
    refine (HD2.out _ (H1.out.below hB4) (H2.out.below hB4) m1 m2).mono ?_
    rintro e w5 ⟨rfl, hb5⟩
    clear a0 a1
    have hB5 := hB4.trans (hb5.mono hB4.size)
    have hk5 := hk4.below hb5 hk4.lt
    clear hB4 hk4 hb5
    have a0 := hk5.cell 0; have a1 := hk5.cell 1; simp only [List.getElem?_toArray, List.getElem?_cons_zero, List.getElem?_cons_succ] at a0 a1
    go_wp2_with fail
    refine (HR2.out _ (H1.out.below hB5) (H2.out.below hB5) m1 m2).mono ?_
    rintro e w6 ⟨rfl, hb6⟩
    clear a0 a1
    have hB6 := hB5.trans (hb6.mono hB5.size)
    have hk6 := hk5.below hb6 hk5.lt
    clear hB5 hk5 hb6
    have a0 := hk6.cell 0; have a1 := hk6.cell 1; simp only [List.getElem?_toArray, List.getElem?_cons_zero, List.getElem?_cons_succ] at a0 a1
    go_wp2_with fail
    refine (HX2.out _ (H1.out.below hB6) (H2.out.below hB6) m1 m2).mono ?_
    rintro e w7 ⟨rfl, hb7⟩
    clear a0 a1
    have hB7 := hB6.trans (hb7.mono hB6.size)
    have hk7 := hk6.below hb7 hk6.lt
    clear hB6 hk6 hb7
    have a0 := hk7.cell 0; have a1 := hk7.cell 1; simp only [List.getElem?_toArray, List.getElem?_cons_zero, List.getElem?_cons_succ] at a0 a1
    go_wp2_with fail
    refine (HX3.out _ (H1.out.below hB7) (H2.out.below hB7) m1 m2).mono ?_
    rintro e w8 ⟨rfl, hb8⟩
    clear a0 a1
    have hB8 := hB7.trans (hb8.mono hB7.size)
    have hk8 := hk7.below hb8 hk7.lt
    clear hB7 hk7 hb8
    have a0 := hk8.cell 0; have a1 := hk8.cell 1; simp only [List.getElem?_toArray, List.getElem?_cons_zero, List.getElem?_cons_succ] at a0 a1
    go_wp2_with fail
    go_ret
    exact ⟨ret_bool (by simp), hB8⟩
end Go.Proofs.YtmgijoomfailoaaDoor
