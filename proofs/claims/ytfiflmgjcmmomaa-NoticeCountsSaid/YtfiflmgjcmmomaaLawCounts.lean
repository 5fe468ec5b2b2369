/- NoticeCounts: from the day of presentation on five days are left; each banking day one less, each other day as many; then the bank is precluded. No condition. -/
import Derived.Test.YtfiflmgjcmmomaaNotC
namespace Go.Proofs.Ytfiflmgjcmmomaa
open Go.RowKit Go.Proofs.Ytfiflmgjcmmomaa.kit Go.Proofs.Ytfiflmgjcmmomaa.cal
set_option linter.unusedVariables false

theorem up_cnt (c : Cal) : ∀ (k : Nat) (n : Int), k ≤ 1048577 → 1 ≤ n → (upF c k n).2 = true → cntF c (1048577 - k) ((upF c k n).1 - (1048577 - k) + 1).toNat = n
  | 0, _, _, _, h => by simp [upF] at h
  | k + 1, n, hk, hn, h => by
    have hd : (1048577 : Int) - ((k + 1 : Nat) : Int) = 1048576 - k := by omega
    rw [hd]
    rw [upF] at h ⊢
    by_cases hc : 0 < (if restB c (1048576 - k) then n else n - 1)
    · rw [if_pos hc] at h ⊢
      have hb := up_bd c k _ (by omega) (by omega) h
      have ih := up_cnt c k _ (by omega) (by omega) h
      obtain ⟨R, hR⟩ : ∃ R, (upF c k (if restB c (1048576 - k) then n else n - 1)).1 = R := ⟨_, rfl⟩
      rw [hR] at hb ih ⊢
      rw [show (R - (1048576 - (k : Int)) + 1).toNat = (R - (1048577 - (k : Int)) + 1).toNat + 1 by omega, cnt_down, show (1048576 - (k : Int) + 1) = 1048577 - k by omega, ih]
      cases restB c (1048576 - k) <;> simp <;> omega
    · rw [if_neg hc]
      rw [show ((1048576 - (k : Int)) - (1048576 - k) + 1).toNat = 0 + 1 by omega, cnt_down]
      cases hr : restB c (1048576 - k)
      · rw [hr] at hc
        simp at hc
        simp [cntF]
        omega
      · rw [hr] at hc
        simp at hc
        omega
theorem days_five {c : Cal} {p : Int} (h : (dlV c p).2 = true) : daysV c p p = 5 := by
  have hb := dl_bd h
  unfold daysV
  rw [if_pos h, show max p p = p by omega]
  unfold dlV addV at *
  cases hd : isDayB p
  · rw [hd] at h; cases h
  · rw [hd] at h hb
    simp only [if_true] at h hb ⊢
    obtain ⟨d0, d1⟩ : 0 ≤ p ∧ p ≤ 1048576 := by simpa [isDayB] using hd
    have := up_cnt c (1048576 - p).toNat 5 (by omega) (by omega) h
    rw [show (1048577 : Int) - ((1048576 - p).toNat : Nat) = p + 1 by omega] at this
    rw [show (upF c (1048576 - p).toNat 5).1 - (p + 1) + 1 = (upF c (1048576 - p).toNat 5).1 - p by omega] at this
    exact this
theorem days_last {c : Cal} {p : Int} (h : (dlV c p).2 = true) : daysV c p (dlV c p).1 = 0 := by
  have hb := dl_bd h
  unfold daysV
  rw [if_pos h, show ((dlV c p).1 - max (dlV c p).1 p).toNat = 0 by omega]; rfl
theorem days_step {c : Cal} {p d : Int} (h : (dlV c p).2 = true) (h0 : p + 1 ≤ d) (h1 : d ≤ (dlV c p).1) : daysV c p (d - 1) = (if worksB c d then 1 else 0) + daysV c p d := by
  have hb := dl_bd h
  unfold daysV
  rw [if_pos h, if_pos h, show max (d - 1) p = d - 1 by omega, show max d p = d by omega, show ((dlV c p).1 - (d - 1)).toNat = ((dlV c p).1 - d).toNat + 1 by omega, show d - 1 + 1 = d by omega, cnt_down]
  rw [works_in (c := c) (d := d) (by simp [isDayB]; omega)]
  cases restB c d <;> simp

set_option maxRecDepth 100000 in
set_option maxHeartbeats 1600000 in
theorem noticeCounts_walk (c : Cal) (A1 : Option Addr) (n1 c1 : Nat) (A2 : Option Addr) (n2 c2 : Nat) (p : Int) (w : World) (h1 : SliceOf w 1 intC A1 n1 c.rest) (h2 : SliceOf w 1 intC A2 n2 c.hol) (m1 : n1 ≤ maxLen) (m2 : n2 ≤ maxLen) :
    Calls Try.prog 3 #[.agg #[.slice A1 n1 c1, .slice A2 n2 c2], .int .i64 p] w fun e w' => e = .returned (.bool true) ∧ Below w.heap.size w w' := by
  have H1 := Lib.hid h1
  have H2 := Lib.hid h2
  have l1 := h1.len
  have l2 := h2.len
  clear h1 h2
  have hB0 : Below w.heap.size w (w.alloc (.cells #[.slice A1 n1 c1, .slice A2 n2 c2] 24)) := (Below.refl _ _).alloc (Nat.le_refl _) _
  have hk0 : Blk (w.alloc (.cells #[.slice A1 n1 c1, .slice A2 n2 c2] 24)) w.heap.size 24 #[.slice A1 n1 c1, .slice A2 n2 c2] := Blk.new _ _ _
  go_enter Try.func3, Try.ntmps3
  go_wp2_with fail
  refine (awake_any _).mono ?_
  rintro e w1 ⟨rfl, hb1⟩
  have hB1 := hB0.trans (hb1.mono hB0.size)
  have hk1 := hk0.below hb1 hk0.lt
  clear hB0 hk0 hb1
  have a0 := hk1.cell 0; have a1 := hk1.cell 1; simp only [List.getElem?_toArray, List.getElem?_cons_zero, List.getElem?_cons_succ] at a0 a1
  cases hok : (dlV c p).2
  · have HK := Lib.hid hok
    clear hok
    cases hf : fewB n1 n2
    all_goals
      have F := Lib.hid hf
      clear hf
      go_wp2_with fail
      refine (deadline_any c A1 n1 c1 A2 n2 c2 p _ (H1.out.below hB1) (H2.out.below hB1) m1 m2).mono ?_
      rw [HK.out]
      rintro e w2 ⟨rfl, hb2⟩
      clear a0 a1
      have hB2 := hB1.trans (hb2.mono hB1.size)
      have hk2 := hk1.below hb2 hk1.lt
      clear hB1 hk1 hb2
      have a0 := hk2.cell 0; have a1 := hk2.cell 1; simp only [List.getElem?_toArray, List.getElem?_cons_zero, List.getElem?_cons_succ] at a0 a1
      go_wp2_with fail
      refine (few_any A1 n1 c1 A2 n2 c2 _ m1 m2).mono ?_
      rw [F.out]
      rintro e w3 ⟨rfl, hb3⟩
      clear a0 a1
      have hB3 := hB2.trans (hb3.mono hB2.size)
      have hk3 := hk2.below hb3 hk2.lt
      clear hB2 hk2 hb3
      have a0 := hk3.cell 0; have a1 := hk3.cell 1; simp only [List.getElem?_toArray, List.getElem?_cons_zero, List.getElem?_cons_succ] at a0 a1
      go_wp2_with fail
      go_ret
      exact ⟨rfl, hB3⟩
  have HK := Lib.hid hok
  obtain ⟨b0, b1, b2, b3⟩ := dl_bd hok
  have d5 := Lib.hid (days_five hok)
  have dl := days_last hok
  obtain ⟨L, hL⟩ : ∃ L, (dlV c p).1 = L := ⟨_, rfl⟩
  rw [hL] at b1 b2 b3 dl
  have dl0 := Lib.hid dl
  have DS : Hid (∀ d, p + 1 ≤ d → d ≤ L → daysV c p (d - 1) = (if worksB c d then 1 else 0) + daysV c p d) := Lib.hid (fun d h0 h1 => days_step hok h0 (by rw [hL]; exact h1))
  have DN : Hid (daysV c p (L + 1) = 0) := Lib.hid (days_none (.inr (by rw [hL]; omega)))
  have PF : Hid (∀ d, preclV c p d false = decide (L < d)) := Lib.hid (fun d => by unfold preclV; rw [hok, hL]; simp)
  have PT : Hid (∀ d, preclV c p d true = false) := Lib.hid (fun d => by unfold preclV; simp)
  have WL : Hid (worksB c L = true) := Lib.hid (by unfold worksB; rw [b3]; simp [isDayB]; omega)
  have HL := Lib.hid hL
  clear hok hL dl b3
  cases hf : fewB n1 n2
  · have F := Lib.hid hf
    clear hf
    go_wp2_with fail
    refine (deadline_any c A1 n1 c1 A2 n2 c2 p _ (H1.out.below hB1) (H2.out.below hB1) m1 m2).mono ?_
    rw [HK.out, HL.out]
    rintro e w2 ⟨rfl, hb2⟩
    clear a0 a1
    have hB2 := hB1.trans (hb2.mono hB1.size)
    have hk2 := hk1.below hb2 hk1.lt
    clear hB1 hk1 hb2
    have a0 := hk2.cell 0; have a1 := hk2.cell 1; simp only [List.getElem?_toArray, List.getElem?_cons_zero, List.getElem?_cons_succ] at a0 a1
    go_wp2_with fail
    refine (few_any A1 n1 c1 A2 n2 c2 _ m1 m2).mono ?_
    rw [F.out]
    rintro e w3 ⟨rfl, hb3⟩
    clear a0 a1
    have hB3 := hB2.trans (hb3.mono hB2.size)
    have hk3 := hk2.below hb3 hk2.lt
    clear hB2 hk2 hb3
    have a0 := hk3.cell 0; have a1 := hk3.cell 1; simp only [List.getElem?_toArray, List.getElem?_cons_zero, List.getElem?_cons_succ] at a0 a1
    go_wp2_with fail
    go_ret
    exact ⟨rfl, hB3⟩
  have F := Lib.hid hf
  clear hf
  go_wp2_with fail
  refine (deadline_any c A1 n1 c1 A2 n2 c2 p _ (H1.out.below hB1) (H2.out.below hB1) m1 m2).mono ?_
  rw [HK.out, HL.out]
  rintro e w2 ⟨rfl, hb2⟩
  clear a0 a1
  have hB2 := hB1.trans (hb2.mono hB1.size)
  have hk2 := hk1.below hb2 hk1.lt
  clear hB1 hk1 hb2
  have a0 := hk2.cell 0; have a1 := hk2.cell 1; simp only [List.getElem?_toArray, List.getElem?_cons_zero, List.getElem?_cons_succ] at a0 a1
  go_wp2_with fail
  refine (few_any A1 n1 c1 A2 n2 c2 _ m1 m2).mono ?_
  rw [F.out]
  rintro e w3 ⟨rfl, hb3⟩
  clear a0 a1
  have hB3 := hB2.trans (hb3.mono hB2.size)
  have hk3 := hk2.below hb3 hk2.lt
  clear hB2 hk2 hb3
  have a0 := hk3.cell 0; have a1 := hk3.cell 1; simp only [List.getElem?_toArray, List.getElem?_cons_zero, List.getElem?_cons_succ] at a0 a1
  by_cases h4 : 400 < L - p
  · go_wp2_with fail
    go_ret
    exact ⟨rfl, hB3⟩
  go_wp2_with fail
  refine (days_any c A1 n1 c1 A2 n2 c2 p p _ (H1.out.below hB3) (H2.out.below hB3) m1 m2).mono ?_
  rw [d5.out]
  rintro e w4 ⟨rfl, hb4⟩
  clear a0 a1
  have hB4 := hB3.trans (hb4.mono hB3.size)
  have hk4 := hk3.below hb4 hk3.lt
  clear hB3 hk3 hb4
  have a0 := hk4.cell 0; have a1 := hk4.cell 1; simp only [List.getElem?_toArray, List.getElem?_cons_zero, List.getElem?_cons_succ] at a0 a1
  go_wp2_with fail
  refine (days_any c A1 n1 c1 A2 n2 c2 p L _ (H1.out.below hB4) (H2.out.below hB4) m1 m2).mono ?_
  rw [dl0.out]
  rintro e w5 ⟨rfl, hb5⟩
  clear a0 a1
  have hB5 := hB4.trans (hb5.mono hB4.size)
  have hk5 := hk4.below hb5 hk4.lt
  clear hB4 hk4 hb5
  have a0 := hk5.cell 0; have a1 := hk5.cell 1; simp only [List.getElem?_toArray, List.getElem?_cons_zero, List.getElem?_cons_succ] at a0 a1
  go_wp2_with fail
  refine (rworks_any c A1 n1 c1 A2 n2 c2 L _ (H1.out.below hB5) (H2.out.below hB5) m1 m2).mono ?_
  rw [WL.out]
  rintro e w6 ⟨rfl, hb6⟩
  clear a0 a1
  have hB6 := hB5.trans (hb6.mono hB5.size)
  have hk6 := hk5.below hb6 hk5.lt
  clear hB5 hk5 hb6
  have a0 := hk6.cell 0; have a1 := hk6.cell 1; simp only [List.getElem?_toArray, List.getElem?_cons_zero, List.getElem?_cons_succ] at a0 a1
  clear a0 a1
  go_wp2_with fail
  go_loopw [7] (fun vd wr => ∃ (d : Int), vd = .int .i64 d ∧ p + 1 ≤ d ∧ d ≤ L + 2 ∧ Below w.heap.size w wr ∧ Blk wr w.heap.size 24 #[.slice A1 n1 c1, .slice A2 n2 c2]) (fun vd _ => (L + 2 - intOf vd).toNat)
  case atStart => exact ⟨p + 1, rfl, by omega, by omega, hB6, hk6⟩
  case round =>
    obtain ⟨d, rfl, dd0, dd1, hB7, hk7⟩ := hrel
    clear hB6 hk6
    by_cases hlt : d ≤ L + 1
    · have a0 := hk7.cell 0; have a1 := hk7.cell 1; simp only [List.getElem?_toArray, List.getElem?_cons_zero, List.getElem?_cons_succ] at a0 a1
      by_cases hdl : d ≤ L
      · have hs := DS.out d dd0 hdl
        obtain ⟨X, hX⟩ : ∃ X, daysV c p (d - 1) = X := ⟨_, rfl⟩
        obtain ⟨Y, hY⟩ : ∃ Y, daysV c p d = Y := ⟨_, rfl⟩
        rw [hX, hY] at hs
        have hp : preclV c p d false = false := by rw [PF.out]; exact decide_eq_false (by omega)
        have HX := Lib.hid hX; have HY := Lib.hid hY; have HP := Lib.hid hp
        have hyb : 0 ≤ Y ∧ Y ≤ 2000000 := by
          rw [← hY]; unfold daysV; split
          · have := cnt_bd c (max d p + 1) ((dlV c p).1 - max d p).toNat
            have := HL.out
            omega
          · omega
        obtain ⟨y0, y1⟩ := hyb
        clear hX hY hp
        cases hwk : worksB c d
        · have hXY : X = Y := by rw [hs, hwk]; simp
          subst hXY
          have HW := Lib.hid hwk
          clear hwk hs
          go_wp2_with fail
          refine (days_any c A1 n1 c1 A2 n2 c2 p (d - 1) _ (H1.out.below hB7) (H2.out.below hB7) m1 m2).mono ?_
          rw [HX.out]
          rintro e w8 ⟨rfl, hb8⟩
          clear a0 a1
          have hB8 := hB7.trans (hb8.mono hB7.size)
          have hk8 := hk7.below hb8 hk7.lt
          clear hB7 hk7 hb8
          have a0 := hk8.cell 0; have a1 := hk8.cell 1; simp only [List.getElem?_toArray, List.getElem?_cons_zero, List.getElem?_cons_succ] at a0 a1
          go_wp2_with fail
          refine (rworks_any c A1 n1 c1 A2 n2 c2 d _ (H1.out.below hB8) (H2.out.below hB8) m1 m2).mono ?_
          rw [HW.out]
          rintro e w9 ⟨rfl, hb9⟩
          clear a0 a1
          have hB9 := hB8.trans (hb9.mono hB8.size)
          have hk9 := hk8.below hb9 hk8.lt
          clear hB8 hk8 hb9
          have a0 := hk9.cell 0; have a1 := hk9.cell 1; simp only [List.getElem?_toArray, List.getElem?_cons_zero, List.getElem?_cons_succ] at a0 a1
          go_wp2_with fail
          refine (days_any c A1 n1 c1 A2 n2 c2 p d _ (H1.out.below hB9) (H2.out.below hB9) m1 m2).mono ?_
          rw [HY.out]
          rintro e w10 ⟨rfl, hb10⟩
          clear a0 a1
          have hB10 := hB9.trans (hb10.mono hB9.size)
          have hk10 := hk9.below hb10 hk9.lt
          clear hB9 hk9 hb10
          have a0 := hk10.cell 0; have a1 := hk10.cell 1; simp only [List.getElem?_toArray, List.getElem?_cons_zero, List.getElem?_cons_succ] at a0 a1
          go_wp2_with fail
          refine (precl_any c A1 n1 c1 A2 n2 c2 p d false _ (H1.out.below hB10) (H2.out.below hB10) m1 m2).mono ?_
          rw [HP.out]
          rintro e w11 ⟨rfl, hb11⟩
          clear a0 a1
          have hB11 := hB10.trans (hb11.mono hB10.size)
          have hk11 := hk10.below hb11 hk10.lt
          clear hB10 hk10 hb11
          have a0 := hk11.cell 0; have a1 := hk11.cell 1; simp only [List.getElem?_toArray, List.getElem?_cons_zero, List.getElem?_cons_succ] at a0 a1
          go_wp2_with fail
          refine (precl_any c A1 n1 c1 A2 n2 c2 p d true _ (H1.out.below hB11) (H2.out.below hB11) m1 m2).mono ?_
          rw [PT.out]
          rintro e w12 ⟨rfl, hb12⟩
          clear a0 a1
          have hB12 := hB11.trans (hb12.mono hB11.size)
          have hk12 := hk11.below hb12 hk11.lt
          clear hB11 hk11 hb12
          have a0 := hk12.cell 0; have a1 := hk12.cell 1; simp only [List.getElem?_toArray, List.getElem?_cons_zero, List.getElem?_cons_succ] at a0 a1
          go_wp2_with fail
          go_roundw
          case rel => exact ⟨d + 1, rfl, by omega, by omega, hB12, hk12⟩
          case measure => simp [intOf]; omega
        · have hXY : X = Y + 1 := by rw [hs, hwk]; simp; omega
          subst hXY
          have HW := Lib.hid hwk
          have hz : Y + 1 - 1 = Y := by omega
          clear hwk hs
          go_wp2_with fail
          refine (days_any c A1 n1 c1 A2 n2 c2 p (d - 1) _ (H1.out.below hB7) (H2.out.below hB7) m1 m2).mono ?_
          rw [HX.out]
          rintro e w8 ⟨rfl, hb8⟩
          clear a0 a1
          have hB8 := hB7.trans (hb8.mono hB7.size)
          have hk8 := hk7.below hb8 hk7.lt
          clear hB7 hk7 hb8
          have a0 := hk8.cell 0; have a1 := hk8.cell 1; simp only [List.getElem?_toArray, List.getElem?_cons_zero, List.getElem?_cons_succ] at a0 a1
          go_wp2_with fail
          refine (rworks_any c A1 n1 c1 A2 n2 c2 d _ (H1.out.below hB8) (H2.out.below hB8) m1 m2).mono ?_
          rw [HW.out]
          rintro e w9 ⟨rfl, hb9⟩
          clear a0 a1
          have hB9 := hB8.trans (hb9.mono hB8.size)
          have hk9 := hk8.below hb9 hk8.lt
          clear hB8 hk8 hb9
          have a0 := hk9.cell 0; have a1 := hk9.cell 1; simp only [List.getElem?_toArray, List.getElem?_cons_zero, List.getElem?_cons_succ] at a0 a1
          go_wp2_with fail
          refine (days_any c A1 n1 c1 A2 n2 c2 p d _ (H1.out.below hB9) (H2.out.below hB9) m1 m2).mono ?_
          rw [HY.out]
          rintro e w10 ⟨rfl, hb10⟩
          clear a0 a1
          have hB10 := hB9.trans (hb10.mono hB9.size)
          have hk10 := hk9.below hb10 hk9.lt
          clear hB9 hk9 hb10
          have a0 := hk10.cell 0; have a1 := hk10.cell 1; simp only [List.getElem?_toArray, List.getElem?_cons_zero, List.getElem?_cons_succ] at a0 a1
          go_wp2_with fail
          refine (precl_any c A1 n1 c1 A2 n2 c2 p d false _ (H1.out.below hB10) (H2.out.below hB10) m1 m2).mono ?_
          rw [HP.out]
          rintro e w11 ⟨rfl, hb11⟩
          clear a0 a1
          have hB11 := hB10.trans (hb11.mono hB10.size)
          have hk11 := hk10.below hb11 hk10.lt
          clear hB10 hk10 hb11
          have a0 := hk11.cell 0; have a1 := hk11.cell 1; simp only [List.getElem?_toArray, List.getElem?_cons_zero, List.getElem?_cons_succ] at a0 a1
          go_wp2_with fail
          refine (precl_any c A1 n1 c1 A2 n2 c2 p d true _ (H1.out.below hB11) (H2.out.below hB11) m1 m2).mono ?_
          rw [PT.out]
          rintro e w12 ⟨rfl, hb12⟩
          clear a0 a1
          have hB12 := hB11.trans (hb12.mono hB11.size)
          have hk12 := hk11.below hb12 hk11.lt
          clear hB11 hk11 hb12
          have a0 := hk12.cell 0; have a1 := hk12.cell 1; simp only [List.getElem?_toArray, List.getElem?_cons_zero, List.getElem?_cons_succ] at a0 a1
          go_wp2_with fail
          go_roundw
          case rel => exact ⟨d + 1, rfl, by omega, by omega, hB12, hk12⟩
          case measure => simp [intOf]; omega
      · obtain rfl : d = L + 1 := by omega
        have hp : preclV c p (L + 1) false = true := by rw [PF.out]; exact decide_eq_true (by omega)
        have hx : daysV c p (L + 1 - 1) = 0 := by rw [show L + 1 - 1 = L by omega]; exact dl0.out
        have hz : L + 1 - 1 = L := by omega
        have HP := Lib.hid hp
        clear hp hx
        go_wp2_with fail
        refine (days_any c A1 n1 c1 A2 n2 c2 p L _ (H1.out.below hB7) (H2.out.below hB7) m1 m2).mono ?_
        rw [dl0.out]
        rintro e w8 ⟨rfl, hb8⟩
        clear a0 a1
        have hB8 := hB7.trans (hb8.mono hB7.size)
        have hk8 := hk7.below hb8 hk7.lt
        clear hB7 hk7 hb8
        have a0 := hk8.cell 0; have a1 := hk8.cell 1; simp only [List.getElem?_toArray, List.getElem?_cons_zero, List.getElem?_cons_succ] at a0 a1
        go_wp2_with fail
        refine (days_any c A1 n1 c1 A2 n2 c2 p (L + 1) _ (H1.out.below hB8) (H2.out.below hB8) m1 m2).mono ?_
        rw [DN.out]
        rintro e w10 ⟨rfl, hb10⟩
        clear a0 a1
        have hB10 := hB8.trans (hb10.mono hB8.size)
        have hk10 := hk8.below hb10 hk8.lt
        clear hB8 hk8 hb10
        have a0 := hk10.cell 0; have a1 := hk10.cell 1; simp only [List.getElem?_toArray, List.getElem?_cons_zero, List.getElem?_cons_succ] at a0 a1
        go_wp2_with fail
        refine (precl_any c A1 n1 c1 A2 n2 c2 p (L + 1) false _ (H1.out.below hB10) (H2.out.below hB10) m1 m2).mono ?_
        rw [HP.out]
        rintro e w11 ⟨rfl, hb11⟩
        clear a0 a1
        have hB11 := hB10.trans (hb11.mono hB10.size)
        have hk11 := hk10.below hb11 hk10.lt
        clear hB10 hk10 hb11
        have a0 := hk11.cell 0; have a1 := hk11.cell 1; simp only [List.getElem?_toArray, List.getElem?_cons_zero, List.getElem?_cons_succ] at a0 a1
        go_wp2_with fail
        refine (precl_any c A1 n1 c1 A2 n2 c2 p (L + 1) true _ (H1.out.below hB11) (H2.out.below hB11) m1 m2).mono ?_
        rw [PT.out]
        rintro e w12 ⟨rfl, hb12⟩
        clear a0 a1
        have hB12 := hB11.trans (hb12.mono hB11.size)
        have hk12 := hk11.below hb12 hk11.lt
        clear hB11 hk11 hb12
        have a0 := hk12.cell 0; have a1 := hk12.cell 1; simp only [List.getElem?_toArray, List.getElem?_cons_zero, List.getElem?_cons_succ] at a0 a1
        go_wp2_with fail
        go_roundw
        case rel => exact ⟨L + 1 + 1, rfl, by omega, by omega, hB12, hk12⟩
        case measure => simp [intOf]; omega
    · go_wp2_with fail
      go_ret
      exact ⟨rfl, hB7⟩
end Go.Proofs.Ytfiflmgjcmmomaa
