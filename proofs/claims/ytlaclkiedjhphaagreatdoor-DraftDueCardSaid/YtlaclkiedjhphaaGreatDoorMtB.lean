/- The text of money: the walks. Condition: the table of powers of ten. -/
import Derived.Test.YtlaclkiedjhphaaGreatDoorMtA
namespace Go.Proofs.YtlaclkiedjhphaaGreatDoor.kit
open Go.RowKit Go.PlainAid
set_option linter.unusedVariables false

set_option maxRecDepth 100000 in
set_option maxHeartbeats 6400000 in
theorem text_any (m : Mon) (w : World) (hc : m.cur.size ≤ maxLen) (ht : PowTab w) :
    Calls Tryz.prog 12 #[.agg #[.string m.cur, .int .i64 m.amt]] w fun e w' => e = .returned (.string (textV m)) ∧ Below w.heap.size w w' := by
  have HM := Lib.hid (fun w => money_any m.cur m.amt w hc)
  have HT := Lib.hid (Lib.tabBelow_of_tabIs ht)
  clear ht hc
  have hA0 : Blk (w.alloc (.cells #[.string m.cur, .int .i64 m.amt] 26)) w.heap.size 26 #[.string m.cur, .int .i64 m.amt] := Blk.new _ _ _
  have hB0 : Below w.heap.size w (w.alloc (.cells #[.string m.cur, .int .i64 m.amt] 26)) := (Below.refl _ _).alloc (Nat.le_refl _) _
  have a0 := hA0.cell 0; have a1 := hA0.cell 1
  simp only [List.getElem?_toArray, List.getElem?_cons_zero, List.getElem?_cons_succ] at a0 a1
  cases q0 : mayM m.cur m.amt
  · have e1 : Hid (⟨#[]⟩ = textV m) := Lib.hid (by unfold textV; rw [q0, if_neg (by simp)])
    rw [q0] at HM
    clear q0
    go_enter Tryz.func12, Tryz.ntmps12
    go_wp2_with fail
    refine (HM.out _).mono ?_
    rintro e w1 ⟨rfl, hb1⟩
    have hB1 := hB0.trans (hb1.mono hB0.size)
    have hA1 := hA0.below hb1 hA0.lt
    clear a0 a1 hB0 hA0 hb1
    have a0 := hA1.cell 0; have a1 := hA1.cell 1
    simp only [List.getElem?_toArray, List.getElem?_cons_zero, List.getElem?_cons_succ] at a0 a1
    go_wp2_with fail
    go_ret
    exact ⟨ret_string e1.out, hB1⟩
  rw [q0] at HM
  have hma := (mayM_iff.1 q0).2
  have hc3 := cur_size (mayM_iff.1 q0).1
  have HDG := Lib.hid (fun w => digits_any m.cur w)
  have HSZ := Lib.hid (fun w => size_any m.amt w hma)
  have hd3 := digV_cases m.cur
  obtain ⟨d, hd⟩ : ∃ d, digV m.cur = d := ⟨_, rfl⟩
  obtain ⟨A, hA⟩ : ∃ A, m.amt.natAbs = A := ⟨_, rfl⟩
  rw [hd] at HDG hd3
  rw [hA] at HSZ
  have hA40 : A ≤ 1099511627776 := by omega
  have hA64 : A < 18446744073709551616 := by omega
  obtain ⟨BD, hBD⟩ : ∃ B, bstr (bodyL (digV m.cur) m.amt.natAbs) = B := ⟨_, rfl⟩
  obtain ⟨L, hL⟩ : ∃ L, (Lib.decDigits A).length = L := ⟨_, rfl⟩
  obtain ⟨Dg, hDg⟩ : ∃ D, bstr (Lib.decDigits A) = D := ⟨_, rfl⟩
  obtain ⟨S, hS⟩ : ∃ D, bstr (padW (d + 1) A) = D := ⟨_, rfl⟩
  have HDD := Lib.hid hDg
  have hDs : Dg.size = L := by rw [← hDg, size_bstr, hL]
  have hLb := dec_len A hA40
  rw [hL] at hLb
  have hPl := pad_len d A hA40 (by omega)
  obtain ⟨q, hq⟩ : ∃ q, (padW (d + 1) A).length = q + d := ⟨(padW (d + 1) A).length - d, by omega⟩
  have hSs : S.size = q + d := by rw [← hS, size_bstr, hq]
  rw [hq] at hPl
  have HBZ : Hid (d = 0 → S = BD) := Lib.hid (fun h => by rw [← hS, ← hBD, hA, hd, h, body_zero])
  have HBP : Hid (d ≠ 0 → S.extract 0 q ++ (⟨#[46]⟩ : ByteArray) ++ S.extract q (q + d) = BD) := Lib.hid (fun h => by
    apply list_inj
    rw [app_list, app_list, Lib.extract_data, Lib.extract_data, ← hBD, data_bstr, hA, hd, body_split d A h, hq, ← hS, data_bstr, Nat.add_sub_cancel, List.drop_zero, Nat.sub_zero]
    congr 1
    rw [List.take_of_length_le (by rw [List.length_drop, hq]; exact Nat.le_refl _)])
  have hBs : BD.size ≤ 20 := by
    rcases Nat.eq_zero_or_pos d with h | h
    · rw [← HBZ.out h]; omega
    · rw [← HBP.out (by omega), size_app, size_app, ByteArray.size_extract, ByteArray.size_extract]
      have : (⟨#[46]⟩ : ByteArray).size = 1 := rfl
      omega
  clear hq hd hA
  by_cases hd0 : 0 < d
  · have d0 : decide ((0 : Int) < (d : Int)) = true := decide_eq_true (by omega)
    have d0n : decide (0 < d) = true := decide_eq_true hd0
    have HBP2 := Lib.hid (HBP.out (by omega))
    by_cases hneg : m.amt < 0
    · have EV : Hid (m.cur ++ (⟨#[32]⟩ : ByteArray) ++ (⟨#[45]⟩ : ByteArray) ++ BD = textV m) := Lib.hid (by unfold textV sgnS; rw [if_pos q0, if_pos hneg, ← hBD])
      clear hBD q0
      by_cases hLd : L ≤ d
      · have HR := Lib.hid (fun w => (Tryz.strings_Repeat ⟨#[48]⟩ (d + 1 - L) w (by omega) (by show 1 * _ ≤ _; omega)))
        rw [show (⟨#[48]⟩ : ByteArray).data.toList = [48] from rfl, repeat_zero] at HR
        have hcat : Hid ((⟨(List.replicate (d + 1 - L) 48).toArray⟩ : ByteArray) ++ Dg = S) := Lib.hid (by
          rw [← hDg, ← hS]
          exact (bstr_app _ _).trans (by unfold padW; rw [hL]))
        obtain ⟨Zr, hZr⟩ : ∃ Z, (⟨(List.replicate (d + 1 - L) 48).toArray⟩ : ByteArray) = Z := ⟨_, rfl⟩
        have hZs : Zr.size = d + 1 - L := by rw [← hZr]; exact (size_bstr _).trans (by simp)
        rw [hZr] at HR hcat
        obtain ⟨c, hcc⟩ : ∃ c, d + 1 - L = c := ⟨_, rfl⟩
        rw [hcc] at HR hZs
        have hcnt : (d : Int) + 1 - (L : Int) = (c : Int) := by omega
        have hL1 : decide ((L : Int) ≤ (d : Int)) = true := decide_eq_true (by omega)
        have hL1n : decide (L ≤ d) = true := decide_eq_true hLd
        clear hZr hcc hDg hS hL
        go_enter Tryz.func12, Tryz.ntmps12
        go_wp2_with fail
        refine (HM.out _).mono ?_
        rintro e w1 ⟨rfl, hb1⟩
        have hB1 := hB0.trans (hb1.mono hB0.size)
        have hA1 := hA0.below hb1 hA0.lt
        clear a0 a1 hB0 hA0 hb1
        have a0 := hA1.cell 0; have a1 := hA1.cell 1
        simp only [List.getElem?_toArray, List.getElem?_cons_zero, List.getElem?_cons_succ] at a0 a1
        go_wp2_with fail
        refine (HDG.out _).mono ?_
        rintro e w' ⟨rfl, rfl⟩
        go_wp2_with fail
        refine (HSZ.out _).mono ?_
        rintro e w' ⟨rfl, rfl⟩
        go_wp2_with fail
        refine (fmt_any A hA64 _ (HT.out.on hB1).here).mono ?_
        rintro e w2 ⟨rfl, hb2⟩
        have hB2 := hB1.trans (hb2.mono hB1.size)
        have hA2 := hA1.below hb2 hA1.lt
        clear a0 a1 hB1 hA1 hb2
        have a0 := hA2.cell 0; have a1 := hA2.cell 1
        simp only [List.getElem?_toArray, List.getElem?_cons_zero, List.getElem?_cons_succ] at a0 a1
        rw [HDD.out]
        go_wp2_with fail
        refine (HR.out _).mono ?_
        rintro e w3 ⟨rfl, hb3⟩
        have hB3 := hB2.trans (hb3.mono hB2.size)
        have hA3 := hA2.below hb3 hA2.lt
        clear a0 a1 hB2 hA2 hb3
        have a0 := hA3.cell 0; have a1 := hA3.cell 1
        simp only [List.getElem?_toArray, List.getElem?_cons_zero, List.getElem?_cons_succ] at a0 a1
        go_wp2_with fail
        rw [hcat.out]
        go_quiet (fail)
        rw [HBP2.out]
        go_wp2_with fail
        rw [EV.out]
        go_ret
        exact ⟨rfl, below_drewN hB3 nq⟩
      · have hqL : L = q + d := by rw [← hDs, ← hSs]; congr 1; rw [← hDg, ← hS]; unfold padW; rw [hL, show d + 1 - L = 0 by omega]; rfl
        have hL2 : decide ((q : Int) + (d : Int) ≤ (d : Int)) = false := decide_eq_false (by omega)
        have hL2n : decide (q + d ≤ d) = false := decide_eq_false (by omega)
        have HQL := Lib.hid hqL
        have hq1 : 1 ≤ q := by omega
        have hcat : Hid (Dg = S) := Lib.hid (by rw [← hDg, ← hS]; unfold padW; rw [hL, show d + 1 - L = 0 by omega]; rfl)
        have hL1 : decide ((L : Int) ≤ (d : Int)) = false := decide_eq_false (by omega)
        have hL1n : decide (L ≤ d) = false := decide_eq_false hLd
        clear hDg hS hL hqL
        go_enter Tryz.func12, Tryz.ntmps12
        go_wp2_with fail
        refine (HM.out _).mono ?_
        rintro e w1 ⟨rfl, hb1⟩
        have hB1 := hB0.trans (hb1.mono hB0.size)
        have hA1 := hA0.below hb1 hA0.lt
        clear a0 a1 hB0 hA0 hb1
        have a0 := hA1.cell 0; have a1 := hA1.cell 1
        simp only [List.getElem?_toArray, List.getElem?_cons_zero, List.getElem?_cons_succ] at a0 a1
        go_wp2_with fail
        refine (HDG.out _).mono ?_
        rintro e w' ⟨rfl, rfl⟩
        go_wp2_with fail
        refine (HSZ.out _).mono ?_
        rintro e w' ⟨rfl, rfl⟩
        go_wp2_with fail
        refine (fmt_any A hA64 _ (HT.out.on hB1).here).mono ?_
        rw [HDD.out, hcat.out]
        rintro e w2 ⟨rfl, hb2⟩
        have hB2 := hB1.trans (hb2.mono hB1.size)
        have hA2 := hA1.below hb2 hA1.lt
        clear a0 a1 hB1 hA1 hb2
        have a0 := hA2.cell 0; have a1 := hA2.cell 1
        simp only [List.getElem?_toArray, List.getElem?_cons_zero, List.getElem?_cons_succ] at a0 a1
        go_wp2_with fail
        go_quiet (fail)
        rw [HBP2.out]
        go_wp2_with fail
        rw [EV.out]
        go_ret
        exact ⟨rfl, below_drewN hB2 nq⟩
    · have EV : Hid (m.cur ++ (⟨#[32]⟩ : ByteArray) ++ (⟨#[]⟩ : ByteArray) ++ BD = textV m) := Lib.hid (by unfold textV sgnS; rw [if_pos q0, if_neg hneg, ← hBD])
      clear hBD q0
      by_cases hLd : L ≤ d
      · have HR := Lib.hid (fun w => (Tryz.strings_Repeat ⟨#[48]⟩ (d + 1 - L) w (by omega) (by show 1 * _ ≤ _; omega)))
        rw [show (⟨#[48]⟩ : ByteArray).data.toList = [48] from rfl, repeat_zero] at HR
        have hcat : Hid ((⟨(List.replicate (d + 1 - L) 48).toArray⟩ : ByteArray) ++ Dg = S) := Lib.hid (by
          rw [← hDg, ← hS]
          exact (bstr_app _ _).trans (by unfold padW; rw [hL]))
        obtain ⟨Zr, hZr⟩ : ∃ Z, (⟨(List.replicate (d + 1 - L) 48).toArray⟩ : ByteArray) = Z := ⟨_, rfl⟩
        have hZs : Zr.size = d + 1 - L := by rw [← hZr]; exact (size_bstr _).trans (by simp)
        rw [hZr] at HR hcat
        obtain ⟨c, hcc⟩ : ∃ c, d + 1 - L = c := ⟨_, rfl⟩
        rw [hcc] at HR hZs
        have hcnt : (d : Int) + 1 - (L : Int) = (c : Int) := by omega
        have hL1 : decide ((L : Int) ≤ (d : Int)) = true := decide_eq_true (by omega)
        have hL1n : decide (L ≤ d) = true := decide_eq_true hLd
        clear hZr hcc hDg hS hL
        go_enter Tryz.func12, Tryz.ntmps12
        go_wp2_with fail
        refine (HM.out _).mono ?_
        rintro e w1 ⟨rfl, hb1⟩
        have hB1 := hB0.trans (hb1.mono hB0.size)
        have hA1 := hA0.below hb1 hA0.lt
        clear a0 a1 hB0 hA0 hb1
        have a0 := hA1.cell 0; have a1 := hA1.cell 1
        simp only [List.getElem?_toArray, List.getElem?_cons_zero, List.getElem?_cons_succ] at a0 a1
        go_wp2_with fail
        refine (HDG.out _).mono ?_
        rintro e w' ⟨rfl, rfl⟩
        go_wp2_with fail
        refine (HSZ.out _).mono ?_
        rintro e w' ⟨rfl, rfl⟩
        go_wp2_with fail
        refine (fmt_any A hA64 _ (HT.out.on hB1).here).mono ?_
        rintro e w2 ⟨rfl, hb2⟩
        have hB2 := hB1.trans (hb2.mono hB1.size)
        have hA2 := hA1.below hb2 hA1.lt
        clear a0 a1 hB1 hA1 hb2
        have a0 := hA2.cell 0; have a1 := hA2.cell 1
        simp only [List.getElem?_toArray, List.getElem?_cons_zero, List.getElem?_cons_succ] at a0 a1
        rw [HDD.out]
        go_wp2_with fail
        refine (HR.out _).mono ?_
        rintro e w3 ⟨rfl, hb3⟩
        have hB3 := hB2.trans (hb3.mono hB2.size)
        have hA3 := hA2.below hb3 hA2.lt
        clear a0 a1 hB2 hA2 hb3
        have a0 := hA3.cell 0; have a1 := hA3.cell 1
        simp only [List.getElem?_toArray, List.getElem?_cons_zero, List.getElem?_cons_succ] at a0 a1
        go_wp2_with fail
        rw [hcat.out]
        go_quiet (fail)
        rw [HBP2.out]
        go_wp2_with fail
        rw [EV.out]
        go_ret
        exact ⟨rfl, below_drewN hB3 nq⟩
      · have hqL : L = q + d := by rw [← hDs, ← hSs]; congr 1; rw [← hDg, ← hS]; unfold padW; rw [hL, show d + 1 - L = 0 by omega]; rfl
        have hL2 : decide ((q : Int) + (d : Int) ≤ (d : Int)) = false := decide_eq_false (by omega)
        have hL2n : decide (q + d ≤ d) = false := decide_eq_false (by omega)
        have HQL := Lib.hid hqL
        have hq1 : 1 ≤ q := by omega
        have hcat : Hid (Dg = S) := Lib.hid (by rw [← hDg, ← hS]; unfold padW; rw [hL, show d + 1 - L = 0 by omega]; rfl)
        have hL1 : decide ((L : Int) ≤ (d : Int)) = false := decide_eq_false (by omega)
        have hL1n : decide (L ≤ d) = false := decide_eq_false hLd
        clear hDg hS hL hqL
        go_enter Tryz.func12, Tryz.ntmps12
        go_wp2_with fail
        refine (HM.out _).mono ?_
        rintro e w1 ⟨rfl, hb1⟩
        have hB1 := hB0.trans (hb1.mono hB0.size)
        have hA1 := hA0.below hb1 hA0.lt
        clear a0 a1 hB0 hA0 hb1
        have a0 := hA1.cell 0; have a1 := hA1.cell 1
        simp only [List.getElem?_toArray, List.getElem?_cons_zero, List.getElem?_cons_succ] at a0 a1
        go_wp2_with fail
        refine (HDG.out _).mono ?_
        rintro e w' ⟨rfl, rfl⟩
        go_wp2_with fail
        refine (HSZ.out _).mono ?_
        rintro e w' ⟨rfl, rfl⟩
        go_wp2_with fail
        refine (fmt_any A hA64 _ (HT.out.on hB1).here).mono ?_
        rw [HDD.out, hcat.out]
        rintro e w2 ⟨rfl, hb2⟩
        have hB2 := hB1.trans (hb2.mono hB1.size)
        have hA2 := hA1.below hb2 hA1.lt
        clear a0 a1 hB1 hA1 hb2
        have a0 := hA2.cell 0; have a1 := hA2.cell 1
        simp only [List.getElem?_toArray, List.getElem?_cons_zero, List.getElem?_cons_succ] at a0 a1
        go_wp2_with fail
        go_quiet (fail)
        rw [HBP2.out]
        go_wp2_with fail
        rw [EV.out]
        go_ret
        exact ⟨rfl, below_drewN hB2 nq⟩
  · have d0 : decide ((0 : Int) < (d : Int)) = false := decide_eq_false (by omega)
    have d0n : decide (0 < d) = false := decide_eq_false hd0
    have HBZ2 := Lib.hid (HBZ.out (by omega))
    by_cases hneg : m.amt < 0
    · have EV : Hid (m.cur ++ (⟨#[32]⟩ : ByteArray) ++ (⟨#[45]⟩ : ByteArray) ++ BD = textV m) := Lib.hid (by unfold textV sgnS; rw [if_pos q0, if_pos hneg, ← hBD])
      clear hBD q0
      by_cases hLd : L ≤ d
      · exfalso
        omega
      · have hqL : L = q + d := by rw [← hDs, ← hSs]; congr 1; rw [← hDg, ← hS]; unfold padW; rw [hL, show d + 1 - L = 0 by omega]; rfl
        have hL2 : decide ((q : Int) + (d : Int) ≤ (d : Int)) = false := decide_eq_false (by omega)
        have hL2n : decide (q + d ≤ d) = false := decide_eq_false (by omega)
        have HQL := Lib.hid hqL
        have hq1 : 1 ≤ q := by omega
        have hcat : Hid (Dg = S) := Lib.hid (by rw [← hDg, ← hS]; unfold padW; rw [hL, show d + 1 - L = 0 by omega]; rfl)
        have hL1 : decide ((L : Int) ≤ (d : Int)) = false := decide_eq_false (by omega)
        have hL1n : decide (L ≤ d) = false := decide_eq_false hLd
        clear hDg hS hL hqL
        go_enter Tryz.func12, Tryz.ntmps12
        go_wp2_with fail
        refine (HM.out _).mono ?_
        rintro e w1 ⟨rfl, hb1⟩
        have hB1 := hB0.trans (hb1.mono hB0.size)
        have hA1 := hA0.below hb1 hA0.lt
        clear a0 a1 hB0 hA0 hb1
        have a0 := hA1.cell 0; have a1 := hA1.cell 1
        simp only [List.getElem?_toArray, List.getElem?_cons_zero, List.getElem?_cons_succ] at a0 a1
        go_wp2_with fail
        refine (HDG.out _).mono ?_
        rintro e w' ⟨rfl, rfl⟩
        go_wp2_with fail
        refine (HSZ.out _).mono ?_
        rintro e w' ⟨rfl, rfl⟩
        go_wp2_with fail
        refine (fmt_any A hA64 _ (HT.out.on hB1).here).mono ?_
        rw [HDD.out, hcat.out]
        rintro e w2 ⟨rfl, hb2⟩
        have hB2 := hB1.trans (hb2.mono hB1.size)
        have hA2 := hA1.below hb2 hA1.lt
        clear a0 a1 hB1 hA1 hb2
        have a0 := hA2.cell 0; have a1 := hA2.cell 1
        simp only [List.getElem?_toArray, List.getElem?_cons_zero, List.getElem?_cons_succ] at a0 a1
        go_wp2_with fail
        rw [HBZ2.out]
        go_wp2_with fail
        rw [EV.out]
        go_ret
        exact ⟨rfl, hB2⟩
    · have EV : Hid (m.cur ++ (⟨#[32]⟩ : ByteArray) ++ (⟨#[]⟩ : ByteArray) ++ BD = textV m) := Lib.hid (by unfold textV sgnS; rw [if_pos q0, if_neg hneg, ← hBD])
      clear hBD q0
      by_cases hLd : L ≤ d
      · exfalso
        omega
      · have hqL : L = q + d := by rw [← hDs, ← hSs]; congr 1; rw [← hDg, ← hS]; unfold padW; rw [hL, show d + 1 - L = 0 by omega]; rfl
        have hL2 : decide ((q : Int) + (d : Int) ≤ (d : Int)) = false := decide_eq_false (by omega)
        have hL2n : decide (q + d ≤ d) = false := decide_eq_false (by omega)
        have HQL := Lib.hid hqL
        have hq1 : 1 ≤ q := by omega
        have hcat : Hid (Dg = S) := Lib.hid (by rw [← hDg, ← hS]; unfold padW; rw [hL, show d + 1 - L = 0 by omega]; rfl)
        have hL1 : decide ((L : Int) ≤ (d : Int)) = false := decide_eq_false (by omega)
        have hL1n : decide (L ≤ d) = false := decide_eq_false hLd
        clear hDg hS hL hqL
        go_enter Tryz.func12, Tryz.ntmps12
        go_wp2_with fail
        refine (HM.out _).mono ?_
        rintro e w1 ⟨rfl, hb1⟩
        have hB1 := hB0.trans (hb1.mono hB0.size)
        have hA1 := hA0.below hb1 hA0.lt
        clear a0 a1 hB0 hA0 hb1
        have a0 := hA1.cell 0; have a1 := hA1.cell 1
        simp only [List.getElem?_toArray, List.getElem?_cons_zero, List.getElem?_cons_succ] at a0 a1
        go_wp2_with fail
        refine (HDG.out _).mono ?_
        rintro e w' ⟨rfl, rfl⟩
        go_wp2_with fail
        refine (HSZ.out _).mono ?_
        rintro e w' ⟨rfl, rfl⟩
        go_wp2_with fail
        refine (fmt_any A hA64 _ (HT.out.on hB1).here).mono ?_
        rw [HDD.out, hcat.out]
        rintro e w2 ⟨rfl, hb2⟩
        have hB2 := hB1.trans (hb2.mono hB1.size)
        have hA2 := hA1.below hb2 hA1.lt
        clear a0 a1 hB1 hA1 hb2
        have a0 := hA2.cell 0; have a1 := hA2.cell 1
        simp only [List.getElem?_toArray, List.getElem?_cons_zero, List.getElem?_cons_succ] at a0 a1
        go_wp2_with fail
        rw [HBZ2.out]
        go_wp2_with fail
        rw [EV.out]
        go_ret
        exact ⟨rfl, hB2⟩
end Go.Proofs.YtlaclkiedjhphaaGreatDoor.kit
