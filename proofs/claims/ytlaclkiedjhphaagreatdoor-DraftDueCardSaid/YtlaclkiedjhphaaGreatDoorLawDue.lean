/- DraftDue: the law. Condition: the table of powers of ten. -/
import Derived.Test.YtlaclkiedjhphaaGreatDoorMtC
import Derived.Test.YtlaclkiedjhphaaGreatDoorDuR
import Derived.Test.YtlaclkiedjhphaaGreatDoorDgW
namespace Go.Proofs.YtlaclkiedjhphaaGreatDoor
open Go.RowKit Go.PlainAid Go.Proofs.YtlaclkiedjhphaaGreatDoor.kit Go.Proofs.YtlaclkiedjhphaaGreatDoor.cal
set_option linter.unusedVariables false
theorem bs3 (w : World) : (Instr.buildSlice 35 3 #[(0, .string ⟨#[115, 105, 103, 104, 116]⟩), (1, .string ⟨#[97, 102, 116, 101, 114, 45, 115, 105, 103, 104, 116]⟩), (2, .string ⟨#[97, 102, 116, 101, 114, 45, 100, 97, 116, 101]⟩)]).run Tryz.prog w = .ok (.slice (some ⟨w.heap.size, 0, none⟩) 3 3) (w.alloc (.cells #[.string ⟨#[115, 105, 103, 104, 116]⟩, .string ⟨#[97, 102, 116, 101, 114, 45, 115, 105, 103, 104, 116]⟩, .string ⟨#[97, 102, 116, 101, 114, 45, 100, 97, 116, 101]⟩] 9)) := by kernel_rfl
set_option maxRecDepth 100000 in
set_option maxHeartbeats 12800000 in
theorem draftDue_walk (c : Cal) (A1 : Option Addr) (n1 c1 : Nat) (A2 : Option Addr) (n2 c2 : Nat) (d : Dr) (w : World) (h1 : SliceOf w 1 intC A1 n1 c.rest) (h2 : SliceOf w 1 intC A2 n2 c.hol) (m1 : n1 ≤ maxLen) (m2 : n2 ≤ maxLen) (hd : d.ok) (ht : PowTab w) : Calls Tryz.prog 3 #[.agg #[.slice A1 n1 c1, .slice A2 n2 c2], .agg #[.string d.num, .string d.drw, .string d.dre, .string d.pay, .string d.cur, .int .i64 d.amt, .int .i64 d.kind, .int .i64 d.days, .int .i64 d.fr]] w fun e w' => e = .returned (.bool true) ∧ Below w.heap.size w w' := by
  have H1 := Lib.hid h1
  have H2 := Lib.hid h2
  have HD := Lib.hid hd
  have HT := Lib.hid (Lib.tabBelow_of_tabIs ht)
  have HDU := Lib.hid (fun (W : World) (h1 : SliceOf W 1 intC A1 n1 c.rest) (h2 : SliceOf W 1 intC A2 n2 c.hol) => due_any c A1 n1 c1 A2 n2 c2 d W h1 h2 m1 m2 hd)
  have HDR := Lib.hid (fun (W : World) (h1 : SliceOf W 1 intC A1 n1 c.rest) (h2 : SliceOf W 1 intC A2 n2 c.hol) => rdue_any c A1 n1 c1 A2 n2 c2 d W h1 h2 m1 m2 hd)
  have HW := Lib.hid (fun (W : World) => rworks_any c A1 n1 c1 A2 n2 c2 (dueV c d).1 W)
  have HM := Lib.hid (fun (W : World) => mayD_any d W hd)
  have HR := Lib.hid (fun (W : World) => rmayD_any d W hd)
  have hwk : (dueV c d).2 = true → worksB c (dueV c d).1 = true := fun h => by
    unfold dueV at h ⊢
    cases hm : mayD d
    · rw [hm] at h; cases h
    · rw [hm] at h
      have := next_in h
      unfold worksB isDayB
      simp only [if_true]
      rw [this.2.2.1]
      simp
      omega
  have hmo : mayD d = false → (dueV c d).2 = false := fun h => by unfold dueV; rw [h]; rfl
  obtain ⟨N, hN⟩ : ∃ x, (dueV c d).1 = x := ⟨_, rfl⟩
  obtain ⟨OK, hOK⟩ : ∃ x, (dueV c d).2 = x := ⟨_, rfl⟩
  rw [hN, hOK] at HDU HDR hwk
  rw [hN] at HW
  rw [hOK] at hmo
  clear h1 h2 hd ht hN hOK
  have hb3c := bs3
  have hB0 : Below w.heap.size w ((w.alloc (.cells #[.slice A1 n1 c1, .slice A2 n2 c2] 24)).alloc (.cells #[.string d.num, .string d.drw, .string d.dre, .string d.pay, .string d.cur, .int .i64 d.amt, .int .i64 d.kind, .int .i64 d.days, .int .i64 d.fr] 28)) := two_alloc _ _ _
  have hkc0 : Blk ((w.alloc (.cells #[.slice A1 n1 c1, .slice A2 n2 c2] 24)).alloc (.cells #[.string d.num, .string d.drw, .string d.dre, .string d.pay, .string d.cur, .int .i64 d.amt, .int .i64 d.kind, .int .i64 d.days, .int .i64 d.fr] 28)) w.heap.size 24 #[.slice A1 n1 c1, .slice A2 n2 c2] := (Blk.new _ _ _).alloc _
  have hkd0 : Blk ((w.alloc (.cells #[.slice A1 n1 c1, .slice A2 n2 c2] 24)).alloc (.cells #[.string d.num, .string d.drw, .string d.dre, .string d.pay, .string d.cur, .int .i64 d.amt, .int .i64 d.kind, .int .i64 d.days, .int .i64 d.fr] 28)) (w.heap.size + 1) 28 #[.string d.num, .string d.drw, .string d.dre, .string d.pay, .string d.cur, .int .i64 d.amt, .int .i64 d.kind, .int .i64 d.days, .int .i64 d.fr] := blk_second _ _ _ _
  have b0 := hkc0.cell 0; have b1 := hkc0.cell 1
  simp only [List.getElem?_toArray, List.getElem?_cons_zero, List.getElem?_cons_succ] at b0 b1
  have a0 := hkd0.cell 0; have a1 := hkd0.cell 1; have a2 := hkd0.cell 2; have a3 := hkd0.cell 3; have a4 := hkd0.cell 4; have a5 := hkd0.cell 5; have a6 := hkd0.cell 6; have a7 := hkd0.cell 7; have a8 := hkd0.cell 8
  simp only [List.getElem?_toArray, List.getElem?_cons_zero, List.getElem?_cons_succ] at a0 a1 a2 a3 a4 a5 a6 a7 a8
  go_enter Tryz.func3, Tryz.ntmps3
  go_wp2_with fail
  refine (awake_any _).mono ?_
  rintro e w1 ⟨rfl, hb1⟩
  have hB1 := hB0.trans (hb1.mono hB0.size)
  have hkc1 := hkc0.below hb1 hkc0.lt
  have hkd1 := hkd0.below hb1 hkd0.lt
  clear a0 a1 a2 a3 a4 a5 a6 a7 a8 b0 b1
  clear hB0 hkc0 hkd0 hb1
  have b0 := hkc1.cell 0; have b1 := hkc1.cell 1
  simp only [List.getElem?_toArray, List.getElem?_cons_zero, List.getElem?_cons_succ] at b0 b1
  have a0 := hkd1.cell 0; have a1 := hkd1.cell 1; have a2 := hkd1.cell 2; have a3 := hkd1.cell 3; have a4 := hkd1.cell 4; have a5 := hkd1.cell 5; have a6 := hkd1.cell 6; have a7 := hkd1.cell 7; have a8 := hkd1.cell 8
  simp only [List.getElem?_toArray, List.getElem?_cons_zero, List.getElem?_cons_succ] at a0 a1 a2 a3 a4 a5 a6 a7 a8
  go_wp2_with fail
  refine (long_any d _ HD.out).mono ?_
  rintro e w2 ⟨⟨v, rfl⟩, hb2⟩
  have hB2 := hB1.trans (hb2.mono hB1.size)
  have hkc2 := hkc1.below hb2 hkc1.lt
  have hkd2 := hkd1.below hb2 hkd1.lt
  clear a0 a1 a2 a3 a4 a5 a6 a7 a8 b0 b1
  clear hB1 hkc1 hkd1 hb2
  have b0 := hkc2.cell 0; have b1 := hkc2.cell 1
  simp only [List.getElem?_toArray, List.getElem?_cons_zero, List.getElem?_cons_succ] at b0 b1
  have a0 := hkd2.cell 0; have a1 := hkd2.cell 1; have a2 := hkd2.cell 2; have a3 := hkd2.cell 3; have a4 := hkd2.cell 4; have a5 := hkd2.cell 5; have a6 := hkd2.cell 6; have a7 := hkd2.cell 7; have a8 := hkd2.cell 8
  simp only [List.getElem?_toArray, List.getElem?_cons_zero, List.getElem?_cons_succ] at a0 a1 a2 a3 a4 a5 a6 a7 a8
  by_cases hv : v = true
  · subst hv
    go_wp2_with fail
    go_ret
    exact ⟨rfl, hB2⟩
  obtain rfl : v = false := by simpa using hv
  clear hv
  by_cases h20 : 20 < n1
  · have g1 : decide ((20 : Int) < (n1 : Int)) = true := decide_eq_true (by omega)
    go_wp2_with fail
    go_ret
    exact ⟨rfl, hB2⟩
  have g1 : decide ((20 : Int) < (n1 : Int)) = false := decide_eq_false (by omega)
  by_cases h60 : 60 < n2
  · have g2 : decide ((60 : Int) < (n2 : Int)) = true := decide_eq_true (by omega)
    go_wp2_with fail
    go_ret
    exact ⟨rfl, hB2⟩
  have g2 : decide ((60 : Int) < (n2 : Int)) = false := decide_eq_false (by omega)
  go_wp2_with fail
  refine (HDU.out _ (H1.out.below hB2) (H2.out.below hB2)).mono ?_
  rintro e w3 ⟨rfl, hb3⟩
  have hB3 := hB2.trans (hb3.mono hB2.size)
  have hkc3 := hkc2.below hb3 hkc2.lt
  have hkd3 := hkd2.below hb3 hkd2.lt
  clear a0 a1 a2 a3 a4 a5 a6 a7 a8 b0 b1
  clear hB2 hkc2 hkd2 hb3
  have b0 := hkc3.cell 0; have b1 := hkc3.cell 1
  simp only [List.getElem?_toArray, List.getElem?_cons_zero, List.getElem?_cons_succ] at b0 b1
  have a0 := hkd3.cell 0; have a1 := hkd3.cell 1; have a2 := hkd3.cell 2; have a3 := hkd3.cell 3; have a4 := hkd3.cell 4; have a5 := hkd3.cell 5; have a6 := hkd3.cell 6; have a7 := hkd3.cell 7; have a8 := hkd3.cell 8
  simp only [List.getElem?_toArray, List.getElem?_cons_zero, List.getElem?_cons_succ] at a0 a1 a2 a3 a4 a5 a6 a7 a8
  go_wp2_with fail
  refine (HDR.out _ (H1.out.below hB3) (H2.out.below hB3)).mono ?_
  rintro e w4 ⟨rfl, hb4⟩
  have hB4 := hB3.trans (hb4.mono hB3.size)
  have hkc4 := hkc3.below hb4 hkc3.lt
  have hkd4 := hkd3.below hb4 hkd3.lt
  clear a0 a1 a2 a3 a4 a5 a6 a7 a8 b0 b1
  clear hB3 hkc3 hkd3 hb4
  have b0 := hkc4.cell 0; have b1 := hkc4.cell 1
  simp only [List.getElem?_toArray, List.getElem?_cons_zero, List.getElem?_cons_succ] at b0 b1
  have a0 := hkd4.cell 0; have a1 := hkd4.cell 1; have a2 := hkd4.cell 2; have a3 := hkd4.cell 3; have a4 := hkd4.cell 4; have a5 := hkd4.cell 5; have a6 := hkd4.cell 6; have a7 := hkd4.cell 7; have a8 := hkd4.cell 8
  simp only [List.getElem?_toArray, List.getElem?_cons_zero, List.getElem?_cons_succ] at a0 a1 a2 a3 a4 a5 a6 a7 a8
  clear HDU HDR g1 g2 h20 h60
  have z0 : (N != N) = false := by simp
  have z1 : (OK != OK) = false := by simp
  cases hm : mayD d
  · obtain rfl := hmo hm
    rw [hm] at HM HR
    have HMM := Lib.hid hm
    clear hm hmo hwk
    go_wp2_with fail
    have p0 := wof_cell a0; have p1 := wof_cell a1; have p2 := wof_cell a2; have p3 := wof_cell a3; have p4 := wof_cell a4; have p5 := wof_cell a5; have p6 := wof_cell a6; have p7 := wof_cell a7; have p8 := wof_cell a8
    have q0 := wof_cell b0; have q1 := wof_cell b1
    have s1 := Lib.hid (H1.out.below hB4)
    have s2 := Lib.hid (H2.out.below hB4)
    have QW := Lib.hid (fun (x : BW w4) => HW.out (wof x) (s1.out.below (wof_below x)) (s2.out.below (wof_below x)) m1 m2)
    have QM := Lib.hid (fun (x : BW w4) => HM.out (wof x))
    have QR := Lib.hid (fun (x : BW w4) => HR.out (wof x))
    refine wp_region_quiet_below (by kernel_rfl) (by kernel_rfl) ?_
    repeat (go_big_quiet_step ((first | (go_at_call 8; exact quiet_below (QM.out _)) | (go_at_call 9; exact quiet_below (QR.out _)) | (go_at_call 10; exact quiet_below (QW.out _)))))
    refine wpQuiet_nil ?_
    intro w5 hb5
    clear p0 p1 p2 p3 p4 p5 p6 p7 p8 q0 q1 QW QM QR s1 s2
    have hB5 := hB4.trans (hb5.mono hB4.size)
    have hkc5 := hkc4.below hb5 hkc4.lt
    have hkd5 := hkd4.below hb5 hkd4.lt
    clear a0 a1 a2 a3 a4 a5 a6 a7 a8 b0 b1
    clear hB4 hkc4 hkd4 hb5
    have b0 := hkc5.cell 0; have b1 := hkc5.cell 1
    simp only [List.getElem?_toArray, List.getElem?_cons_zero, List.getElem?_cons_succ] at b0 b1
    have a0 := hkd5.cell 0; have a1 := hkd5.cell 1; have a2 := hkd5.cell 2; have a3 := hkd5.cell 3; have a4 := hkd5.cell 4; have a5 := hkd5.cell 5; have a6 := hkd5.cell 6; have a7 := hkd5.cell 7; have a8 := hkd5.cell 8
    simp only [List.getElem?_toArray, List.getElem?_cons_zero, List.getElem?_cons_succ] at a0 a1 a2 a3 a4 a5 a6 a7 a8
    go_wp2_with fail
    refine (HR.out _).mono ?_
    rintro e w6 ⟨rfl, hb6⟩
    have hB6 := hB5.trans (hb6.mono hB5.size)
    have hkc6 := hkc5.below hb6 hkc5.lt
    have hkd6 := hkd5.below hb6 hkd5.lt
    clear a0 a1 a2 a3 a4 a5 a6 a7 a8 b0 b1
    clear hB5 hkc5 hkd5 hb6
    have b0 := hkc6.cell 0; have b1 := hkc6.cell 1
    simp only [List.getElem?_toArray, List.getElem?_cons_zero, List.getElem?_cons_succ] at b0 b1
    have a0 := hkd6.cell 0; have a1 := hkd6.cell 1; have a2 := hkd6.cell 2; have a3 := hkd6.cell 3; have a4 := hkd6.cell 4; have a5 := hkd6.cell 5; have a6 := hkd6.cell 6; have a7 := hkd6.cell 7; have a8 := hkd6.cell 8
    simp only [List.getElem?_toArray, List.getElem?_cons_zero, List.getElem?_cons_succ] at a0 a1 a2 a3 a4 a5 a6 a7 a8
    go_wp2_with fail
    refine (dtext_no d _ HD.out HMM.out).mono ?_
    rintro e w7 ⟨rfl, hb7⟩
    have hB7 := hB6.trans (hb7.mono hB6.size)
    go_wp2_with fail
    go_ret
    exact ⟨rfl, hB7⟩
  · have HMM := Lib.hid hm
    rw [hm] at HM HR
    clear hm hmo
    cases OK
    · clear hwk
      go_wp2_with fail
      have p0 := wof_cell a0; have p1 := wof_cell a1; have p2 := wof_cell a2; have p3 := wof_cell a3; have p4 := wof_cell a4; have p5 := wof_cell a5; have p6 := wof_cell a6; have p7 := wof_cell a7; have p8 := wof_cell a8
      have q0 := wof_cell b0; have q1 := wof_cell b1
      have s1 := Lib.hid (H1.out.below hB4)
      have s2 := Lib.hid (H2.out.below hB4)
      have QW := Lib.hid (fun (x : BW w4) => HW.out (wof x) (s1.out.below (wof_below x)) (s2.out.below (wof_below x)) m1 m2)
      have QM := Lib.hid (fun (x : BW w4) => HM.out (wof x))
      have QR := Lib.hid (fun (x : BW w4) => HR.out (wof x))
      refine wp_region_quiet_below (by kernel_rfl) (by kernel_rfl) ?_
      repeat (go_big_quiet_step ((first | (go_at_call 8; exact quiet_below (QM.out _)) | (go_at_call 9; exact quiet_below (QR.out _)) | (go_at_call 10; exact quiet_below (QW.out _)))))
      refine wpQuiet_nil ?_
      intro w5 hb5
      clear p0 p1 p2 p3 p4 p5 p6 p7 p8 q0 q1 QW QM QR s1 s2
      have hB5 := hB4.trans (hb5.mono hB4.size)
      have hkc5 := hkc4.below hb5 hkc4.lt
      have hkd5 := hkd4.below hb5 hkd4.lt
      clear a0 a1 a2 a3 a4 a5 a6 a7 a8 b0 b1
      clear hB4 hkc4 hkd4 hb5
      have b0 := hkc5.cell 0; have b1 := hkc5.cell 1
      simp only [List.getElem?_toArray, List.getElem?_cons_zero, List.getElem?_cons_succ] at b0 b1
      have a0 := hkd5.cell 0; have a1 := hkd5.cell 1; have a2 := hkd5.cell 2; have a3 := hkd5.cell 3; have a4 := hkd5.cell 4; have a5 := hkd5.cell 5; have a6 := hkd5.cell 6; have a7 := hkd5.cell 7; have a8 := hkd5.cell 8
      simp only [List.getElem?_toArray, List.getElem?_cons_zero, List.getElem?_cons_succ] at a0 a1 a2 a3 a4 a5 a6 a7 a8
      go_wp2_with fail
      refine (HR.out _).mono ?_
      rintro e w6 ⟨rfl, hb6⟩
      have hB6 := hB5.trans (hb6.mono hB5.size)
      have hkc6 := hkc5.below hb6 hkc5.lt
      have hkd6 := hkd5.below hb6 hkd5.lt
      clear a0 a1 a2 a3 a4 a5 a6 a7 a8 b0 b1
      clear hB5 hkc5 hkd5 hb6
      have b0 := hkc6.cell 0; have b1 := hkc6.cell 1
      simp only [List.getElem?_toArray, List.getElem?_cons_zero, List.getElem?_cons_succ] at b0 b1
      have a0 := hkd6.cell 0; have a1 := hkd6.cell 1; have a2 := hkd6.cell 2; have a3 := hkd6.cell 3; have a4 := hkd6.cell 4; have a5 := hkd6.cell 5; have a6 := hkd6.cell 6; have a7 := hkd6.cell 7; have a8 := hkd6.cell 8
      simp only [List.getElem?_toArray, List.getElem?_cons_zero, List.getElem?_cons_succ] at a0 a1 a2 a3 a4 a5 a6 a7 a8
      go_wp2_with fail
      have hk3 := Blk.new w6 9 #[.string ⟨#[115, 105, 103, 104, 116]⟩, .string ⟨#[97, 102, 116, 101, 114, 45, 115, 105, 103, 104, 116]⟩, .string ⟨#[97, 102, 116, 101, 114, 45, 100, 97, 116, 101]⟩]
      have hb7 : Below w6.heap.size w6 (w6.alloc (.cells #[.string ⟨#[115, 105, 103, 104, 116]⟩, .string ⟨#[97, 102, 116, 101, 114, 45, 115, 105, 103, 104, 116]⟩, .string ⟨#[97, 102, 116, 101, 114, 45, 100, 97, 116, 101]⟩] 9)) := one_alloc _ _
      obtain ⟨w7, hw7⟩ : ∃ W, w6.alloc (.cells #[.string ⟨#[115, 105, 103, 104, 116]⟩, .string ⟨#[97, 102, 116, 101, 114, 45, 115, 105, 103, 104, 116]⟩, .string ⟨#[97, 102, 116, 101, 114, 45, 100, 97, 116, 101]⟩] 9) = W := ⟨_, rfl⟩
      rw [hw7] at hk3 hb7 ⊢
      have hB7 := hB6.trans (hb7.mono hB6.size)
      have hkc7 := hkc6.below hb7 hkc6.lt
      have hkd7 := hkd6.below hb7 hkd6.lt
      clear a0 a1 a2 a3 a4 a5 a6 a7 a8 b0 b1
      clear hB6 hkc6 hkd6 hb7
      have b0 := hkc7.cell 0; have b1 := hkc7.cell 1
      simp only [List.getElem?_toArray, List.getElem?_cons_zero, List.getElem?_cons_succ] at b0 b1
      have a0 := hkd7.cell 0; have a1 := hkd7.cell 1; have a2 := hkd7.cell 2; have a3 := hkd7.cell 3; have a4 := hkd7.cell 4; have a5 := hkd7.cell 5; have a6 := hkd7.cell 6; have a7 := hkd7.cell 7; have a8 := hkd7.cell 8
      simp only [List.getElem?_toArray, List.getElem?_cons_zero, List.getElem?_cons_succ] at a0 a1 a2 a3 a4 a5 a6 a7 a8
      clear hw7
      obtain ⟨gk, hgk⟩ : ∃ g, w6.heap.size = g := ⟨_, rfl⟩
      rw [hgk] at hk3 ⊢
      clear hgk
      have k0 := hk3.cell 0; have k1 := hk3.cell 1; have k2 := hk3.cell 2
      simp only [List.getElem?_toArray, List.getElem?_cons_zero, List.getElem?_cons_succ] at k0 k1 k2
      clear hk3
      have hB := may_b HMM.out
      have x0 := hB.n; have x1 := hB.w; have x2 := hB.e; have x3 := hB.p; have x4 := hB.m; have x5 := hB.k; have x6 := hB.f; have x7 := hB.y
      have y1 := itS_size x6.1 x6.2
      have y2 := itS_size x7.1 (by omega)
      have HTT := Lib.hid (fun (x : BW w7) => (HT.out.on (hB7.trans ((wof_below x).mono hB7.size))).here)
      have QT := Lib.hid (fun (x : BW w7) => dtext_ok d (wof x) HD.out HMM.out (HTT.out x))
      have QM := Lib.hid (fun (x : BW w7) => text_any (dmon d) (wof x) HD.out.c (HTT.out x))
      have QI := Lib.hid (fun (x : BW w7) => rdig_int d.days x7.1 (by omega) (wof x))
      have QJ := Lib.hid (fun (x : BW w7) => rdig_int d.fr x6.1 (by omega) (wof x))
      have HE : Hid (joinW [d.num, d.drw, d.dre, d.pay, textV (dmon d), kindS d.kind, itS d.days, itS d.fr] = dtxV d) := Lib.hid rfl
      obtain ⟨TV, hTV⟩ : ∃ T, textV (dmon d) = T := ⟨_, rfl⟩
      obtain ⟨ID, hID⟩ : ∃ T, itS d.days = T := ⟨_, rfl⟩
      obtain ⟨IF, hIF⟩ : ∃ T, itS d.fr = T := ⟨_, rfl⟩
      obtain ⟨DT, hDT⟩ : ∃ T, dtxV d = T := ⟨_, rfl⟩
      rw [hTV, hID, hIF, hDT] at HE
      rw [hTV] at QM x4
      rw [hID] at QI y2
      rw [hIF] at QJ y1
      rw [hDT] at QT
      have hkk : d.kind = 0 ∨ d.kind = 1 ∨ d.kind = 2 := by omega
      clear hTV hID hIF hDT hB x5 x6 x7
      rcases hkk with hk | hk | hk
      · rw [hk] at a6 QT
        have HE2 : Hid (DT = d.num ++ (⟨#[32]⟩ : ByteArray) ++ d.drw ++ (⟨#[32]⟩ : ByteArray) ++ d.dre ++ (⟨#[32]⟩ : ByteArray) ++ d.pay ++ (⟨#[32]⟩ : ByteArray) ++ TV ++ (⟨#[32]⟩ : ByteArray) ++ (⟨#[115, 105, 103, 104, 116]⟩ : ByteArray) ++ (⟨#[32]⟩ : ByteArray) ++ ID ++ (⟨#[32]⟩ : ByteArray) ++ IF) := Lib.hid (by rw [← HE.out, show kindS d.kind = (⟨#[115, 105, 103, 104, 116]⟩ : ByteArray) by rw [hk]; rfl, join8])
        clear HE hk
        have p0 := wof_cell a0; have p1 := wof_cell a1; have p2 := wof_cell a2; have p3 := wof_cell a3; have p4 := wof_cell a4; have p5 := wof_cell a5; have p6 := wof_cell a6; have p7 := wof_cell a7; have p8 := wof_cell a8
        have l0 := wof_cell k0; have l1 := wof_cell k1; have l2 := wof_cell k2
        refine wp_region_quiet_below (by kernel_rfl) (by kernel_rfl) ?_
        repeat (go_big_quiet_step ((first | (go_at_call 11; exact quiet_below (QT.out _)) | (go_at_call 12; exact quiet_below (QM.out _)) | (go_at_call 13; first | (with_reducible exact quiet_below (QI.out _)) | (with_reducible exact quiet_below (QJ.out _))))))
        refine wpQuiet_nil ?_
        intro w8 hb8
        have hB8 := hB7.trans (hb8.mono hB7.size)
        clear p0 p1 p2 p3 p4 p5 p6 p7 p8 l0 l1 l2 k0 k1 k2 hb8 hkc7 hkd7 hB7
        clear a0 a1 a2 a3 a4 a5 a6 a7 a8 b0 b1
        go_wp2_with fail
        go_ret
        exact ⟨ret_bool (by rw [eq_str]; exact decide_eq_true HE2.out), hB8⟩
      · rw [hk] at a6 QT
        have HE2 : Hid (DT = d.num ++ (⟨#[32]⟩ : ByteArray) ++ d.drw ++ (⟨#[32]⟩ : ByteArray) ++ d.dre ++ (⟨#[32]⟩ : ByteArray) ++ d.pay ++ (⟨#[32]⟩ : ByteArray) ++ TV ++ (⟨#[32]⟩ : ByteArray) ++ (⟨#[97, 102, 116, 101, 114, 45, 115, 105, 103, 104, 116]⟩ : ByteArray) ++ (⟨#[32]⟩ : ByteArray) ++ ID ++ (⟨#[32]⟩ : ByteArray) ++ IF) := Lib.hid (by rw [← HE.out, show kindS d.kind = (⟨#[97, 102, 116, 101, 114, 45, 115, 105, 103, 104, 116]⟩ : ByteArray) by rw [hk]; rfl, join8])
        clear HE hk
        have p0 := wof_cell a0; have p1 := wof_cell a1; have p2 := wof_cell a2; have p3 := wof_cell a3; have p4 := wof_cell a4; have p5 := wof_cell a5; have p6 := wof_cell a6; have p7 := wof_cell a7; have p8 := wof_cell a8
        have l0 := wof_cell k0; have l1 := wof_cell k1; have l2 := wof_cell k2
        refine wp_region_quiet_below (by kernel_rfl) (by kernel_rfl) ?_
        repeat (go_big_quiet_step ((first | (go_at_call 11; exact quiet_below (QT.out _)) | (go_at_call 12; exact quiet_below (QM.out _)) | (go_at_call 13; first | (with_reducible exact quiet_below (QI.out _)) | (with_reducible exact quiet_below (QJ.out _))))))
        refine wpQuiet_nil ?_
        intro w8 hb8
        have hB8 := hB7.trans (hb8.mono hB7.size)
        clear p0 p1 p2 p3 p4 p5 p6 p7 p8 l0 l1 l2 k0 k1 k2 hb8 hkc7 hkd7 hB7
        clear a0 a1 a2 a3 a4 a5 a6 a7 a8 b0 b1
        go_wp2_with fail
        go_ret
        exact ⟨ret_bool (by rw [eq_str]; exact decide_eq_true HE2.out), hB8⟩
      · rw [hk] at a6 QT
        have HE2 : Hid (DT = d.num ++ (⟨#[32]⟩ : ByteArray) ++ d.drw ++ (⟨#[32]⟩ : ByteArray) ++ d.dre ++ (⟨#[32]⟩ : ByteArray) ++ d.pay ++ (⟨#[32]⟩ : ByteArray) ++ TV ++ (⟨#[32]⟩ : ByteArray) ++ (⟨#[97, 102, 116, 101, 114, 45, 100, 97, 116, 101]⟩ : ByteArray) ++ (⟨#[32]⟩ : ByteArray) ++ ID ++ (⟨#[32]⟩ : ByteArray) ++ IF) := Lib.hid (by rw [← HE.out, show kindS d.kind = (⟨#[97, 102, 116, 101, 114, 45, 100, 97, 116, 101]⟩ : ByteArray) by rw [hk]; rfl, join8])
        clear HE hk
        have p0 := wof_cell a0; have p1 := wof_cell a1; have p2 := wof_cell a2; have p3 := wof_cell a3; have p4 := wof_cell a4; have p5 := wof_cell a5; have p6 := wof_cell a6; have p7 := wof_cell a7; have p8 := wof_cell a8
        have l0 := wof_cell k0; have l1 := wof_cell k1; have l2 := wof_cell k2
        refine wp_region_quiet_below (by kernel_rfl) (by kernel_rfl) ?_
        repeat (go_big_quiet_step ((first | (go_at_call 11; exact quiet_below (QT.out _)) | (go_at_call 12; exact quiet_below (QM.out _)) | (go_at_call 13; first | (with_reducible exact quiet_below (QI.out _)) | (with_reducible exact quiet_below (QJ.out _))))))
        refine wpQuiet_nil ?_
        intro w8 hb8
        have hB8 := hB7.trans (hb8.mono hB7.size)
        clear p0 p1 p2 p3 p4 p5 p6 p7 p8 l0 l1 l2 k0 k1 k2 hb8 hkc7 hkd7 hB7
        clear a0 a1 a2 a3 a4 a5 a6 a7 a8 b0 b1
        go_wp2_with fail
        go_ret
        exact ⟨ret_bool (by rw [eq_str]; exact decide_eq_true HE2.out), hB8⟩
    · have hwk2 := hwk rfl
      rw [hwk2] at HW
      clear hwk hwk2
      go_wp2_with fail
      have p0 := wof_cell a0; have p1 := wof_cell a1; have p2 := wof_cell a2; have p3 := wof_cell a3; have p4 := wof_cell a4; have p5 := wof_cell a5; have p6 := wof_cell a6; have p7 := wof_cell a7; have p8 := wof_cell a8
      have q0 := wof_cell b0; have q1 := wof_cell b1
      have s1 := Lib.hid (H1.out.below hB4)
      have s2 := Lib.hid (H2.out.below hB4)
      have QW := Lib.hid (fun (x : BW w4) => HW.out (wof x) (s1.out.below (wof_below x)) (s2.out.below (wof_below x)) m1 m2)
      have QM := Lib.hid (fun (x : BW w4) => HM.out (wof x))
      have QR := Lib.hid (fun (x : BW w4) => HR.out (wof x))
      refine wp_region_quiet_below (by kernel_rfl) (by kernel_rfl) ?_
      repeat (go_big_quiet_step ((first | (go_at_call 8; exact quiet_below (QM.out _)) | (go_at_call 9; exact quiet_below (QR.out _)) | (go_at_call 10; exact quiet_below (QW.out _)))))
      refine wpQuiet_nil ?_
      intro w5 hb5
      clear p0 p1 p2 p3 p4 p5 p6 p7 p8 q0 q1 QW QM QR s1 s2
      have hB5 := hB4.trans (hb5.mono hB4.size)
      have hkc5 := hkc4.below hb5 hkc4.lt
      have hkd5 := hkd4.below hb5 hkd4.lt
      clear a0 a1 a2 a3 a4 a5 a6 a7 a8 b0 b1
      clear hB4 hkc4 hkd4 hb5
      have b0 := hkc5.cell 0; have b1 := hkc5.cell 1
      simp only [List.getElem?_toArray, List.getElem?_cons_zero, List.getElem?_cons_succ] at b0 b1
      have a0 := hkd5.cell 0; have a1 := hkd5.cell 1; have a2 := hkd5.cell 2; have a3 := hkd5.cell 3; have a4 := hkd5.cell 4; have a5 := hkd5.cell 5; have a6 := hkd5.cell 6; have a7 := hkd5.cell 7; have a8 := hkd5.cell 8
      simp only [List.getElem?_toArray, List.getElem?_cons_zero, List.getElem?_cons_succ] at a0 a1 a2 a3 a4 a5 a6 a7 a8
      go_wp2_with fail
      refine (HR.out _).mono ?_
      rintro e w6 ⟨rfl, hb6⟩
      have hB6 := hB5.trans (hb6.mono hB5.size)
      have hkc6 := hkc5.below hb6 hkc5.lt
      have hkd6 := hkd5.below hb6 hkd5.lt
      clear a0 a1 a2 a3 a4 a5 a6 a7 a8 b0 b1
      clear hB5 hkc5 hkd5 hb6
      have b0 := hkc6.cell 0; have b1 := hkc6.cell 1
      simp only [List.getElem?_toArray, List.getElem?_cons_zero, List.getElem?_cons_succ] at b0 b1
      have a0 := hkd6.cell 0; have a1 := hkd6.cell 1; have a2 := hkd6.cell 2; have a3 := hkd6.cell 3; have a4 := hkd6.cell 4; have a5 := hkd6.cell 5; have a6 := hkd6.cell 6; have a7 := hkd6.cell 7; have a8 := hkd6.cell 8
      simp only [List.getElem?_toArray, List.getElem?_cons_zero, List.getElem?_cons_succ] at a0 a1 a2 a3 a4 a5 a6 a7 a8
      go_wp2_with fail
      have hk3 := Blk.new w6 9 #[.string ⟨#[115, 105, 103, 104, 116]⟩, .string ⟨#[97, 102, 116, 101, 114, 45, 115, 105, 103, 104, 116]⟩, .string ⟨#[97, 102, 116, 101, 114, 45, 100, 97, 116, 101]⟩]
      have hb7 : Below w6.heap.size w6 (w6.alloc (.cells #[.string ⟨#[115, 105, 103, 104, 116]⟩, .string ⟨#[97, 102, 116, 101, 114, 45, 115, 105, 103, 104, 116]⟩, .string ⟨#[97, 102, 116, 101, 114, 45, 100, 97, 116, 101]⟩] 9)) := one_alloc _ _
      obtain ⟨w7, hw7⟩ : ∃ W, w6.alloc (.cells #[.string ⟨#[115, 105, 103, 104, 116]⟩, .string ⟨#[97, 102, 116, 101, 114, 45, 115, 105, 103, 104, 116]⟩, .string ⟨#[97, 102, 116, 101, 114, 45, 100, 97, 116, 101]⟩] 9) = W := ⟨_, rfl⟩
      rw [hw7] at hk3 hb7 ⊢
      have hB7 := hB6.trans (hb7.mono hB6.size)
      have hkc7 := hkc6.below hb7 hkc6.lt
      have hkd7 := hkd6.below hb7 hkd6.lt
      clear a0 a1 a2 a3 a4 a5 a6 a7 a8 b0 b1
      clear hB6 hkc6 hkd6 hb7
      have b0 := hkc7.cell 0; have b1 := hkc7.cell 1
      simp only [List.getElem?_toArray, List.getElem?_cons_zero, List.getElem?_cons_succ] at b0 b1
      have a0 := hkd7.cell 0; have a1 := hkd7.cell 1; have a2 := hkd7.cell 2; have a3 := hkd7.cell 3; have a4 := hkd7.cell 4; have a5 := hkd7.cell 5; have a6 := hkd7.cell 6; have a7 := hkd7.cell 7; have a8 := hkd7.cell 8
      simp only [List.getElem?_toArray, List.getElem?_cons_zero, List.getElem?_cons_succ] at a0 a1 a2 a3 a4 a5 a6 a7 a8
      clear hw7
      obtain ⟨gk, hgk⟩ : ∃ g, w6.heap.size = g := ⟨_, rfl⟩
      rw [hgk] at hk3 ⊢
      clear hgk
      have k0 := hk3.cell 0; have k1 := hk3.cell 1; have k2 := hk3.cell 2
      simp only [List.getElem?_toArray, List.getElem?_cons_zero, List.getElem?_cons_succ] at k0 k1 k2
      clear hk3
      have hB := may_b HMM.out
      have x0 := hB.n; have x1 := hB.w; have x2 := hB.e; have x3 := hB.p; have x4 := hB.m; have x5 := hB.k; have x6 := hB.f; have x7 := hB.y
      have y1 := itS_size x6.1 x6.2
      have y2 := itS_size x7.1 (by omega)
      have HTT := Lib.hid (fun (x : BW w7) => (HT.out.on (hB7.trans ((wof_below x).mono hB7.size))).here)
      have QT := Lib.hid (fun (x : BW w7) => dtext_ok d (wof x) HD.out HMM.out (HTT.out x))
      have QM := Lib.hid (fun (x : BW w7) => text_any (dmon d) (wof x) HD.out.c (HTT.out x))
      have QI := Lib.hid (fun (x : BW w7) => rdig_int d.days x7.1 (by omega) (wof x))
      have QJ := Lib.hid (fun (x : BW w7) => rdig_int d.fr x6.1 (by omega) (wof x))
      have HE : Hid (joinW [d.num, d.drw, d.dre, d.pay, textV (dmon d), kindS d.kind, itS d.days, itS d.fr] = dtxV d) := Lib.hid rfl
      obtain ⟨TV, hTV⟩ : ∃ T, textV (dmon d) = T := ⟨_, rfl⟩
      obtain ⟨ID, hID⟩ : ∃ T, itS d.days = T := ⟨_, rfl⟩
      obtain ⟨IF, hIF⟩ : ∃ T, itS d.fr = T := ⟨_, rfl⟩
      obtain ⟨DT, hDT⟩ : ∃ T, dtxV d = T := ⟨_, rfl⟩
      rw [hTV, hID, hIF, hDT] at HE
      rw [hTV] at QM x4
      rw [hID] at QI y2
      rw [hIF] at QJ y1
      rw [hDT] at QT
      have hkk : d.kind = 0 ∨ d.kind = 1 ∨ d.kind = 2 := by omega
      clear hTV hID hIF hDT hB x5 x6 x7
      rcases hkk with hk | hk | hk
      · rw [hk] at a6 QT
        have HE2 : Hid (DT = d.num ++ (⟨#[32]⟩ : ByteArray) ++ d.drw ++ (⟨#[32]⟩ : ByteArray) ++ d.dre ++ (⟨#[32]⟩ : ByteArray) ++ d.pay ++ (⟨#[32]⟩ : ByteArray) ++ TV ++ (⟨#[32]⟩ : ByteArray) ++ (⟨#[115, 105, 103, 104, 116]⟩ : ByteArray) ++ (⟨#[32]⟩ : ByteArray) ++ ID ++ (⟨#[32]⟩ : ByteArray) ++ IF) := Lib.hid (by rw [← HE.out, show kindS d.kind = (⟨#[115, 105, 103, 104, 116]⟩ : ByteArray) by rw [hk]; rfl, join8])
        clear HE hk
        have p0 := wof_cell a0; have p1 := wof_cell a1; have p2 := wof_cell a2; have p3 := wof_cell a3; have p4 := wof_cell a4; have p5 := wof_cell a5; have p6 := wof_cell a6; have p7 := wof_cell a7; have p8 := wof_cell a8
        have l0 := wof_cell k0; have l1 := wof_cell k1; have l2 := wof_cell k2
        refine wp_region_quiet_below (by kernel_rfl) (by kernel_rfl) ?_
        repeat (go_big_quiet_step ((first | (go_at_call 11; exact quiet_below (QT.out _)) | (go_at_call 12; exact quiet_below (QM.out _)) | (go_at_call 13; first | (with_reducible exact quiet_below (QI.out _)) | (with_reducible exact quiet_below (QJ.out _))))))
        refine wpQuiet_nil ?_
        intro w8 hb8
        have hB8 := hB7.trans (hb8.mono hB7.size)
        clear p0 p1 p2 p3 p4 p5 p6 p7 p8 l0 l1 l2 k0 k1 k2 hb8 hkc7 hkd7 hB7
        clear a0 a1 a2 a3 a4 a5 a6 a7 a8 b0 b1
        go_wp2_with fail
        go_ret
        exact ⟨ret_bool (by rw [eq_str]; exact decide_eq_true HE2.out), hB8⟩
      · rw [hk] at a6 QT
        have HE2 : Hid (DT = d.num ++ (⟨#[32]⟩ : ByteArray) ++ d.drw ++ (⟨#[32]⟩ : ByteArray) ++ d.dre ++ (⟨#[32]⟩ : ByteArray) ++ d.pay ++ (⟨#[32]⟩ : ByteArray) ++ TV ++ (⟨#[32]⟩ : ByteArray) ++ (⟨#[97, 102, 116, 101, 114, 45, 115, 105, 103, 104, 116]⟩ : ByteArray) ++ (⟨#[32]⟩ : ByteArray) ++ ID ++ (⟨#[32]⟩ : ByteArray) ++ IF) := Lib.hid (by rw [← HE.out, show kindS d.kind = (⟨#[97, 102, 116, 101, 114, 45, 115, 105, 103, 104, 116]⟩ : ByteArray) by rw [hk]; rfl, join8])
        clear HE hk
        have p0 := wof_cell a0; have p1 := wof_cell a1; have p2 := wof_cell a2; have p3 := wof_cell a3; have p4 := wof_cell a4; have p5 := wof_cell a5; have p6 := wof_cell a6; have p7 := wof_cell a7; have p8 := wof_cell a8
        have l0 := wof_cell k0; have l1 := wof_cell k1; have l2 := wof_cell k2
        refine wp_region_quiet_below (by kernel_rfl) (by kernel_rfl) ?_
        repeat (go_big_quiet_step ((first | (go_at_call 11; exact quiet_below (QT.out _)) | (go_at_call 12; exact quiet_below (QM.out _)) | (go_at_call 13; first | (with_reducible exact quiet_below (QI.out _)) | (with_reducible exact quiet_below (QJ.out _))))))
        refine wpQuiet_nil ?_
        intro w8 hb8
        have hB8 := hB7.trans (hb8.mono hB7.size)
        clear p0 p1 p2 p3 p4 p5 p6 p7 p8 l0 l1 l2 k0 k1 k2 hb8 hkc7 hkd7 hB7
        clear a0 a1 a2 a3 a4 a5 a6 a7 a8 b0 b1
        go_wp2_with fail
        go_ret
        exact ⟨ret_bool (by rw [eq_str]; exact decide_eq_true HE2.out), hB8⟩
      · rw [hk] at a6 QT
        have HE2 : Hid (DT = d.num ++ (⟨#[32]⟩ : ByteArray) ++ d.drw ++ (⟨#[32]⟩ : ByteArray) ++ d.dre ++ (⟨#[32]⟩ : ByteArray) ++ d.pay ++ (⟨#[32]⟩ : ByteArray) ++ TV ++ (⟨#[32]⟩ : ByteArray) ++ (⟨#[97, 102, 116, 101, 114, 45, 100, 97, 116, 101]⟩ : ByteArray) ++ (⟨#[32]⟩ : ByteArray) ++ ID ++ (⟨#[32]⟩ : ByteArray) ++ IF) := Lib.hid (by rw [← HE.out, show kindS d.kind = (⟨#[97, 102, 116, 101, 114, 45, 100, 97, 116, 101]⟩ : ByteArray) by rw [hk]; rfl, join8])
        clear HE hk
        have p0 := wof_cell a0; have p1 := wof_cell a1; have p2 := wof_cell a2; have p3 := wof_cell a3; have p4 := wof_cell a4; have p5 := wof_cell a5; have p6 := wof_cell a6; have p7 := wof_cell a7; have p8 := wof_cell a8
        have l0 := wof_cell k0; have l1 := wof_cell k1; have l2 := wof_cell k2
        refine wp_region_quiet_below (by kernel_rfl) (by kernel_rfl) ?_
        repeat (go_big_quiet_step ((first | (go_at_call 11; exact quiet_below (QT.out _)) | (go_at_call 12; exact quiet_below (QM.out _)) | (go_at_call 13; first | (with_reducible exact quiet_below (QI.out _)) | (with_reducible exact quiet_below (QJ.out _))))))
        refine wpQuiet_nil ?_
        intro w8 hb8
        have hB8 := hB7.trans (hb8.mono hB7.size)
        clear p0 p1 p2 p3 p4 p5 p6 p7 p8 l0 l1 l2 k0 k1 k2 hb8 hkc7 hkd7 hB7
        clear a0 a1 a2 a3 a4 a5 a6 a7 a8 b0 b1
        go_wp2_with fail
        go_ret
        exact ⟨ret_bool (by rw [eq_str]; exact decide_eq_true HE2.out), hB8⟩
end Go.Proofs.YtlaclkiedjhphaaGreatDoor
