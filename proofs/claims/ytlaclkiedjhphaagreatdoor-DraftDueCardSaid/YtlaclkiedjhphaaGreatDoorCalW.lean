/- The document's Walk upwards. No condition. -/
import Derived.Test.YtlaclkiedjhphaaGreatDoorCalN
import Derived.Test.YtlaclkiedjhphaaGreatDoorCalRC
namespace Go.Proofs.YtlaclkiedjhphaaGreatDoor.cal
open Go.RowKit Go.Proofs.YtlaclkiedjhphaaGreatDoor.kit
set_option linter.unusedVariables false

theorem all_seven {c : Cal} (hm : mayB c = true) (h7 : c.rest.length = 7) (d : Int) (hd : 0 ≤ d) : restB c d = true := by
  have hr := (may_iff hm).2.2.1
  obtain ⟨rest, hol⟩ := c
  simp only [] at h7 hr
  match rest, h7 with
  | [x0, x1, x2, x3, x4, x5, x6], _ =>
    simp only [risesF, Bool.and_eq_true, decide_eq_true_eq] at hr
    unfold restB
    rw [hm, Bool.true_and, Bool.or_eq_true]
    left
    rw [has_iff]
    simp only [List.mem_cons, List.not_mem_nil, or_false]
    omega
theorem up_none {c : Cal} (h : ∀ d : Int, 0 ≤ d → restB c d = true) : ∀ (k : Nat) (n : Int), k ≤ 1048577 → 1 ≤ n → upF c k n = (0, false)
  | 0, _, _, _ => rfl
  | k + 1, n, hk, hn => by rw [upF, h _ (by omega), if_pos rfl, if_pos (by omega)]; exact up_none h k n (by omega) hn
--%
set_option maxRecDepth 100000 in
set_option maxHeartbeats 3200000 in
theorem rwalk_up (c : Cal) (A1 : Option Addr) (n1 c1 : Nat) (A2 : Option Addr) (n2 c2 : Nat) (d n : Int) (hd : 0 ≤ d ∧ d ≤ 1048577) (hn : 1 ≤ n ∧ n ≤ 1048576) (w : World) (h1 : SliceOf w 1 intC A1 n1 c.rest) (h2 : SliceOf w 1 intC A2 n2 c.hol) (m1 : n1 ≤ maxLen) (m2 : n2 ≤ maxLen) :
    Calls Tryz.prog 22 #[.agg #[.slice A1 n1 c1, .slice A2 n2 c2], .int .i64 d, .int .i64 1, .int .i64 n, .bool true] w fun e w' => e = .returned (.tuple #[.int .i64 (upF c (1048577 - d).toNat n).1, .bool (upF c (1048577 - d).toNat n).2]) ∧ Below w.heap.size w w' := by
  have HM := Lib.hid (fun (w : World) (h1 : SliceOf w 1 intC A1 n1 c.rest) (h2 : SliceOf w 1 intC A2 n2 c.hol) (m1 : n1 ≤ maxLen) (m2 : n2 ≤ maxLen) => rmay_any c A1 n1 c1 A2 n2 c2 w h1 h2 m1 m2)
  have HI := Lib.hid (fun d w => ris_any d w)
  have HR := Lib.hid (fun d (w : World) (h1 : SliceOf w 1 intC A1 n1 c.rest) (h2 : SliceOf w 1 intC A2 n2 c.hol) (m1 : n1 ≤ maxLen) (m2 : n2 ≤ maxLen) => rrests_any c A1 n1 c1 A2 n2 c2 d w h1 h2 m1 m2)
  have H1 := Lib.hid h1
  have H2 := Lib.hid h2
  have l1 := h1.len
  have l2 := h2.len
  clear h1 h2
  have hB0 : Below w.heap.size w (w.alloc (.cells #[.slice A1 n1 c1, .slice A2 n2 c2] 24)) := (Below.refl _ _).alloc (Nat.le_refl _) _
  have hk0 : Blk (w.alloc (.cells #[.slice A1 n1 c1, .slice A2 n2 c2] 24)) w.heap.size 24 #[.slice A1 n1 c1, .slice A2 n2 c2] := Blk.new _ _ _
  obtain ⟨d0, d1⟩ := hd
  obtain ⟨n0, n1'⟩ := hn
  obtain ⟨R, hR⟩ : ∃ R, upF c (1048577 - d).toNat n = R := ⟨_, rfl⟩
  rw [hR]
  have a0 := hk0.cell 0; have a1 := hk0.cell 1
  simp only [List.getElem?_toArray, List.getElem?_cons_zero, List.getElem?_cons_succ] at a0 a1
  by_cases h7 : mayB c = true ∧ n1 = 7
  · have e0 : Hid (R = (0, false)) := Lib.hid (by rw [← hR]; exact up_none (all_seven h7.1 (by omega)) _ _ (by omega) n0)
    obtain ⟨hm, rfl⟩ := h7
    rw [hm] at HM
    clear hm hR HI HR
    go_enter Tryz.func22, Tryz.ntmps22
    go_wp2_with fail
    refine (HM.out _ (H1.out.below hB0) (H2.out.below hB0) m1 m2).mono ?_
    rintro e w1 ⟨rfl, hb1⟩
    clear a0 a1
    have hB1 := hB0.trans (hb1.mono hB0.size)
    have hk1 := hk0.below hb1 hk0.lt
    clear hB0 hk0 hb1
    have a0 := hk1.cell 0; have a1 := hk1.cell 1; simp only [List.getElem?_toArray, List.getElem?_cons_zero, List.getElem?_cons_succ] at a0 a1
    go_wp2_with fail
    go_ret2
    exact ⟨ret_ib e0.out, hB1⟩
  have HE := Lib.hid hR
  clear hR
  cases hm : mayB c
  · rw [hm] at HM
    clear hm h7
    go_enter Tryz.func22, Tryz.ntmps22
    go_wp2_with fail
    refine (HM.out _ (H1.out.below hB0) (H2.out.below hB0) m1 m2).mono ?_
    rintro e w1 ⟨rfl, hb1⟩
    clear a0 a1
    have hB1 := hB0.trans (hb1.mono hB0.size)
    have hk1 := hk0.below hb1 hk0.lt
    clear hB0 hk0 hb1
    have a0 := hk1.cell 0; have a1 := hk1.cell 1; simp only [List.getElem?_toArray, List.getElem?_cons_zero, List.getElem?_cons_succ] at a0 a1
    go_wp2_with fail
    go_loopw [3, 12] (fun nn at_ wr => ∃ (n d : Int), nn = .int .i64 n ∧ at_ = .int .i64 d ∧ 0 ≤ d ∧ d ≤ 1048577 ∧ 1 ≤ n ∧ n ≤ 1048576 ∧ Below w.heap.size w wr ∧ Blk wr w.heap.size 24 #[.slice A1 n1 c1, .slice A2 n2 c2] ∧ Hid (upF c (1048577 - d).toNat n = R)) (fun _ at_ _ => (1048578 - intOf at_).toNat)
    case atStart => exact ⟨n, _, rfl, rfl, by omega, by omega, n0, n1', hB1, hk1, HE⟩
    case round =>
      clear a0 a1 HE n0 n1' hB1 hk1
      obtain ⟨n, d, rfl, rfl, l0, l9, n0, n1', hBw, hkw, HE⟩ := hrel
      have hB1 := hBw
      have hk1 := hkw
      have a0 := hk1.cell 0; have a1 := hk1.cell 1
      simp only [List.getElem?_toArray, List.getElem?_cons_zero, List.getElem?_cons_succ] at a0 a1
      have HD := Lib.hid (HI.out d)
      cases hd : isDayB d
      · have e0 : Hid (R = (0, false)) := Lib.hid (by rw [← HE.out]; exact up_out c d n hd l0)
        rw [hd] at HD
        clear hd
        go_wp2_with fail
        refine (HD.out _).mono ?_
        rintro e w2 ⟨rfl, rfl⟩
        go_wp2_with fail
        go_ret2
        exact ⟨ret_ib e0.out, hB1⟩
      have hr := up_in c d n hd
      rw [HE.out] at hr
      obtain ⟨dd0, dd1⟩ : 0 ≤ d ∧ d ≤ 1048576 := by simpa [isDayB] using hd
      rw [hd] at HD
      have HQ := Lib.hid (HR.out d)
      rw [hd, Bool.true_and] at HQ
      cases hrest : restB c d
      · rw [hrest] at hr HQ
        by_cases hn1 : n = 1
        · have e0 : Hid (R = (d, true)) := Lib.hid (by rw [hr, hn1]; rfl)
          subst hn1
          clear hr hd hrest
          go_wp2_with fail
          refine (HD.out _).mono ?_
          rintro e w2 ⟨rfl, rfl⟩
          go_wp2_with fail
          refine (HQ.out _ (H1.out.below hB1) (H2.out.below hB1) m1 m2).mono ?_
          rintro e w2 ⟨rfl, hb2⟩
          clear a0 a1
          have hB2 := hB1.trans (hb2.mono hB1.size)
          have hk2 := hk1.below hb2 hk1.lt
          clear hB1 hk1 hb2
          have a0 := hk2.cell 0; have a1 := hk2.cell 1; simp only [List.getElem?_toArray, List.getElem?_cons_zero, List.getElem?_cons_succ] at a0 a1
          go_wp2_with fail
          go_ret2
          exact ⟨ret_ib e0.out, hB2⟩
        · have e0 : Hid (upF c (1048577 - (d + 1)).toNat (n - 1) = R) := Lib.hid (by rw [hr]; simp only [Bool.false_eq_true, if_false]; rw [if_pos (by omega)])
          have hn2 : ((n - 1) == 0) = false := by simp; omega
          have hn3 : 2 ≤ n := by omega
          clear hr hn1 hd hrest
          go_wp2_with fail
          refine (HD.out _).mono ?_
          rintro e w2 ⟨rfl, rfl⟩
          go_wp2_with fail
          refine (HQ.out _ (H1.out.below hB1) (H2.out.below hB1) m1 m2).mono ?_
          rintro e w2 ⟨rfl, hb2⟩
          clear a0 a1
          have hB2 := hB1.trans (hb2.mono hB1.size)
          have hk2 := hk1.below hb2 hk1.lt
          clear hB1 hk1 hb2
          have a0 := hk2.cell 0; have a1 := hk2.cell 1; simp only [List.getElem?_toArray, List.getElem?_cons_zero, List.getElem?_cons_succ] at a0 a1
          go_wp2_with fail
          go_roundw
          case rel => exact ⟨n - 1, _, rfl, rfl, by omega, by omega, by omega, by omega, hB2, hk2, e0⟩
          case measure => simp [intOf]; omega
      · rw [hrest] at hr HQ
        have e0 : Hid (upF c (1048577 - (d + 1)).toNat n = R) := Lib.hid (by rw [hr]; simp only [if_true]; rw [if_pos (by omega)])
        clear hr hd hrest
        go_wp2_with fail
        refine (HD.out _).mono ?_
        rintro e w2 ⟨rfl, rfl⟩
        go_wp2_with fail
        refine (HQ.out _ (H1.out.below hB1) (H2.out.below hB1) m1 m2).mono ?_
        rintro e w2 ⟨rfl, hb2⟩
        clear a0 a1
        have hB2 := hB1.trans (hb2.mono hB1.size)
        have hk2 := hk1.below hb2 hk1.lt
        clear hB1 hk1 hb2
        have a0 := hk2.cell 0; have a1 := hk2.cell 1; simp only [List.getElem?_toArray, List.getElem?_cons_zero, List.getElem?_cons_succ] at a0 a1
        go_wp2_with fail
        go_roundw
        case rel => exact ⟨n, _, rfl, rfl, by omega, by omega, by omega, by omega, hB2, hk2, e0⟩
        case measure => simp [intOf]; omega
  · rw [hm] at HM
    have t7 : ((n1 : Int) == 7) = false := by simp; exact fun h => h7 ⟨hm, by omega⟩
    have t7n : (n1 == 7) = false := by simp; exact fun h => h7 ⟨hm, h⟩
    clear hm h7
    go_enter Tryz.func22, Tryz.ntmps22
    go_wp2_with fail
    refine (HM.out _ (H1.out.below hB0) (H2.out.below hB0) m1 m2).mono ?_
    rintro e w1 ⟨rfl, hb1⟩
    clear a0 a1
    have hB1 := hB0.trans (hb1.mono hB0.size)
    have hk1 := hk0.below hb1 hk0.lt
    clear hB0 hk0 hb1
    have a0 := hk1.cell 0; have a1 := hk1.cell 1; simp only [List.getElem?_toArray, List.getElem?_cons_zero, List.getElem?_cons_succ] at a0 a1
    go_wp2_with fail
    go_loopw [3, 12] (fun nn at_ wr => ∃ (n d : Int), nn = .int .i64 n ∧ at_ = .int .i64 d ∧ 0 ≤ d ∧ d ≤ 1048577 ∧ 1 ≤ n ∧ n ≤ 1048576 ∧ Below w.heap.size w wr ∧ Blk wr w.heap.size 24 #[.slice A1 n1 c1, .slice A2 n2 c2] ∧ Hid (upF c (1048577 - d).toNat n = R)) (fun _ at_ _ => (1048578 - intOf at_).toNat)
    case atStart => exact ⟨n, _, rfl, rfl, by omega, by omega, n0, n1', hB1, hk1, HE⟩
    case round =>
      clear a0 a1 HE n0 n1' hB1 hk1
      obtain ⟨n, d, rfl, rfl, l0, l9, n0, n1', hBw, hkw, HE⟩ := hrel
      have hB1 := hBw
      have hk1 := hkw
      have a0 := hk1.cell 0; have a1 := hk1.cell 1
      simp only [List.getElem?_toArray, List.getElem?_cons_zero, List.getElem?_cons_succ] at a0 a1
      have HD := Lib.hid (HI.out d)
      cases hd : isDayB d
      · have e0 : Hid (R = (0, false)) := Lib.hid (by rw [← HE.out]; exact up_out c d n hd l0)
        rw [hd] at HD
        clear hd
        go_wp2_with fail
        refine (HD.out _).mono ?_
        rintro e w2 ⟨rfl, rfl⟩
        go_wp2_with fail
        go_ret2
        exact ⟨ret_ib e0.out, hB1⟩
      have hr := up_in c d n hd
      rw [HE.out] at hr
      obtain ⟨dd0, dd1⟩ : 0 ≤ d ∧ d ≤ 1048576 := by simpa [isDayB] using hd
      rw [hd] at HD
      have HQ := Lib.hid (HR.out d)
      rw [hd, Bool.true_and] at HQ
      cases hrest : restB c d
      · rw [hrest] at hr HQ
        by_cases hn1 : n = 1
        · have e0 : Hid (R = (d, true)) := Lib.hid (by rw [hr, hn1]; rfl)
          subst hn1
          clear hr hd hrest
          go_wp2_with fail
          refine (HD.out _).mono ?_
          rintro e w2 ⟨rfl, rfl⟩
          go_wp2_with fail
          refine (HQ.out _ (H1.out.below hB1) (H2.out.below hB1) m1 m2).mono ?_
          rintro e w2 ⟨rfl, hb2⟩
          clear a0 a1
          have hB2 := hB1.trans (hb2.mono hB1.size)
          have hk2 := hk1.below hb2 hk1.lt
          clear hB1 hk1 hb2
          have a0 := hk2.cell 0; have a1 := hk2.cell 1; simp only [List.getElem?_toArray, List.getElem?_cons_zero, List.getElem?_cons_succ] at a0 a1
          go_wp2_with fail
          go_ret2
          exact ⟨ret_ib e0.out, hB2⟩
        · have e0 : Hid (upF c (1048577 - (d + 1)).toNat (n - 1) = R) := Lib.hid (by rw [hr]; simp only [Bool.false_eq_true, if_false]; rw [if_pos (by omega)])
          have hn2 : ((n - 1) == 0) = false := by simp; omega
          have hn3 : 2 ≤ n := by omega
          clear hr hn1 hd hrest
          go_wp2_with fail
          refine (HD.out _).mono ?_
          rintro e w2 ⟨rfl, rfl⟩
          go_wp2_with fail
          refine (HQ.out _ (H1.out.below hB1) (H2.out.below hB1) m1 m2).mono ?_
          rintro e w2 ⟨rfl, hb2⟩
          clear a0 a1
          have hB2 := hB1.trans (hb2.mono hB1.size)
          have hk2 := hk1.below hb2 hk1.lt
          clear hB1 hk1 hb2
          have a0 := hk2.cell 0; have a1 := hk2.cell 1; simp only [List.getElem?_toArray, List.getElem?_cons_zero, List.getElem?_cons_succ] at a0 a1
          go_wp2_with fail
          go_roundw
          case rel => exact ⟨n - 1, _, rfl, rfl, by omega, by omega, by omega, by omega, hB2, hk2, e0⟩
          case measure => simp [intOf]; omega
      · rw [hrest] at hr HQ
        have e0 : Hid (upF c (1048577 - (d + 1)).toNat n = R) := Lib.hid (by rw [hr]; simp only [if_true]; rw [if_pos (by omega)])
        clear hr hd hrest
        go_wp2_with fail
        refine (HD.out _).mono ?_
        rintro e w2 ⟨rfl, rfl⟩
        go_wp2_with fail
        refine (HQ.out _ (H1.out.below hB1) (H2.out.below hB1) m1 m2).mono ?_
        rintro e w2 ⟨rfl, hb2⟩
        clear a0 a1
        have hB2 := hB1.trans (hb2.mono hB1.size)
        have hk2 := hk1.below hb2 hk1.lt
        clear hB1 hk1 hb2
        have a0 := hk2.cell 0; have a1 := hk2.cell 1; simp only [List.getElem?_toArray, List.getElem?_cons_zero, List.getElem?_cons_succ] at a0 a1
        go_wp2_with fail
        go_roundw
        case rel => exact ⟨n, _, rfl, rfl, by omega, by omega, by omega, by omega, hB2, hk2, e0⟩
        case measure => simp [intOf]; omega
end Go.Proofs.YtlaclkiedjhphaaGreatDoor.cal
