/- The document's walk over days by any number at all: it ends. No condition. -/
import Derived.Test.YtmgijoomfailoaaDoorDyW
namespace Go.Proofs.YtmgijoomfailoaaDoor.cal
open Go.RowKit Go.Proofs.YtmgijoomfailoaaDoor.kit
set_option linter.unusedVariables false

set_option maxRecDepth 100000 in
set_option maxHeartbeats 3200000 in
theorem rwalk_on_some (c : Cal) (A1 : Option Addr) (n1 c1 : Nat) (A2 : Option Addr) (n2 c2 : Nat) (d n : Int) (hd : 0 ≤ d ∧ d ≤ 1048576) (w : World) (h1 : SliceOf w 1 intC A1 n1 c.rest) (h2 : SliceOf w 1 intC A2 n2 c.hol) (m1 : n1 ≤ maxLen) (m2 : n2 ≤ maxLen) :
    Calls Tryd.prog 21 #[.agg #[.slice A1 n1 c1, .slice A2 n2 c2], .int .i64 d, .int .i64 1, .int .i64 n, .bool false] w fun e w' => (∃ (a : Int) (b : Bool), e = .returned (.tuple #[.int .i64 a, .bool b])) ∧ Below w.heap.size w w' := by
  have HM := Lib.hid (fun (w : World) (h1 : SliceOf w 1 intC A1 n1 c.rest) (h2 : SliceOf w 1 intC A2 n2 c.hol) (m1 : n1 ≤ maxLen) (m2 : n2 ≤ maxLen) => rmay_any c A1 n1 c1 A2 n2 c2 w h1 h2 m1 m2)
  have HI := Lib.hid (fun d w => ris_any d w)
  have HR := Lib.hid (fun d (w : World) (h1 : SliceOf w 1 intC A1 n1 c.rest) (h2 : SliceOf w 1 intC A2 n2 c.hol) (m1 : n1 ≤ maxLen) (m2 : n2 ≤ maxLen) => rrests_any c A1 n1 c1 A2 n2 c2 d w h1 h2 m1 m2)
  have H1 := Lib.hid h1
  have H2 := Lib.hid h2
  have l1 := h1.len
  have l2 := h2.len
  clear h1 h2
  have hB0 : Below w.heap.size w (w.alloc (.cells #[.slice A1 n1 c1, .slice A2 n2 c2] 31)) := (Below.refl _ _).alloc (Nat.le_refl _) _
  have hk0 : Blk (w.alloc (.cells #[.slice A1 n1 c1, .slice A2 n2 c2] 31)) w.heap.size 31 #[.slice A1 n1 c1, .slice A2 n2 c2] := Blk.new _ _ _
  obtain ⟨d0, d1⟩ := hd
  have a0 := hk0.cell 0; have a1 := hk0.cell 1
  simp only [List.getElem?_toArray, List.getElem?_cons_zero, List.getElem?_cons_succ] at a0 a1
  obtain ⟨X, hX⟩ : ∃ X, mayB c = X := ⟨_, rfl⟩
  obtain ⟨Y, hY⟩ : ∃ X, (n1 == 7) = X := ⟨_, rfl⟩
  have hY' : ((n1 : Int) == 7) = Y := by rw [← hY, Bool.eq_iff_iff]; simp; omega
  rw [hX] at HM
  cases X
  · clear hX hY hY'
    go_enter Tryd.func21, Tryd.ntmps21
    go_wp2_with fail
    refine (HM.out _ (H1.out.below hB0) (H2.out.below hB0) m1 m2).mono ?_
    rintro e w1 ⟨rfl, hb1⟩
    clear a0 a1
    have hB1 := hB0.trans (hb1.mono hB0.size)
    have hk1 := hk0.below hb1 hk0.lt
    clear hB0 hk0 hb1
    have a0 := hk1.cell 0; have a1 := hk1.cell 1; simp only [List.getElem?_toArray, List.getElem?_cons_zero, List.getElem?_cons_succ] at a0 a1
    go_wp2_with fail
    go_loopw [3, 12] (fun nn at_ wr => ∃ (n d : Int), nn = .int .i64 n ∧ at_ = .int .i64 d ∧ -1 ≤ d ∧ d ≤ 1048577 ∧ Below w.heap.size w wr ∧ Blk wr w.heap.size 31 #[.slice A1 n1 c1, .slice A2 n2 c2]) (fun _ at_ _ => (1048578 - intOf at_).toNat)
    case atStart => exact ⟨n, _, rfl, rfl, by omega, by omega, hB1, hk1⟩
    case round =>
      clear a0 a1 hB1 hk1 d0 d1
      obtain ⟨n, d, rfl, rfl, l0, l9, hBw, hkw⟩ := hrel
      have hB1 := hBw
      have hk1 := hkw
      have a0 := hk1.cell 0; have a1 := hk1.cell 1
      simp only [List.getElem?_toArray, List.getElem?_cons_zero, List.getElem?_cons_succ] at a0 a1
      have HD := Lib.hid (HI.out d)
      cases hd : isDayB d
      · rw [hd] at HD
        clear hd
        go_wp2_with fail
        refine (HD.out _).mono ?_
        rintro e w2 ⟨rfl, rfl⟩
        go_wp2_with fail
        go_ret2
        exact ⟨⟨_, _, rfl⟩, hB1⟩
      obtain ⟨dd0, dd1⟩ : 0 ≤ d ∧ d ≤ 1048576 := by simpa [isDayB] using hd
      rw [hd] at HD
      have HQ := Lib.hid (HR.out d)
      rw [hd, Bool.true_and] at HQ
      cases hrest : restB c d
      · rw [hrest] at HQ
        obtain ⟨n', hn'⟩ : ∃ n', wrap64 (n - 1) = n' := ⟨_, rfl⟩
        by_cases hn1 : n' = 0
        · have t0 : (n' == 0) = true := by simpa using hn1
          clear hd hrest hn1
          go_wp2_with fail
          refine (HD.out _).mono ?_
          rintro e w2 ⟨rfl, rfl⟩
          go_wp2_with fail
          refine (HQ.out _ (H1.out.below hB1) (H2.out.below hB1) m1 m2).mono ?_
          rintro e w2 ⟨rfl, hb2⟩
          clear a0 a1
          have hB2 := hB1.trans (hb2.mono hB1.size)
          have hk2 := hk1.below hb2 hk1.lt
          clear hB1 hk1 hb2
          have a0 := hk2.cell 0; have a1 := hk2.cell 1; simp only [List.getElem?_toArray, List.getElem?_cons_zero, List.getElem?_cons_succ] at a0 a1
          go_wp2_with fail
          go_ret2
          exact ⟨⟨_, _, rfl⟩, hB2⟩
        · have t0 : (n' == 0) = false := by simpa using hn1
          clear hn1 hd hrest
          go_wp2_with fail
          refine (HD.out _).mono ?_
          rintro e w2 ⟨rfl, rfl⟩
          go_wp2_with fail
          refine (HQ.out _ (H1.out.below hB1) (H2.out.below hB1) m1 m2).mono ?_
          rintro e w2 ⟨rfl, hb2⟩
          clear a0 a1
          have hB2 := hB1.trans (hb2.mono hB1.size)
          have hk2 := hk1.below hb2 hk1.lt
          clear hB1 hk1 hb2
          have a0 := hk2.cell 0; have a1 := hk2.cell 1; simp only [List.getElem?_toArray, List.getElem?_cons_zero, List.getElem?_cons_succ] at a0 a1
          go_wp2_with fail
          go_roundw
          case rel => exact ⟨_, _, rfl, rfl, by omega, by omega, hB2, hk2⟩
          case measure => simp [intOf]; omega
      · rw [hrest] at HQ
        clear hd hrest
        go_wp2_with fail
        refine (HD.out _).mono ?_
        rintro e w2 ⟨rfl, rfl⟩
        go_wp2_with fail
        refine (HQ.out _ (H1.out.below hB1) (H2.out.below hB1) m1 m2).mono ?_
        rintro e w2 ⟨rfl, hb2⟩
        clear a0 a1
        have hB2 := hB1.trans (hb2.mono hB1.size)
        have hk2 := hk1.below hb2 hk1.lt
        clear hB1 hk1 hb2
        have a0 := hk2.cell 0; have a1 := hk2.cell 1; simp only [List.getElem?_toArray, List.getElem?_cons_zero, List.getElem?_cons_succ] at a0 a1
        go_wp2_with fail
        go_roundw
        case rel => exact ⟨n, _, rfl, rfl, by omega, by omega, hB2, hk2⟩
        case measure => simp [intOf]; omega
  cases Y
  · clear hX
    go_enter Tryd.func21, Tryd.ntmps21
    go_wp2_with fail
    refine (HM.out _ (H1.out.below hB0) (H2.out.below hB0) m1 m2).mono ?_
    rintro e w1 ⟨rfl, hb1⟩
    clear a0 a1
    have hB1 := hB0.trans (hb1.mono hB0.size)
    have hk1 := hk0.below hb1 hk0.lt
    clear hB0 hk0 hb1
    have a0 := hk1.cell 0; have a1 := hk1.cell 1; simp only [List.getElem?_toArray, List.getElem?_cons_zero, List.getElem?_cons_succ] at a0 a1
    go_wp2_with fail
    go_loopw [3, 12] (fun nn at_ wr => ∃ (n d : Int), nn = .int .i64 n ∧ at_ = .int .i64 d ∧ -1 ≤ d ∧ d ≤ 1048577 ∧ Below w.heap.size w wr ∧ Blk wr w.heap.size 31 #[.slice A1 n1 c1, .slice A2 n2 c2]) (fun _ at_ _ => (1048578 - intOf at_).toNat)
    case atStart => exact ⟨n, _, rfl, rfl, by omega, by omega, hB1, hk1⟩
    case round =>
      clear a0 a1 hB1 hk1 d0 d1
      obtain ⟨n, d, rfl, rfl, l0, l9, hBw, hkw⟩ := hrel
      have hB1 := hBw
      have hk1 := hkw
      have a0 := hk1.cell 0; have a1 := hk1.cell 1
      simp only [List.getElem?_toArray, List.getElem?_cons_zero, List.getElem?_cons_succ] at a0 a1
      have HD := Lib.hid (HI.out d)
      cases hd : isDayB d
      · rw [hd] at HD
        clear hd
        go_wp2_with fail
        refine (HD.out _).mono ?_
        rintro e w2 ⟨rfl, rfl⟩
        go_wp2_with fail
        go_ret2
        exact ⟨⟨_, _, rfl⟩, hB1⟩
      obtain ⟨dd0, dd1⟩ : 0 ≤ d ∧ d ≤ 1048576 := by simpa [isDayB] using hd
      rw [hd] at HD
      have HQ := Lib.hid (HR.out d)
      rw [hd, Bool.true_and] at HQ
      cases hrest : restB c d
      · rw [hrest] at HQ
        obtain ⟨n', hn'⟩ : ∃ n', wrap64 (n - 1) = n' := ⟨_, rfl⟩
        by_cases hn1 : n' = 0
        · have t0 : (n' == 0) = true := by simpa using hn1
          clear hd hrest hn1
          go_wp2_with fail
          refine (HD.out _).mono ?_
          rintro e w2 ⟨rfl, rfl⟩
          go_wp2_with fail
          refine (HQ.out _ (H1.out.below hB1) (H2.out.below hB1) m1 m2).mono ?_
          rintro e w2 ⟨rfl, hb2⟩
          clear a0 a1
          have hB2 := hB1.trans (hb2.mono hB1.size)
          have hk2 := hk1.below hb2 hk1.lt
          clear hB1 hk1 hb2
          have a0 := hk2.cell 0; have a1 := hk2.cell 1; simp only [List.getElem?_toArray, List.getElem?_cons_zero, List.getElem?_cons_succ] at a0 a1
          go_wp2_with fail
          go_ret2
          exact ⟨⟨_, _, rfl⟩, hB2⟩
        · have t0 : (n' == 0) = false := by simpa using hn1
          clear hn1 hd hrest
          go_wp2_with fail
          refine (HD.out _).mono ?_
          rintro e w2 ⟨rfl, rfl⟩
          go_wp2_with fail
          refine (HQ.out _ (H1.out.below hB1) (H2.out.below hB1) m1 m2).mono ?_
          rintro e w2 ⟨rfl, hb2⟩
          clear a0 a1
          have hB2 := hB1.trans (hb2.mono hB1.size)
          have hk2 := hk1.below hb2 hk1.lt
          clear hB1 hk1 hb2
          have a0 := hk2.cell 0; have a1 := hk2.cell 1; simp only [List.getElem?_toArray, List.getElem?_cons_zero, List.getElem?_cons_succ] at a0 a1
          go_wp2_with fail
          go_roundw
          case rel => exact ⟨_, _, rfl, rfl, by omega, by omega, hB2, hk2⟩
          case measure => simp [intOf]; omega
      · rw [hrest] at HQ
        clear hd hrest
        go_wp2_with fail
        refine (HD.out _).mono ?_
        rintro e w2 ⟨rfl, rfl⟩
        go_wp2_with fail
        refine (HQ.out _ (H1.out.below hB1) (H2.out.below hB1) m1 m2).mono ?_
        rintro e w2 ⟨rfl, hb2⟩
        clear a0 a1
        have hB2 := hB1.trans (hb2.mono hB1.size)
        have hk2 := hk1.below hb2 hk1.lt
        clear hB1 hk1 hb2
        have a0 := hk2.cell 0; have a1 := hk2.cell 1; simp only [List.getElem?_toArray, List.getElem?_cons_zero, List.getElem?_cons_succ] at a0 a1
        go_wp2_with fail
        go_roundw
        case rel => exact ⟨n, _, rfl, rfl, by omega, by omega, hB2, hk2⟩
        case measure => simp [intOf]; omega
  · clear hX
    go_enter Tryd.func21, Tryd.ntmps21
    go_wp2_with fail
    refine (HM.out _ (H1.out.below hB0) (H2.out.below hB0) m1 m2).mono ?_
    rintro e w1 ⟨rfl, hb1⟩
    clear a0 a1
    have hB1 := hB0.trans (hb1.mono hB0.size)
    have hk1 := hk0.below hb1 hk0.lt
    clear hB0 hk0 hb1
    have a0 := hk1.cell 0; have a1 := hk1.cell 1; simp only [List.getElem?_toArray, List.getElem?_cons_zero, List.getElem?_cons_succ] at a0 a1
    go_wp2_with fail
    go_ret2
    exact ⟨⟨_, _, rfl⟩, hB1⟩
set_option maxRecDepth 100000 in
set_option maxHeartbeats 3200000 in
theorem rwalk_back_some (c : Cal) (A1 : Option Addr) (n1 c1 : Nat) (A2 : Option Addr) (n2 c2 : Nat) (d n : Int) (hd : 0 ≤ d ∧ d ≤ 1048576) (w : World) (h1 : SliceOf w 1 intC A1 n1 c.rest) (h2 : SliceOf w 1 intC A2 n2 c.hol) (m1 : n1 ≤ maxLen) (m2 : n2 ≤ maxLen) :
    Calls Tryd.prog 21 #[.agg #[.slice A1 n1 c1, .slice A2 n2 c2], .int .i64 d, .int .i64 (-1), .int .i64 n, .bool false] w fun e w' => (∃ (a : Int) (b : Bool), e = .returned (.tuple #[.int .i64 a, .bool b])) ∧ Below w.heap.size w w' := by
  have HM := Lib.hid (fun (w : World) (h1 : SliceOf w 1 intC A1 n1 c.rest) (h2 : SliceOf w 1 intC A2 n2 c.hol) (m1 : n1 ≤ maxLen) (m2 : n2 ≤ maxLen) => rmay_any c A1 n1 c1 A2 n2 c2 w h1 h2 m1 m2)
  have HI := Lib.hid (fun d w => ris_any d w)
  have HR := Lib.hid (fun d (w : World) (h1 : SliceOf w 1 intC A1 n1 c.rest) (h2 : SliceOf w 1 intC A2 n2 c.hol) (m1 : n1 ≤ maxLen) (m2 : n2 ≤ maxLen) => rrests_any c A1 n1 c1 A2 n2 c2 d w h1 h2 m1 m2)
  have H1 := Lib.hid h1
  have H2 := Lib.hid h2
  have l1 := h1.len
  have l2 := h2.len
  clear h1 h2
  have hB0 : Below w.heap.size w (w.alloc (.cells #[.slice A1 n1 c1, .slice A2 n2 c2] 31)) := (Below.refl _ _).alloc (Nat.le_refl _) _
  have hk0 : Blk (w.alloc (.cells #[.slice A1 n1 c1, .slice A2 n2 c2] 31)) w.heap.size 31 #[.slice A1 n1 c1, .slice A2 n2 c2] := Blk.new _ _ _
  obtain ⟨d0, d1⟩ := hd
  have a0 := hk0.cell 0; have a1 := hk0.cell 1
  simp only [List.getElem?_toArray, List.getElem?_cons_zero, List.getElem?_cons_succ] at a0 a1
  obtain ⟨X, hX⟩ : ∃ X, mayB c = X := ⟨_, rfl⟩
  obtain ⟨Y, hY⟩ : ∃ X, (n1 == 7) = X := ⟨_, rfl⟩
  have hY' : ((n1 : Int) == 7) = Y := by rw [← hY, Bool.eq_iff_iff]; simp; omega
  rw [hX] at HM
  cases X
  · clear hX hY hY'
    go_enter Tryd.func21, Tryd.ntmps21
    go_wp2_with fail
    refine (HM.out _ (H1.out.below hB0) (H2.out.below hB0) m1 m2).mono ?_
    rintro e w1 ⟨rfl, hb1⟩
    clear a0 a1
    have hB1 := hB0.trans (hb1.mono hB0.size)
    have hk1 := hk0.below hb1 hk0.lt
    clear hB0 hk0 hb1
    have a0 := hk1.cell 0; have a1 := hk1.cell 1; simp only [List.getElem?_toArray, List.getElem?_cons_zero, List.getElem?_cons_succ] at a0 a1
    go_wp2_with fail
    go_loopw [3, 12] (fun nn at_ wr => ∃ (n d : Int), nn = .int .i64 n ∧ at_ = .int .i64 d ∧ -1 ≤ d ∧ d ≤ 1048577 ∧ Below w.heap.size w wr ∧ Blk wr w.heap.size 31 #[.slice A1 n1 c1, .slice A2 n2 c2]) (fun _ at_ _ => (intOf at_ + 2).toNat)
    case atStart => exact ⟨n, _, rfl, rfl, by omega, by omega, hB1, hk1⟩
    case round =>
      clear a0 a1 hB1 hk1 d0 d1
      obtain ⟨n, d, rfl, rfl, l0, l9, hBw, hkw⟩ := hrel
      have hB1 := hBw
      have hk1 := hkw
      have a0 := hk1.cell 0; have a1 := hk1.cell 1
      simp only [List.getElem?_toArray, List.getElem?_cons_zero, List.getElem?_cons_succ] at a0 a1
      have HD := Lib.hid (HI.out d)
      cases hd : isDayB d
      · rw [hd] at HD
        clear hd
        go_wp2_with fail
        refine (HD.out _).mono ?_
        rintro e w2 ⟨rfl, rfl⟩
        go_wp2_with fail
        go_ret2
        exact ⟨⟨_, _, rfl⟩, hB1⟩
      obtain ⟨dd0, dd1⟩ : 0 ≤ d ∧ d ≤ 1048576 := by simpa [isDayB] using hd
      rw [hd] at HD
      have HQ := Lib.hid (HR.out d)
      rw [hd, Bool.true_and] at HQ
      cases hrest : restB c d
      · rw [hrest] at HQ
        obtain ⟨n', hn'⟩ : ∃ n', wrap64 (n - 1) = n' := ⟨_, rfl⟩
        by_cases hn1 : n' = 0
        · have t0 : (n' == 0) = true := by simpa using hn1
          clear hd hrest hn1
          go_wp2_with fail
          refine (HD.out _).mono ?_
          rintro e w2 ⟨rfl, rfl⟩
          go_wp2_with fail
          refine (HQ.out _ (H1.out.below hB1) (H2.out.below hB1) m1 m2).mono ?_
          rintro e w2 ⟨rfl, hb2⟩
          clear a0 a1
          have hB2 := hB1.trans (hb2.mono hB1.size)
          have hk2 := hk1.below hb2 hk1.lt
          clear hB1 hk1 hb2
          have a0 := hk2.cell 0; have a1 := hk2.cell 1; simp only [List.getElem?_toArray, List.getElem?_cons_zero, List.getElem?_cons_succ] at a0 a1
          go_wp2_with fail
          go_ret2
          exact ⟨⟨_, _, rfl⟩, hB2⟩
        · have t0 : (n' == 0) = false := by simpa using hn1
          clear hn1 hd hrest
          go_wp2_with fail
          refine (HD.out _).mono ?_
          rintro e w2 ⟨rfl, rfl⟩
          go_wp2_with fail
          refine (HQ.out _ (H1.out.below hB1) (H2.out.below hB1) m1 m2).mono ?_
          rintro e w2 ⟨rfl, hb2⟩
          clear a0 a1
          have hB2 := hB1.trans (hb2.mono hB1.size)
          have hk2 := hk1.below hb2 hk1.lt
          clear hB1 hk1 hb2
          have a0 := hk2.cell 0; have a1 := hk2.cell 1; simp only [List.getElem?_toArray, List.getElem?_cons_zero, List.getElem?_cons_succ] at a0 a1
          go_wp2_with fail
          go_roundw
          case rel => exact ⟨_, _, rfl, rfl, by omega, by omega, hB2, hk2⟩
          case measure => simp [intOf]; omega
      · rw [hrest] at HQ
        clear hd hrest
        go_wp2_with fail
        refine (HD.out _).mono ?_
        rintro e w2 ⟨rfl, rfl⟩
        go_wp2_with fail
        refine (HQ.out _ (H1.out.below hB1) (H2.out.below hB1) m1 m2).mono ?_
        rintro e w2 ⟨rfl, hb2⟩
        clear a0 a1
        have hB2 := hB1.trans (hb2.mono hB1.size)
        have hk2 := hk1.below hb2 hk1.lt
        clear hB1 hk1 hb2
        have a0 := hk2.cell 0; have a1 := hk2.cell 1; simp only [List.getElem?_toArray, List.getElem?_cons_zero, List.getElem?_cons_succ] at a0 a1
        go_wp2_with fail
        go_roundw
        case rel => exact ⟨n, _, rfl, rfl, by omega, by omega, hB2, hk2⟩
        case measure => simp [intOf]; omega
  cases Y
  · clear hX
    go_enter Tryd.func21, Tryd.ntmps21
    go_wp2_with fail
    refine (HM.out _ (H1.out.below hB0) (H2.out.below hB0) m1 m2).mono ?_
    rintro e w1 ⟨rfl, hb1⟩
    clear a0 a1
    have hB1 := hB0.trans (hb1.mono hB0.size)
    have hk1 := hk0.below hb1 hk0.lt
    clear hB0 hk0 hb1
    have a0 := hk1.cell 0; have a1 := hk1.cell 1; simp only [List.getElem?_toArray, List.getElem?_cons_zero, List.getElem?_cons_succ] at a0 a1
    go_wp2_with fail
    go_loopw [3, 12] (fun nn at_ wr => ∃ (n d : Int), nn = .int .i64 n ∧ at_ = .int .i64 d ∧ -1 ≤ d ∧ d ≤ 1048577 ∧ Below w.heap.size w wr ∧ Blk wr w.heap.size 31 #[.slice A1 n1 c1, .slice A2 n2 c2]) (fun _ at_ _ => (intOf at_ + 2).toNat)
    case atStart => exact ⟨n, _, rfl, rfl, by omega, by omega, hB1, hk1⟩
    case round =>
      clear a0 a1 hB1 hk1 d0 d1
      obtain ⟨n, d, rfl, rfl, l0, l9, hBw, hkw⟩ := hrel
      have hB1 := hBw
      have hk1 := hkw
      have a0 := hk1.cell 0; have a1 := hk1.cell 1
      simp only [List.getElem?_toArray, List.getElem?_cons_zero, List.getElem?_cons_succ] at a0 a1
      have HD := Lib.hid (HI.out d)
      cases hd : isDayB d
      · rw [hd] at HD
        clear hd
        go_wp2_with fail
        refine (HD.out _).mono ?_
        rintro e w2 ⟨rfl, rfl⟩
        go_wp2_with fail
        go_ret2
        exact ⟨⟨_, _, rfl⟩, hB1⟩
      obtain ⟨dd0, dd1⟩ : 0 ≤ d ∧ d ≤ 1048576 := by simpa [isDayB] using hd
      rw [hd] at HD
      have HQ := Lib.hid (HR.out d)
      rw [hd, Bool.true_and] at HQ
      cases hrest : restB c d
      · rw [hrest] at HQ
        obtain ⟨n', hn'⟩ : ∃ n', wrap64 (n - 1) = n' := ⟨_, rfl⟩
        by_cases hn1 : n' = 0
        · have t0 : (n' == 0) = true := by simpa using hn1
          clear hd hrest hn1
          go_wp2_with fail
          refine (HD.out _).mono ?_
          rintro e w2 ⟨rfl, rfl⟩
          go_wp2_with fail
          refine (HQ.out _ (H1.out.below hB1) (H2.out.below hB1) m1 m2).mono ?_
          rintro e w2 ⟨rfl, hb2⟩
          clear a0 a1
          have hB2 := hB1.trans (hb2.mono hB1.size)
          have hk2 := hk1.below hb2 hk1.lt
          clear hB1 hk1 hb2
          have a0 := hk2.cell 0; have a1 := hk2.cell 1; simp only [List.getElem?_toArray, List.getElem?_cons_zero, List.getElem?_cons_succ] at a0 a1
          go_wp2_with fail
          go_ret2
          exact ⟨⟨_, _, rfl⟩, hB2⟩
        · have t0 : (n' == 0) = false := by simpa using hn1
          clear hn1 hd hrest
          go_wp2_with fail
          refine (HD.out _).mono ?_
          rintro e w2 ⟨rfl, rfl⟩
          go_wp2_with fail
          refine (HQ.out _ (H1.out.below hB1) (H2.out.below hB1) m1 m2).mono ?_
          rintro e w2 ⟨rfl, hb2⟩
          clear a0 a1
          have hB2 := hB1.trans (hb2.mono hB1.size)
          have hk2 := hk1.below hb2 hk1.lt
          clear hB1 hk1 hb2
          have a0 := hk2.cell 0; have a1 := hk2.cell 1; simp only [List.getElem?_toArray, List.getElem?_cons_zero, List.getElem?_cons_succ] at a0 a1
          go_wp2_with fail
          go_roundw
          case rel => exact ⟨_, _, rfl, rfl, by omega, by omega, hB2, hk2⟩
          case measure => simp [intOf]; omega
      · rw [hrest] at HQ
        clear hd hrest
        go_wp2_with fail
        refine (HD.out _).mono ?_
        rintro e w2 ⟨rfl, rfl⟩
        go_wp2_with fail
        refine (HQ.out _ (H1.out.below hB1) (H2.out.below hB1) m1 m2).mono ?_
        rintro e w2 ⟨rfl, hb2⟩
        clear a0 a1
        have hB2 := hB1.trans (hb2.mono hB1.size)
        have hk2 := hk1.below hb2 hk1.lt
        clear hB1 hk1 hb2
        have a0 := hk2.cell 0; have a1 := hk2.cell 1; simp only [List.getElem?_toArray, List.getElem?_cons_zero, List.getElem?_cons_succ] at a0 a1
        go_wp2_with fail
        go_roundw
        case rel => exact ⟨n, _, rfl, rfl, by omega, by omega, hB2, hk2⟩
        case measure => simp [intOf]; omega
  · clear hX
    go_enter Tryd.func21, Tryd.ntmps21
    go_wp2_with fail
    refine (HM.out _ (H1.out.below hB0) (H2.out.below hB0) m1 m2).mono ?_
    rintro e w1 ⟨rfl, hb1⟩
    clear a0 a1
    have hB1 := hB0.trans (hb1.mono hB0.size)
    have hk1 := hk0.below hb1 hk0.lt
    clear hB0 hk0 hb1
    have a0 := hk1.cell 0; have a1 := hk1.cell 1; simp only [List.getElem?_toArray, List.getElem?_cons_zero, List.getElem?_cons_succ] at a0 a1
    go_wp2_with fail
    go_ret2
    exact ⟨⟨_, _, rfl⟩, hB1⟩
theorem heavy_any (c : Cal) (A1 : Option Addr) (n1 c1 : Nat) (A2 : Option Addr) (n2 c2 : Nat) (w : World) (l1 : n1 ≤ maxLen) (l2 : n2 ≤ maxLen) :
    Calls Tryd.prog 17 #[.agg #[.slice A1 n1 c1, .slice A2 n2 c2]] w fun e w' => e = .returned (.bool (decide (20 < n1) || decide (60 < n2))) ∧ Below w.heap.size w w' := by
  have hB0 : Below w.heap.size w (w.alloc (.cells #[.slice A1 n1 c1, .slice A2 n2 c2] 31)) := (Below.refl _ _).alloc (Nat.le_refl _) _
  have hk0 : Blk (w.alloc (.cells #[.slice A1 n1 c1, .slice A2 n2 c2] 31)) w.heap.size 31 #[.slice A1 n1 c1, .slice A2 n2 c2] := Blk.new _ _ _
  have a0 := hk0.cell 0; have a1 := hk0.cell 1
  simp only [List.getElem?_toArray, List.getElem?_cons_zero, List.getElem?_cons_succ] at a0 a1
  by_cases k1 : 20 < n1
  · have t1 : decide ((20 : Int) < (n1 : Int)) = true := decide_eq_true (by omega)
    have t1n : decide (20 < n1) = true := decide_eq_true k1
    rw [t1n]
    clear k1
    go_enter Tryd.func17, Tryd.ntmps17
    go_wp2_with fail
    go_ret
    exact ⟨rfl, hB0⟩
  have t1 : decide ((20 : Int) < (n1 : Int)) = false := decide_eq_false (by omega)
  have t1n : decide (20 < n1) = false := decide_eq_false k1
  rw [t1n]
  clear k1
  by_cases k2 : 60 < n2
  · have t2 : decide ((60 : Int) < (n2 : Int)) = true := decide_eq_true (by omega)
    have t2n : decide (60 < n2) = true := decide_eq_true k2
    rw [t2n]
    clear k2
    go_enter Tryd.func17, Tryd.ntmps17
    go_wp2_with fail
    go_ret
    exact ⟨rfl, hB0⟩
  · have t2 : decide ((60 : Int) < (n2 : Int)) = false := decide_eq_false (by omega)
    have t2n : decide (60 < n2) = false := decide_eq_false k2
    rw [t2n]
    clear k2
    go_enter Tryd.func17, Tryd.ntmps17
    go_wp2_with fail
    go_ret
    exact ⟨rfl, hB0⟩
end Go.Proofs.YtmgijoomfailoaaDoor.cal
