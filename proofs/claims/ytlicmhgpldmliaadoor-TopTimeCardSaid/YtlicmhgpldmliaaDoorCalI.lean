/- Between two days; the next working day, and the n-th one behind a day. No condition. -/
import Derived.Test.YtlicmhgpldmliaaDoorCalH
import Derived.Test.YtlicmhgpldmliaaDoorCalN
namespace Go.Proofs.YtlicmhgpldmliaaDoor.cal
open Go.RowKit Go.Proofs.YtlicmhgpldmliaaDoor.kit
set_option linter.unusedVariables false

--%
--%
theorem between_of (c : Cal) (a b : Int) (h0 : 0 ≤ a) (h1 : a ≤ b) : cntF c 0 b.toNat - cntF c 0 a.toNat = cntF c a (b - a).toNat := by
  have := cnt_split c 0 a.toNat (b - a).toNat
  rw [show a.toNat + (b - a).toNat = b.toNat by omega, show (0 : Int) + ((a.toNat : Nat) : Int) = a by omega] at this
  omega
set_option maxRecDepth 100000 in
set_option maxHeartbeats 1600000 in
theorem between_any (c : Cal) (A1 : Option Addr) (n1 c1 : Nat) (A2 : Option Addr) (n2 c2 : Nat) (a b : Int) (w : World) (h1 : SliceOf w 1 intC A1 n1 c.rest) (h2 : SliceOf w 1 intC A2 n2 c.hol) (m1 : n1 ≤ maxLen) (m2 : n2 ≤ maxLen) :
    Calls Tryd.prog 9 #[.agg #[.slice A1 n1 c1, .slice A2 n2 c2], .int .i64 a, .int .i64 b] w fun e w' => e = .returned (.int .i64 (betweenV c a b)) ∧ Below w.heap.size w w' := by
  have H1 := Lib.hid h1
  have H2 := Lib.hid h2
  have l1 := h1.len
  have l2 := h2.len
  clear h1 h2
  have hB0 : Below w.heap.size w (w.alloc (.cells #[.slice A1 n1 c1, .slice A2 n2 c2] 24)) := (Below.refl _ _).alloc (Nat.le_refl _) _
  have hk0 : Blk (w.alloc (.cells #[.slice A1 n1 c1, .slice A2 n2 c2] 24)) w.heap.size 24 #[.slice A1 n1 c1, .slice A2 n2 c2] := Blk.new _ _ _
  rcases Int.lt_or_le a 0 with k1 | k1
  · have ha : max a 0 = 0 := by omega
    rcases Int.lt_or_le 1048577 b with k2 | k2
    · have hb : min b 1048577 = 1048577 := by omega
      have hb1' : (1048577 : Int) ≤ 1048577 := by omega
      have ha0 : (0 : Int) ≤ 0 := by omega
      have e : betweenV c a b = cntF c 0 ((1048577 : Int) - 0).toNat := by unfold betweenV; rw [ha, hb]
      rw [e]
      clear ha hb
      by_cases hle : (1048577 : Int) ≤ (0 : Int)
      · have e0 : Hid (cntF c (0 : Int) ((1048577 : Int) - (0 : Int)).toNat = 0) := Lib.hid (by rw [show ((1048577 : Int) - (0 : Int)).toNat = 0 by omega]; rfl)
        clear e
        go_enter Tryd.func9, Tryd.ntmps9
        go_wp2_with fail
        go_ret
        exact ⟨ret_int e0.out.symm, hB0⟩
      · have e0 : Hid (cntF c 0 (1048577 : Int).toNat - cntF c 0 (0 : Int).toNat = cntF c (0 : Int) ((1048577 : Int) - (0 : Int)).toNat) := Lib.hid (between_of c (0 : Int) (1048577 : Int) ha0 (by omega))
        have q1 := cnt_bd c 0 (1048577 : Int).toNat
        have q2 := cnt_bd c 0 (0 : Int).toNat
        obtain ⟨X, hX⟩ : ∃ X, cntF c 0 (1048577 : Int).toNat = X := ⟨_, rfl⟩
        obtain ⟨Y, hY⟩ : ∃ Y, cntF c 0 (0 : Int).toNat = Y := ⟨_, rfl⟩
        rw [hX] at q1
        rw [hY] at q2
        rw [hX, hY] at e0
        obtain ⟨x0, x1⟩ := q1
        obtain ⟨y0, y1⟩ := q2
        have x2 : X ≤ 1048577 := by omega
        have y2 : Y ≤ 1048577 := by omega
        have HX := Lib.hid hX
        have HY := Lib.hid hY
        clear e hX hY x1 y1
        go_enter Tryd.func9, Tryd.ntmps9
        go_wp2_with fail
        refine (ready_any c A1 n1 c1 A2 n2 c2 w H1.out H2.out m1 m2 _ hB0).mono ?_
        rintro e w1 ⟨f, A, np, cp, xs, rfl, hp0, hb1⟩
        have hp := Lib.hid hp0
        have hB := (hB0.trans (hb1.mono hB0.size)).alloc (hB0.trans (hb1.mono hB0.size)).size (.cells #[.bool (f 0), .bool (f 1), .bool (f 2), .bool (f 3), .bool (f 4), .bool (f 5), .bool (f 6), .slice A np cp] 53)
        have hblk : Blk (w1.alloc (.cells #[.bool (f 0), .bool (f 1), .bool (f 2), .bool (f 3), .bool (f 4), .bool (f 5), .bool (f 6), .slice A np cp] 53)) w1.heap.size 53 #[.bool (f 0), .bool (f 1), .bool (f 2), .bool (f 3), .bool (f 4), .bool (f 5), .bool (f 6), .slice A np cp] := Blk.new _ _ _
        clear hp0 hB0 hk0 hb1
        go_wp2_with fail
        generalize w1.alloc (.cells #[.bool (f 0), .bool (f 1), .bool (f 2), .bool (f 3), .bool (f 4), .bool (f 5), .bool (f 6), .slice A np cp] 53) = wr at *
        generalize w1.heap.size = g at *
        have p0 := wof_cell (hblk.cell 0); have p1 := wof_cell (hblk.cell 1); have p2 := wof_cell (hblk.cell 2); have p3 := wof_cell (hblk.cell 3); have p4 := wof_cell (hblk.cell 4); have p5 := wof_cell (hblk.cell 5); have p6 := wof_cell (hblk.cell 6); have p7 := wof_cell (hblk.cell 7)
        have QX : Hid (∀ x : BW wr, Calls Tryd.prog 20 #[.agg #[.bool (f 0), .bool (f 1), .bool (f 2), .bool (f 3), .bool (f 4), .bool (f 5), .bool (f 6), .slice A np cp], .int .i64 (1048577 : Int)] (wof x) fun e w' => e = .returned (.int .i64 X) ∧ Below (wof x).heap.size (wof x) w') := fun x => by
          have := upTo_any c f A np cp xs w hp.out (1048577 : Int) ⟨by omega, hb1'⟩ (wof x) (hB.trans ((wof_below x).mono hB.size))
          rw [HX.out] at this
          exact this
        have QY : Hid (∀ x : BW wr, Calls Tryd.prog 20 #[.agg #[.bool (f 0), .bool (f 1), .bool (f 2), .bool (f 3), .bool (f 4), .bool (f 5), .bool (f 6), .slice A np cp], .int .i64 (0 : Int)] (wof x) fun e w' => e = .returned (.int .i64 Y) ∧ Below (wof x).heap.size (wof x) w') := fun x => by
          have := upTo_any c f A np cp xs w hp.out (0 : Int) ⟨ha0, by omega⟩ (wof x) (hB.trans ((wof_below x).mono hB.size))
          rw [HY.out] at this
          exact this
        have wr1 : IntKind.i64.wrap (X - Y) = X - Y := IntWalk.i64_in _ (by omega)
        refine wp_region_quiet_below (by kernel_rfl) (by kernel_rfl) ?_
        repeat (go_big_quiet_step ((first | (go_at_call 20; with_reducible exact quiet_below (QX.out _)) | (go_at_call 20; exact quiet_below (QY.out _)))))
        refine wpQuiet_nil ?_
        intro w2 hb2
        clear wr1
        go_wp2_with fail
        go_ret
        exact ⟨ret_int e0.out, hB.trans (hb2.mono hB.size)⟩
    · have hb : min b 1048577 = b := by omega
      have hb1' : b ≤ 1048577 := k2
      have ha0 : (0 : Int) ≤ 0 := by omega
      have e : betweenV c a b = cntF c 0 (b - 0).toNat := by unfold betweenV; rw [ha, hb]
      rw [e]
      clear ha hb
      by_cases hle : (b : Int) ≤ (0 : Int)
      · have e0 : Hid (cntF c (0 : Int) ((b : Int) - (0 : Int)).toNat = 0) := Lib.hid (by rw [show ((b : Int) - (0 : Int)).toNat = 0 by omega]; rfl)
        clear e
        go_enter Tryd.func9, Tryd.ntmps9
        go_wp2_with fail
        go_ret
        exact ⟨ret_int e0.out.symm, hB0⟩
      · have e0 : Hid (cntF c 0 (b : Int).toNat - cntF c 0 (0 : Int).toNat = cntF c (0 : Int) ((b : Int) - (0 : Int)).toNat) := Lib.hid (between_of c (0 : Int) (b : Int) ha0 (by omega))
        have q1 := cnt_bd c 0 (b : Int).toNat
        have q2 := cnt_bd c 0 (0 : Int).toNat
        obtain ⟨X, hX⟩ : ∃ X, cntF c 0 (b : Int).toNat = X := ⟨_, rfl⟩
        obtain ⟨Y, hY⟩ : ∃ Y, cntF c 0 (0 : Int).toNat = Y := ⟨_, rfl⟩
        rw [hX] at q1
        rw [hY] at q2
        rw [hX, hY] at e0
        obtain ⟨x0, x1⟩ := q1
        obtain ⟨y0, y1⟩ := q2
        have x2 : X ≤ 1048577 := by omega
        have y2 : Y ≤ 1048577 := by omega
        have HX := Lib.hid hX
        have HY := Lib.hid hY
        clear e hX hY x1 y1
        go_enter Tryd.func9, Tryd.ntmps9
        go_wp2_with fail
        refine (ready_any c A1 n1 c1 A2 n2 c2 w H1.out H2.out m1 m2 _ hB0).mono ?_
        rintro e w1 ⟨f, A, np, cp, xs, rfl, hp0, hb1⟩
        have hp := Lib.hid hp0
        have hB := (hB0.trans (hb1.mono hB0.size)).alloc (hB0.trans (hb1.mono hB0.size)).size (.cells #[.bool (f 0), .bool (f 1), .bool (f 2), .bool (f 3), .bool (f 4), .bool (f 5), .bool (f 6), .slice A np cp] 53)
        have hblk : Blk (w1.alloc (.cells #[.bool (f 0), .bool (f 1), .bool (f 2), .bool (f 3), .bool (f 4), .bool (f 5), .bool (f 6), .slice A np cp] 53)) w1.heap.size 53 #[.bool (f 0), .bool (f 1), .bool (f 2), .bool (f 3), .bool (f 4), .bool (f 5), .bool (f 6), .slice A np cp] := Blk.new _ _ _
        clear hp0 hB0 hk0 hb1
        go_wp2_with fail
        generalize w1.alloc (.cells #[.bool (f 0), .bool (f 1), .bool (f 2), .bool (f 3), .bool (f 4), .bool (f 5), .bool (f 6), .slice A np cp] 53) = wr at *
        generalize w1.heap.size = g at *
        have p0 := wof_cell (hblk.cell 0); have p1 := wof_cell (hblk.cell 1); have p2 := wof_cell (hblk.cell 2); have p3 := wof_cell (hblk.cell 3); have p4 := wof_cell (hblk.cell 4); have p5 := wof_cell (hblk.cell 5); have p6 := wof_cell (hblk.cell 6); have p7 := wof_cell (hblk.cell 7)
        have QX : Hid (∀ x : BW wr, Calls Tryd.prog 20 #[.agg #[.bool (f 0), .bool (f 1), .bool (f 2), .bool (f 3), .bool (f 4), .bool (f 5), .bool (f 6), .slice A np cp], .int .i64 (b : Int)] (wof x) fun e w' => e = .returned (.int .i64 X) ∧ Below (wof x).heap.size (wof x) w') := fun x => by
          have := upTo_any c f A np cp xs w hp.out (b : Int) ⟨by omega, hb1'⟩ (wof x) (hB.trans ((wof_below x).mono hB.size))
          rw [HX.out] at this
          exact this
        have QY : Hid (∀ x : BW wr, Calls Tryd.prog 20 #[.agg #[.bool (f 0), .bool (f 1), .bool (f 2), .bool (f 3), .bool (f 4), .bool (f 5), .bool (f 6), .slice A np cp], .int .i64 (0 : Int)] (wof x) fun e w' => e = .returned (.int .i64 Y) ∧ Below (wof x).heap.size (wof x) w') := fun x => by
          have := upTo_any c f A np cp xs w hp.out (0 : Int) ⟨ha0, by omega⟩ (wof x) (hB.trans ((wof_below x).mono hB.size))
          rw [HY.out] at this
          exact this
        have wr1 : IntKind.i64.wrap (X - Y) = X - Y := IntWalk.i64_in _ (by omega)
        refine wp_region_quiet_below (by kernel_rfl) (by kernel_rfl) ?_
        repeat (go_big_quiet_step ((first | (go_at_call 20; with_reducible exact quiet_below (QX.out _)) | (go_at_call 20; exact quiet_below (QY.out _)))))
        refine wpQuiet_nil ?_
        intro w2 hb2
        clear wr1
        go_wp2_with fail
        go_ret
        exact ⟨ret_int e0.out, hB.trans (hb2.mono hB.size)⟩
  · have ha : max a 0 = a := by omega
    have ha0 := k1
    rcases Int.lt_or_le 1048577 b with k2 | k2
    · have hb : min b 1048577 = 1048577 := by omega
      have hb1' : (1048577 : Int) ≤ 1048577 := by omega
      have e : betweenV c a b = cntF c a ((1048577 : Int) - a).toNat := by unfold betweenV; rw [ha, hb]
      rw [e]
      clear ha hb
      by_cases hle : (1048577 : Int) ≤ (a : Int)
      · have e0 : Hid (cntF c (a : Int) ((1048577 : Int) - (a : Int)).toNat = 0) := Lib.hid (by rw [show ((1048577 : Int) - (a : Int)).toNat = 0 by omega]; rfl)
        clear e
        go_enter Tryd.func9, Tryd.ntmps9
        go_wp2_with fail
        go_ret
        exact ⟨ret_int e0.out.symm, hB0⟩
      · have e0 : Hid (cntF c 0 (1048577 : Int).toNat - cntF c 0 (a : Int).toNat = cntF c (a : Int) ((1048577 : Int) - (a : Int)).toNat) := Lib.hid (between_of c (a : Int) (1048577 : Int) ha0 (by omega))
        have q1 := cnt_bd c 0 (1048577 : Int).toNat
        have q2 := cnt_bd c 0 (a : Int).toNat
        obtain ⟨X, hX⟩ : ∃ X, cntF c 0 (1048577 : Int).toNat = X := ⟨_, rfl⟩
        obtain ⟨Y, hY⟩ : ∃ Y, cntF c 0 (a : Int).toNat = Y := ⟨_, rfl⟩
        rw [hX] at q1
        rw [hY] at q2
        rw [hX, hY] at e0
        obtain ⟨x0, x1⟩ := q1
        obtain ⟨y0, y1⟩ := q2
        have x2 : X ≤ 1048577 := by omega
        have y2 : Y ≤ 1048577 := by omega
        have HX := Lib.hid hX
        have HY := Lib.hid hY
        clear e hX hY x1 y1
        go_enter Tryd.func9, Tryd.ntmps9
        go_wp2_with fail
        refine (ready_any c A1 n1 c1 A2 n2 c2 w H1.out H2.out m1 m2 _ hB0).mono ?_
        rintro e w1 ⟨f, A, np, cp, xs, rfl, hp0, hb1⟩
        have hp := Lib.hid hp0
        have hB := (hB0.trans (hb1.mono hB0.size)).alloc (hB0.trans (hb1.mono hB0.size)).size (.cells #[.bool (f 0), .bool (f 1), .bool (f 2), .bool (f 3), .bool (f 4), .bool (f 5), .bool (f 6), .slice A np cp] 53)
        have hblk : Blk (w1.alloc (.cells #[.bool (f 0), .bool (f 1), .bool (f 2), .bool (f 3), .bool (f 4), .bool (f 5), .bool (f 6), .slice A np cp] 53)) w1.heap.size 53 #[.bool (f 0), .bool (f 1), .bool (f 2), .bool (f 3), .bool (f 4), .bool (f 5), .bool (f 6), .slice A np cp] := Blk.new _ _ _
        clear hp0 hB0 hk0 hb1
        go_wp2_with fail
        generalize w1.alloc (.cells #[.bool (f 0), .bool (f 1), .bool (f 2), .bool (f 3), .bool (f 4), .bool (f 5), .bool (f 6), .slice A np cp] 53) = wr at *
        generalize w1.heap.size = g at *
        have p0 := wof_cell (hblk.cell 0); have p1 := wof_cell (hblk.cell 1); have p2 := wof_cell (hblk.cell 2); have p3 := wof_cell (hblk.cell 3); have p4 := wof_cell (hblk.cell 4); have p5 := wof_cell (hblk.cell 5); have p6 := wof_cell (hblk.cell 6); have p7 := wof_cell (hblk.cell 7)
        have QX : Hid (∀ x : BW wr, Calls Tryd.prog 20 #[.agg #[.bool (f 0), .bool (f 1), .bool (f 2), .bool (f 3), .bool (f 4), .bool (f 5), .bool (f 6), .slice A np cp], .int .i64 (1048577 : Int)] (wof x) fun e w' => e = .returned (.int .i64 X) ∧ Below (wof x).heap.size (wof x) w') := fun x => by
          have := upTo_any c f A np cp xs w hp.out (1048577 : Int) ⟨by omega, hb1'⟩ (wof x) (hB.trans ((wof_below x).mono hB.size))
          rw [HX.out] at this
          exact this
        have QY : Hid (∀ x : BW wr, Calls Tryd.prog 20 #[.agg #[.bool (f 0), .bool (f 1), .bool (f 2), .bool (f 3), .bool (f 4), .bool (f 5), .bool (f 6), .slice A np cp], .int .i64 (a : Int)] (wof x) fun e w' => e = .returned (.int .i64 Y) ∧ Below (wof x).heap.size (wof x) w') := fun x => by
          have := upTo_any c f A np cp xs w hp.out (a : Int) ⟨ha0, by omega⟩ (wof x) (hB.trans ((wof_below x).mono hB.size))
          rw [HY.out] at this
          exact this
        have wr1 : IntKind.i64.wrap (X - Y) = X - Y := IntWalk.i64_in _ (by omega)
        refine wp_region_quiet_below (by kernel_rfl) (by kernel_rfl) ?_
        repeat (go_big_quiet_step ((first | (go_at_call 20; with_reducible exact quiet_below (QX.out _)) | (go_at_call 20; exact quiet_below (QY.out _)))))
        refine wpQuiet_nil ?_
        intro w2 hb2
        clear wr1
        go_wp2_with fail
        go_ret
        exact ⟨ret_int e0.out, hB.trans (hb2.mono hB.size)⟩
    · have hb : min b 1048577 = b := by omega
      have hb1' : b ≤ 1048577 := k2
      have e : betweenV c a b = cntF c a (b - a).toNat := by unfold betweenV; rw [ha, hb]
      rw [e]
      clear ha hb
      by_cases hle : (b : Int) ≤ (a : Int)
      · have e0 : Hid (cntF c (a : Int) ((b : Int) - (a : Int)).toNat = 0) := Lib.hid (by rw [show ((b : Int) - (a : Int)).toNat = 0 by omega]; rfl)
        clear e
        go_enter Tryd.func9, Tryd.ntmps9
        go_wp2_with fail
        go_ret
        exact ⟨ret_int e0.out.symm, hB0⟩
      · have e0 : Hid (cntF c 0 (b : Int).toNat - cntF c 0 (a : Int).toNat = cntF c (a : Int) ((b : Int) - (a : Int)).toNat) := Lib.hid (between_of c (a : Int) (b : Int) ha0 (by omega))
        have q1 := cnt_bd c 0 (b : Int).toNat
        have q2 := cnt_bd c 0 (a : Int).toNat
        obtain ⟨X, hX⟩ : ∃ X, cntF c 0 (b : Int).toNat = X := ⟨_, rfl⟩
        obtain ⟨Y, hY⟩ : ∃ Y, cntF c 0 (a : Int).toNat = Y := ⟨_, rfl⟩
        rw [hX] at q1
        rw [hY] at q2
        rw [hX, hY] at e0
        obtain ⟨x0, x1⟩ := q1
        obtain ⟨y0, y1⟩ := q2
        have x2 : X ≤ 1048577 := by omega
        have y2 : Y ≤ 1048577 := by omega
        have HX := Lib.hid hX
        have HY := Lib.hid hY
        clear e hX hY x1 y1
        go_enter Tryd.func9, Tryd.ntmps9
        go_wp2_with fail
        refine (ready_any c A1 n1 c1 A2 n2 c2 w H1.out H2.out m1 m2 _ hB0).mono ?_
        rintro e w1 ⟨f, A, np, cp, xs, rfl, hp0, hb1⟩
        have hp := Lib.hid hp0
        have hB := (hB0.trans (hb1.mono hB0.size)).alloc (hB0.trans (hb1.mono hB0.size)).size (.cells #[.bool (f 0), .bool (f 1), .bool (f 2), .bool (f 3), .bool (f 4), .bool (f 5), .bool (f 6), .slice A np cp] 53)
        have hblk : Blk (w1.alloc (.cells #[.bool (f 0), .bool (f 1), .bool (f 2), .bool (f 3), .bool (f 4), .bool (f 5), .bool (f 6), .slice A np cp] 53)) w1.heap.size 53 #[.bool (f 0), .bool (f 1), .bool (f 2), .bool (f 3), .bool (f 4), .bool (f 5), .bool (f 6), .slice A np cp] := Blk.new _ _ _
        clear hp0 hB0 hk0 hb1
        go_wp2_with fail
        generalize w1.alloc (.cells #[.bool (f 0), .bool (f 1), .bool (f 2), .bool (f 3), .bool (f 4), .bool (f 5), .bool (f 6), .slice A np cp] 53) = wr at *
        generalize w1.heap.size = g at *
        have p0 := wof_cell (hblk.cell 0); have p1 := wof_cell (hblk.cell 1); have p2 := wof_cell (hblk.cell 2); have p3 := wof_cell (hblk.cell 3); have p4 := wof_cell (hblk.cell 4); have p5 := wof_cell (hblk.cell 5); have p6 := wof_cell (hblk.cell 6); have p7 := wof_cell (hblk.cell 7)
        have QX : Hid (∀ x : BW wr, Calls Tryd.prog 20 #[.agg #[.bool (f 0), .bool (f 1), .bool (f 2), .bool (f 3), .bool (f 4), .bool (f 5), .bool (f 6), .slice A np cp], .int .i64 (b : Int)] (wof x) fun e w' => e = .returned (.int .i64 X) ∧ Below (wof x).heap.size (wof x) w') := fun x => by
          have := upTo_any c f A np cp xs w hp.out (b : Int) ⟨by omega, hb1'⟩ (wof x) (hB.trans ((wof_below x).mono hB.size))
          rw [HX.out] at this
          exact this
        have QY : Hid (∀ x : BW wr, Calls Tryd.prog 20 #[.agg #[.bool (f 0), .bool (f 1), .bool (f 2), .bool (f 3), .bool (f 4), .bool (f 5), .bool (f 6), .slice A np cp], .int .i64 (a : Int)] (wof x) fun e w' => e = .returned (.int .i64 Y) ∧ Below (wof x).heap.size (wof x) w') := fun x => by
          have := upTo_any c f A np cp xs w hp.out (a : Int) ⟨ha0, by omega⟩ (wof x) (hB.trans ((wof_below x).mono hB.size))
          rw [HY.out] at this
          exact this
        have wr1 : IntKind.i64.wrap (X - Y) = X - Y := IntWalk.i64_in _ (by omega)
        refine wp_region_quiet_below (by kernel_rfl) (by kernel_rfl) ?_
        repeat (go_big_quiet_step ((first | (go_at_call 20; with_reducible exact quiet_below (QX.out _)) | (go_at_call 20; exact quiet_below (QY.out _)))))
        refine wpQuiet_nil ?_
        intro w2 hb2
        clear wr1
        go_wp2_with fail
        go_ret
        exact ⟨ret_int e0.out, hB.trans (hb2.mono hB.size)⟩
/-- The n-th working day behind a day, n from 1 on. -/
def addV (c : Cal) (d n : Int) : Int × Bool := if isDayB d then upF c (1048576 - d).toNat n else (0, false)
set_option maxHeartbeats 800000 in
theorem add_up (c : Cal) (A1 : Option Addr) (n1 c1 : Nat) (A2 : Option Addr) (n2 c2 : Nat) (d n : Int) (hn : 1 ≤ n ∧ n ≤ 1048576) (w : World) (h1 : SliceOf w 1 intC A1 n1 c.rest) (h2 : SliceOf w 1 intC A2 n2 c.hol) (m1 : n1 ≤ maxLen) (m2 : n2 ≤ maxLen) :
    Calls Tryd.prog 7 #[.agg #[.slice A1 n1 c1, .slice A2 n2 c2], .int .i64 d, .int .i64 n] w fun e w' => e = .returned (.tuple #[.int .i64 (addV c d n).1, .bool (addV c d n).2]) ∧ Below w.heap.size w w' := by
  obtain ⟨n0, n1'⟩ := hn
  have H1 := Lib.hid h1
  have H2 := Lib.hid h2
  have l1 := h1.len
  have l2 := h2.len
  clear h1 h2
  have hB0 : Below w.heap.size w (w.alloc (.cells #[.slice A1 n1 c1, .slice A2 n2 c2] 24)) := (Below.refl _ _).alloc (Nat.le_refl _) _
  have hk0 : Blk (w.alloc (.cells #[.slice A1 n1 c1, .slice A2 n2 c2] 24)) w.heap.size 24 #[.slice A1 n1 c1, .slice A2 n2 c2] := Blk.new _ _ _
  cases hd : isDayB d
  · have e0 : addV c d n = (0, false) := by unfold addV; rw [hd]; rfl
    have HD := Lib.hid hd
    rw [e0]
    clear e0 hd
    go_enter Tryd.func7, Tryd.ntmps7
    go_wp2_with fail
    refine (isDay_any d _).mono ?_
    rw [HD.out]
    rintro e w2 ⟨rfl, rfl⟩
    go_wp2_with fail
    go_ret2
    exact ⟨rfl, hB0⟩
  · have e0 : addV c d n = upF c (1048577 - (d + 1)).toNat n := by unfold addV; rw [hd]; simp only [if_true]; congr 1; omega
    obtain ⟨d0, d1⟩ : 0 ≤ d ∧ d ≤ 1048576 := by simpa [isDayB] using hd
    have HD := Lib.hid hd
    rw [e0]
    clear e0 hd
    go_enter Tryd.func7, Tryd.ntmps7
    go_wp2_with fail
    refine (isDay_any d _).mono ?_
    rw [HD.out]
    rintro e w2 ⟨rfl, rfl⟩
    go_wp2_with fail
    refine (along_up c A1 n1 c1 A2 n2 c2 (d + 1) n ⟨by omega, by omega⟩ ⟨n0, n1'⟩ _ (H1.out.below hB0) (H2.out.below hB0) m1 m2).mono ?_
    rintro e w1 ⟨rfl, hb1⟩
    have hB1 := hB0.trans (hb1.mono hB0.size)
    have hk1 := hk0.below hb1 hk0.lt
    clear hB0 hk0 hb1
    go_wp2_with fail
    go_ret2
    exact ⟨rfl, hB1⟩
end Go.Proofs.YtlicmhgpldmliaaDoor.cal
