/- The money of a text: the document. No condition. -/
import Derived.Test.YtmmcngdpfikdiaaDoorMyTx
import Derived.Test.YtmmcngdpfikdiaaDoorMyTextR
import Derived.Test.YtmmcngdpfikdiaaDoorTail
namespace Go.Proofs.YtmmcngdpfikdiaaDoor.kit
open Go.RowKit Go.PlainAid
set_option linter.unusedVariables false

theorem rtext_any (m : Mon) (w : World) (hc : m.cur.size ≤ maxLen) :
    Calls Tryd.prog 17 #[.agg #[.string m.cur, .int .i64 m.amt]] w fun e w' => e = .returned (.string (textV m)) ∧ Below w.heap.size w w' := by
  by_cases hm : mayM m = true
  · have hma := (may_iff.1 hm).2
    obtain ⟨c, a⟩ := m
    simp only [] at hma hc ⊢
    by_cases h : a < 0
    · obtain ⟨A, hA⟩ : ∃ A : Nat, a = -(A : Int) := ⟨a.natAbs, by omega⟩
      subst hA
      exact rtext_neg c A w hc (by omega) (by omega)
    · obtain ⟨A, hA⟩ : ∃ A : Nat, a = (A : Int) := ⟨a.natAbs, by omega⟩
      subst hA
      exact rtext_pos c A w hc (by omega) (by omega)
  · have hm' : mayM m = false := by simpa using hm
    have HM := Lib.hid (fun w => rmay_any m w hc)
    rw [hm'] at HM
    have hB0 : Below w.heap.size w (w.alloc (.cells #[.string m.cur, .int .i64 m.amt] 23)) := (Below.refl _ _).alloc (Nat.le_refl _) _
    rw [text_no hm']
    clear hm hm'
    go_enter Tryd.func17, Tryd.ntmps17
    go_wp2_with fail
    refine (HM.out _).mono ?_
    rintro e w1 ⟨rfl, hb1⟩
    have hB1 := hB0.trans (hb1.mono hB0.size)
    go_wp2_with fail
    go_ret
    exact ⟨rfl, hB1⟩
theorem ret_sb2 {r : Mon × Bool} {a : Mon} {b : Bool} (h : r = (a, b)) : Ending.returned (.tuple #[.agg #[.string a.cur, .int .i64 a.amt], .bool b]) = .returned (.tuple #[.agg #[.string r.1.cur, .int .i64 r.1.amt], .bool r.2]) := by rw [h]
set_option maxRecDepth 100000 in
set_option maxHeartbeats 1200000 in
theorem rparse_any (s : ByteArray) (w : World) (hs : s.size ≤ maxLen) :
    Calls Tryd.prog 18 #[.string s] w fun e w' => e = .returned (.tuple #[.agg #[.string (rparseV s).1.cur, .int .i64 (rparseV s).1.amt], .bool (rparseV s).2]) ∧ Below w.heap.size w w' := by
  unfold maxLen at hs
  have hR0 : Blk (w.alloc (.cells #[.string ⟨#[]⟩, .int .i64 0] 23)) w.heap.size 23 #[.string ⟨#[]⟩, .int .i64 0] := Blk.new _ _ _
  have hB0 : Below w.heap.size w (w.alloc (.cells #[.string ⟨#[]⟩, .int .i64 0] 23)) := (Below.refl _ _).alloc (Nat.le_refl _) _
  have r0 := hR0.cell 0; have r1 := hR0.cell 1; have f0 := hR0.frozen 0; have f1 := hR0.frozen 1
  simp only [List.getElem?_toArray, List.getElem?_cons_zero, List.getElem?_cons_succ] at r0 r1
  by_cases h5 : s.size < 5
  · have e1 : Hid (rparseV s = (noM, false)) := Lib.hid (by unfold rparseV; rw [if_neg (by omega)])
    have d0 : decide ((s.size : Int) < 5) = true := decide_eq_true (by omega)
    have d0n : decide (s.size < 5) = true := decide_eq_true h5
    go_enter Tryd.func18, Tryd.ntmps18
    go_wp2_with (refine stop_store 23 _ _ rfl ?_; refine wpList_store_blk rfl 23 _ _ rfl #[.string noM.cur, .int .i64 noM.amt] rfl rfl hR0 (by kernel_rfl) rfl rfl ?_; intro w9 hR9 hk9 hb9)
    have hB9 := hb9 _ _ hB0 (by omega)
    clear r0 r1 f0 f1
    have r0 := hR9.cell 0; have r1 := hR9.cell 1; have f0 := hR9.frozen 0; have f1 := hR9.frozen 1
    simp only [List.getElem?_toArray, List.getElem?_cons_zero, List.getElem?_cons_succ] at r0 r1
    refine bodyPost_ret (v := .tuple #[.agg #[.string noM.cur, .int .i64 noM.amt], .bool false]) (by simp [results, Tryd.results18, go_sem, r0, r1]) rfl ⟨ret_sb2 e1.out, hB9⟩
  have d0 : decide ((s.size : Int) < 5) = false := decide_eq_false (by omega)
  have d0n : decide (s.size < 5) = false := decide_eq_false h5
  by_cases h24 : 24 < s.size
  · have e1 : Hid (rparseV s = (noM, false)) := Lib.hid (by unfold rparseV; rw [if_neg (by omega)])
    have d1 : decide ((24 : Int) < (s.size : Int)) = true := decide_eq_true (by omega)
    have d1n : decide (24 < s.size) = true := decide_eq_true h24
    go_enter Tryd.func18, Tryd.ntmps18
    go_wp2_with (refine stop_store 23 _ _ rfl ?_; refine wpList_store_blk rfl 23 _ _ rfl #[.string noM.cur, .int .i64 noM.amt] rfl rfl hR0 (by kernel_rfl) rfl rfl ?_; intro w9 hR9 hk9 hb9)
    have hB9 := hb9 _ _ hB0 (by omega)
    clear r0 r1 f0 f1
    have r0 := hR9.cell 0; have r1 := hR9.cell 1; have f0 := hR9.frozen 0; have f1 := hR9.frozen 1
    simp only [List.getElem?_toArray, List.getElem?_cons_zero, List.getElem?_cons_succ] at r0 r1
    refine bodyPost_ret (v := .tuple #[.agg #[.string noM.cur, .int .i64 noM.amt], .bool false]) (by simp [results, Tryd.results18, go_sem, r0, r1]) rfl ⟨ret_sb2 e1.out, hB9⟩
  have d1 : decide ((24 : Int) < (s.size : Int)) = false := decide_eq_false (by omega)
  have d1n : decide (24 < s.size) = false := decide_eq_false h24
  have hb := get_bt s
  have HIN := Lib.hid (fun k => accW_in (s := s) (k := k))
  have HOUT := Lib.hid (fun k => accW_out (s := s) (k := k))
  have HPV : Hid (rparseV s = if textV (parseW s) = s then (parseW s, true) else (noM, false)) := Lib.hid (by
    unfold rparseV
    by_cases h : textV (parseW s) = s
    · rw [if_pos h, if_pos ⟨by omega, by omega, h⟩]
    · rw [if_neg h, if_neg (fun hh => h hh.2.2)])
  have hc3 : (s.extract 0 3).size ≤ maxLen := by unfold maxLen; rw [ByteArray.size_extract]; omega
  have HTX := Lib.hid (fun v w => rtext_any ⟨s.extract 0 3, v⟩ w hc3)
  clear hc3
  have hS0 : Blk ((w.alloc (.cells #[.string ⟨#[]⟩, .int .i64 0] 23)).alloc (.cells #[.string (s.extract 0 3), .int .i64 0] 23)) (w.heap.size + 1) 23 #[.string (s.extract 0 3), .int .i64 0] := Blk.newAt _ _ (by simp only [size_alloc])
  have hR1 := hR0.alloc (.cells #[.string (s.extract 0 3), .int .i64 0] 23)
  have hB1 : Below w.heap.size w ((w.alloc (.cells #[.string ⟨#[]⟩, .int .i64 0] 23)).alloc (.cells #[.string (s.extract 0 3), .int .i64 0] 23)) := hB0.alloc hB0.size _
  obtain ⟨X, hX⟩ : ∃ X, (bt s 4 == 45) = X := ⟨_, rfl⟩
  have HX := Lib.hid hX
  have hn24 : s.size ≤ 24 := by omega
  have hne : w.heap.size ≠ w.heap.size + 1 := by omega
  go_enter Tryd.func18, Tryd.ntmps18
  go_wp2_with fail
  go_loopw [5] (fun i wr => ∃ k : Nat, k + 4 ≤ s.size ∧ i = .int .i64 ((k : Int) + 4) ∧ Below w.heap.size w wr ∧ Blk wr w.heap.size 23 #[.string ⟨#[]⟩, .int .i64 0] ∧ Blk wr (w.heap.size + 1) 23 #[.string (s.extract 0 3), .int .i64 (accW s k)]) (fun i _ => s.size - (intOf i).toNat)
  case atStart => exact ⟨0, by omega, rfl, hB1, hR1, hS0⟩
  case round =>
    obtain ⟨k, hk, rfl, hBw, hRw, hSw⟩ := hrel
    clear hR0 hB0 r0 r1 f0 f1 hS0 hR1 hB1
    by_cases hlt : k + 4 < s.size
    · by_cases hdg : 48 ≤ bt s (k + 4) ∧ bt s (k + 4) ≤ 57
      · have HIN2 := Lib.hid (HIN.out k hdg)
        have hd1 := hdg.1
        have hd2 := hdg.2
        have dl : decide (bt s (k + 4) < 48) = false := decide_eq_false (by omega)
        have dh : decide (57 < bt s (k + 4)) = false := decide_eq_false (by omega)
        have dl2 : decide (48 ≤ bt s (k + 4)) = true := decide_eq_true (by omega)
        have dh2 : decide (bt s (k + 4) ≤ 57) = true := decide_eq_true (by omega)
        obtain ⟨Z, hZ⟩ : ∃ Z, accW s k = Z := ⟨_, rfl⟩
        rw [hZ] at HIN2 hSw
        clear hdg hZ
        go_wp2_with fail
        have s0 := hSw.cell 0; have s1' := hSw.cell 1
        simp only [List.getElem?_toArray, List.getElem?_cons_zero, List.getElem?_cons_succ] at s0 s1'
        have p0 := wof_cell s0; have p1 := wof_cell s1'
        refine wp_region_quiet_below_tail 10 (by kernel_rfl) (by kernel_rfl) ?_
        simp only [List.take_succ_cons, List.take_zero, List.drop_succ_cons, List.drop_zero]
        repeat (go_big_quiet_step (fail))
        refine wpQuiet_nil ?_
        intro w3 hb3
        have hB3 := hBw.trans (hb3.mono hBw.size)
        have hR3 := hRw.below hb3 hRw.lt
        have hS3 := hSw.below hb3 hSw.lt
        clear p0 p1 s0 s1' hBw hRw hSw hb3
        have s1' := hS3.cell 1; have z1 := hS3.frozen 1
        simp only [List.getElem?_toArray, List.getElem?_cons_zero, List.getElem?_cons_succ] at s1'
        go_wp2_with fail
        go_round
        case rel => exact ⟨k + 1, by omega, by go_num, hB3.setCell (by show _ ≤ w.heap.size + 1; omega) _, hR3.far (by show _ ≠ w.heap.size + 1; omega) _, by rw [HIN2.out]; exact hS3.set_ 1 _⟩
        case measure => simp [intOf]; omega
      · have hout := Lib.hid (HOUT.out k hdg)
        by_cases hlo : bt s (k + 4) < 48
        · have dl : decide (bt s (k + 4) < 48) = true := decide_eq_true hlo
          have dl2 : decide (48 ≤ bt s (k + 4)) = false := decide_eq_false (by omega)
          clear hdg
          go_wp2_with fail
          go_round
          case rel => exact ⟨k + 1, by omega, by go_num, hBw, hRw, by rw [hout.out]; exact hSw⟩
          case measure => simp [intOf]; omega
        · have dl : decide (bt s (k + 4) < 48) = false := decide_eq_false hlo
          have dh : decide (57 < bt s (k + 4)) = true := decide_eq_true (by omega)
          have dl2 : decide (48 ≤ bt s (k + 4)) = true := decide_eq_true (by omega)
          have dh2 : decide (bt s (k + 4) ≤ 57) = false := decide_eq_false (by omega)
          clear hdg
          go_wp2_with fail
          go_round
          case rel => exact ⟨k + 1, by omega, by go_num, hBw, hRw, by rw [hout.out]; exact hSw⟩
          case measure => simp [intOf]; omega
    · obtain ⟨Z, hZ⟩ : ∃ Z, accW s k = Z := ⟨_, rfl⟩
      have hkn : k = s.size - 4 := by omega
      have hPM : parseW s = ⟨s.extract 0 3, if X = true then wrap64 (-Z) else Z⟩ := by
        unfold parseW
        rw [← hkn, hZ, ← HX.out]
        simp
      rw [hZ] at hSw
      have HPM := Lib.hid hPM
      clear hPM hZ
      have s0 := hSw.cell 0; have s1' := hSw.cell 1; have z0 := hSw.frozen 0; have z1 := hSw.frozen 1
      simp only [List.getElem?_toArray, List.getElem?_cons_zero, List.getElem?_cons_succ] at s0 s1'
      cases X
      · have HPM2 : Hid (parseW s = ⟨s.extract 0 3, Z⟩) := Lib.hid (by rw [HPM.out, if_neg (by simp)])
        go_wp2_with fail
        have hRx := hRw; have hSx := hSw; have hBx := hBw
        clear hRw hSw hBw
        clear s0 s1' z0 z1
        have q1 := eq_str (textV ⟨s.extract 0 3, Z⟩) s
        have hR1 := hRx; have hS1 := hSx; have hB1 := hBx
        clear hRx hSx hBx
        by_cases htx : textV ⟨s.extract 0 3, Z⟩ = s
        · rw [decide_eq_true htx] at q1
          have e1 : Hid (rparseV s = (⟨s.extract 0 3, Z⟩, true)) := Lib.hid (by rw [HPV.out, HPM2.out, if_pos htx])
          clear htx
          refine (HTX.out Z _).mono ?_
          rintro e w2 ⟨rfl, hb2⟩
          have hB2 := hB1.trans (hb2.mono hB1.size)
          have hR2 := hR1.below hb2 hR1.lt
          have hS2 := hS1.below hb2 hS1.lt
          clear hR1 hS1 hB1 hb2
          have r0 := hR2.cell 0; have r1 := hR2.cell 1; have f0 := hR2.frozen 0; have f1 := hR2.frozen 1
          simp only [List.getElem?_toArray, List.getElem?_cons_zero, List.getElem?_cons_succ] at r0 r1
          have s0 := hS2.cell 0; have s1' := hS2.cell 1
          simp only [List.getElem?_toArray, List.getElem?_cons_zero, List.getElem?_cons_succ] at s0 s1'
          go_wp2_with (refine stop_store 23 _ _ rfl ?_; refine wpList_store_blk rfl 23 _ _ rfl #[.string (Mon.mk (s.extract 0 3) Z).cur, .int .i64 (Mon.mk (s.extract 0 3) Z).amt] rfl rfl hR2 (by kernel_rfl) rfl rfl ?_; intro w9 hR9 hk9 hb9)
          have hB9 := hb9 _ _ hB2 (by omega)
          clear r0 r1 f0 f1
          have r0 := hR9.cell 0; have r1 := hR9.cell 1; have f0 := hR9.frozen 0; have f1 := hR9.frozen 1
          simp only [List.getElem?_toArray, List.getElem?_cons_zero, List.getElem?_cons_succ] at r0 r1
          refine bodyPost_ret (v := .tuple #[.agg #[.string (Mon.mk (s.extract 0 3) Z).cur, .int .i64 (Mon.mk (s.extract 0 3) Z).amt], .bool true]) (by simp [results, Tryd.results18, go_sem, r0, r1]) rfl ⟨ret_sb2 e1.out, hB9⟩
        · rw [decide_eq_false htx] at q1
          have e1 : Hid (rparseV s = (noM, false)) := Lib.hid (by rw [HPV.out, HPM2.out, if_neg htx])
          clear htx
          refine (HTX.out Z _).mono ?_
          rintro e w2 ⟨rfl, hb2⟩
          have hB2 := hB1.trans (hb2.mono hB1.size)
          have hR2 := hR1.below hb2 hR1.lt
          have hS2 := hS1.below hb2 hS1.lt
          clear hR1 hS1 hB1 hb2
          have r0 := hR2.cell 0; have r1 := hR2.cell 1; have f0 := hR2.frozen 0; have f1 := hR2.frozen 1
          simp only [List.getElem?_toArray, List.getElem?_cons_zero, List.getElem?_cons_succ] at r0 r1
          have s0 := hS2.cell 0; have s1' := hS2.cell 1
          simp only [List.getElem?_toArray, List.getElem?_cons_zero, List.getElem?_cons_succ] at s0 s1'
          go_wp2_with (refine stop_store 23 _ _ rfl ?_; refine wpList_store_blk rfl 23 _ _ rfl #[.string noM.cur, .int .i64 noM.amt] rfl rfl hR2 (by kernel_rfl) rfl rfl ?_; intro w9 hR9 hk9 hb9)
          have hB9 := hb9 _ _ hB2 (by omega)
          clear r0 r1 f0 f1
          have r0 := hR9.cell 0; have r1 := hR9.cell 1; have f0 := hR9.frozen 0; have f1 := hR9.frozen 1
          simp only [List.getElem?_toArray, List.getElem?_cons_zero, List.getElem?_cons_succ] at r0 r1
          refine bodyPost_ret (v := .tuple #[.agg #[.string noM.cur, .int .i64 noM.amt], .bool false]) (by simp [results, Tryd.results18, go_sem, r0, r1]) rfl ⟨ret_sb2 e1.out, hB9⟩
      · have HPM2 : Hid (parseW s = ⟨s.extract 0 3, wrap64 (-Z)⟩) := Lib.hid (by rw [HPM.out, if_pos rfl])
        go_wp2_with fail
        have hRx := hRw.far (p := ⟨w.heap.size + 1, 1, none⟩) (by show _ ≠ w.heap.size + 1; omega) (.int .i64 (wrap64 (-Z)))
        have hSx : Blk (wr.setCell ⟨w.heap.size + 1, 1, none⟩ (.int .i64 (wrap64 (-Z)))) (w.heap.size + 1) 23 #[.string (s.extract 0 3), .int .i64 (wrap64 (-Z))] := hSw.set_ 1 _
        have hBx : Below w.heap.size w (wr.setCell ⟨w.heap.size + 1, 1, none⟩ (.int .i64 (wrap64 (-Z)))) := hBw.setCell (by show _ ≤ w.heap.size + 1; omega) _
        clear hRw hSw hBw
        clear s0 s1' z0 z1
        obtain ⟨Y, hY⟩ : ∃ Y, wrap64 (-Z) = Y := ⟨_, rfl⟩
        rw [hY] at HPM2 hRx hSx hBx ⊢
        clear hY
        generalize wr.setCell ⟨w.heap.size + 1, 1, none⟩ (.int .i64 Y) = wy at *
        have q1 := eq_str (textV ⟨s.extract 0 3, Y⟩) s
        have hR1 := hRx; have hS1 := hSx; have hB1 := hBx
        clear hRx hSx hBx
        by_cases htx : textV ⟨s.extract 0 3, Y⟩ = s
        · rw [decide_eq_true htx] at q1
          have e1 : Hid (rparseV s = (⟨s.extract 0 3, Y⟩, true)) := Lib.hid (by rw [HPV.out, HPM2.out, if_pos htx])
          clear htx
          refine (HTX.out Y _).mono ?_
          rintro e w2 ⟨rfl, hb2⟩
          have hB2 := hB1.trans (hb2.mono hB1.size)
          have hR2 := hR1.below hb2 hR1.lt
          have hS2 := hS1.below hb2 hS1.lt
          clear hR1 hS1 hB1 hb2
          have r0 := hR2.cell 0; have r1 := hR2.cell 1; have f0 := hR2.frozen 0; have f1 := hR2.frozen 1
          simp only [List.getElem?_toArray, List.getElem?_cons_zero, List.getElem?_cons_succ] at r0 r1
          have s0 := hS2.cell 0; have s1' := hS2.cell 1
          simp only [List.getElem?_toArray, List.getElem?_cons_zero, List.getElem?_cons_succ] at s0 s1'
          go_wp2_with (refine stop_store 23 _ _ rfl ?_; refine wpList_store_blk rfl 23 _ _ rfl #[.string (Mon.mk (s.extract 0 3) Y).cur, .int .i64 (Mon.mk (s.extract 0 3) Y).amt] rfl rfl hR2 (by kernel_rfl) rfl rfl ?_; intro w9 hR9 hk9 hb9)
          have hB9 := hb9 _ _ hB2 (by omega)
          clear r0 r1 f0 f1
          have r0 := hR9.cell 0; have r1 := hR9.cell 1; have f0 := hR9.frozen 0; have f1 := hR9.frozen 1
          simp only [List.getElem?_toArray, List.getElem?_cons_zero, List.getElem?_cons_succ] at r0 r1
          refine bodyPost_ret (v := .tuple #[.agg #[.string (Mon.mk (s.extract 0 3) Y).cur, .int .i64 (Mon.mk (s.extract 0 3) Y).amt], .bool true]) (by simp [results, Tryd.results18, go_sem, r0, r1]) rfl ⟨ret_sb2 e1.out, hB9⟩
        · rw [decide_eq_false htx] at q1
          have e1 : Hid (rparseV s = (noM, false)) := Lib.hid (by rw [HPV.out, HPM2.out, if_neg htx])
          clear htx
          refine (HTX.out Y _).mono ?_
          rintro e w2 ⟨rfl, hb2⟩
          have hB2 := hB1.trans (hb2.mono hB1.size)
          have hR2 := hR1.below hb2 hR1.lt
          have hS2 := hS1.below hb2 hS1.lt
          clear hR1 hS1 hB1 hb2
          have r0 := hR2.cell 0; have r1 := hR2.cell 1; have f0 := hR2.frozen 0; have f1 := hR2.frozen 1
          simp only [List.getElem?_toArray, List.getElem?_cons_zero, List.getElem?_cons_succ] at r0 r1
          have s0 := hS2.cell 0; have s1' := hS2.cell 1
          simp only [List.getElem?_toArray, List.getElem?_cons_zero, List.getElem?_cons_succ] at s0 s1'
          go_wp2_with (refine stop_store 23 _ _ rfl ?_; refine wpList_store_blk rfl 23 _ _ rfl #[.string noM.cur, .int .i64 noM.amt] rfl rfl hR2 (by kernel_rfl) rfl rfl ?_; intro w9 hR9 hk9 hb9)
          have hB9 := hb9 _ _ hB2 (by omega)
          clear r0 r1 f0 f1
          have r0 := hR9.cell 0; have r1 := hR9.cell 1; have f0 := hR9.frozen 0; have f1 := hR9.frozen 1
          simp only [List.getElem?_toArray, List.getElem?_cons_zero, List.getElem?_cons_succ] at r0 r1
          refine bodyPost_ret (v := .tuple #[.agg #[.string noM.cur, .int .i64 noM.amt], .bool false]) (by simp [results, Tryd.results18, go_sem, r0, r1]) rfl ⟨ret_sb2 e1.out, hB9⟩
end Go.Proofs.YtmmcngdpfikdiaaDoor.kit
