/- Fractions held against one another: the document. No condition. -/
import Derived.Test.YtmmcngdpfikdiaaDoorMyCmp
namespace Go.Proofs.YtmmcngdpfikdiaaDoor.kit
open Go.RowKit Go.PlainAid
set_option linter.unusedVariables false

theorem meas_lt {w w' : World} {g : Nat} {t : TypeId} {x y x' y' : Nat} (h : Blk w g t #[.int .i64 (x : Int), .int .i64 (y : Int)]) (h' : Blk w' g t #[.int .i64 (x' : Int), .int .i64 (y' : Int)]) (hy : y' < y) :
    (intOf ((w'.cell? ⟨g, 1, none⟩).getD .nilFunc)).toNat < (intOf ((w.cell? ⟨g, 1, none⟩).getD .nilFunc)).toNat := by
  have e1 := h.cell 1
  have e2 := h'.cell 1
  simp only [List.getElem?_toArray, List.getElem?_cons_zero, List.getElem?_cons_succ] at e1 e2
  rw [e1, e2]
  simp [intOf]
  omega
set_option maxRecDepth 100000 in
set_option maxHeartbeats 6400000 in
theorem rcmp_any (n0 d0 n1 d1 : Int) (w : World) (hn : I64 n0) (hd : I64 d0) (hn' : I64 n1) (hd' : I64 d1) : Calls Tryd.prog 24 #[(.agg #[.int .i64 n0, .int .i64 d0]), (.agg #[.int .i64 n1, .int .i64 d1])] w fun e w' => e = .returned (.int .i64 (cmpV n0 d0 n1 d1)) ∧ Below w.heap.size w w' := by
  have HA := Lib.hid (fun w => rright_any n0 d0 w)
  have HC := Lib.hid (fun w => rright_any n1 d1 w)
  have hA0 : Blk ((w.alloc (.cells #[.int .i64 n0, .int .i64 d0] 25)).alloc (.cells #[.int .i64 n1, .int .i64 d1] 25)) w.heap.size 25 #[.int .i64 n0, .int .i64 d0] := Blk.more (Blk.new _ _ _) _
  have hC0 : Blk ((w.alloc (.cells #[.int .i64 n0, .int .i64 d0] 25)).alloc (.cells #[.int .i64 n1, .int .i64 d1] 25)) (w.heap.size + 1) 25 #[.int .i64 n1, .int .i64 d1] := Blk.newAt _ _ (by simp only [size_alloc])
  have hB0 : Below w.heap.size w ((w.alloc (.cells #[.int .i64 n0, .int .i64 d0] 25)).alloc (.cells #[.int .i64 n1, .int .i64 d1] 25)) := by
    refine Below.alloc (Below.alloc (Below.refl _ _) ?_ _) ?_ _
    all_goals (try simp only [size_alloc]); omega
  have a0 := hA0.cell 0; have a1 := hA0.cell 1; have c0 := hC0.cell 0; have c1 := hC0.cell 1
  simp only [List.getElem?_toArray, List.getElem?_cons_zero, List.getElem?_cons_succ] at a0 a1 c0 c1
  have hne : w.heap.size ≠ w.heap.size + 1 := by omega
  have b1 := wN_bd hn hd
  have b2 := wN_bd hn' hd'
  have EV : cmpV n0 d0 n1 d1 = cmpN (wN n0 d0) (wD n0 d0) (wN n1 d1) (wD n1 d1) := rfl
  have p1 := wD_pos n0 d0
  have p2 := wD_pos n1 d1
  have X0 : ratB n0 d0 = true → (wN n0 d0 : Int) = n0 ∧ (wD n0 d0 : Int) = d0 := fun h => by
    have hnd : 0 ≤ n0 ∧ 1 ≤ d0 := by unfold ratB at h; simpa using h
    unfold wN wD; rw [h, if_pos rfl, if_pos rfl, Int.toNat_of_nonneg hnd.1, Int.toNat_of_nonneg (by omega)]; exact ⟨rfl, rfl⟩
  have X1 : ratB n1 d1 = true → (wN n1 d1 : Int) = n1 ∧ (wD n1 d1 : Int) = d1 := fun h => by
    have hnd : 0 ≤ n1 ∧ 1 ≤ d1 := by unfold ratB at h; simpa using h
    unfold wN wD; rw [h, if_pos rfl, if_pos rfl, Int.toNat_of_nonneg hnd.1, Int.toNat_of_nonneg (by omega)]; exact ⟨rfl, rfl⟩
  have Y0 : ratB n0 d0 = false → wN n0 d0 = 0 ∧ wD n0 d0 = 1 := fun h => by unfold wN wD; rw [h]; exact ⟨rfl, rfl⟩
  have Y1 : ratB n1 d1 = false → wN n1 d1 = 0 ∧ wD n1 d1 = 1 := fun h => by unfold wN wD; rw [h]; exact ⟨rfl, rfl⟩
  obtain ⟨A, hA⟩ : ∃ x, wN n0 d0 = x := ⟨_, rfl⟩
  obtain ⟨B, hB⟩ : ∃ x, wD n0 d0 = x := ⟨_, rfl⟩
  obtain ⟨C, hC⟩ : ∃ x, wN n1 d1 = x := ⟨_, rfl⟩
  obtain ⟨D, hD⟩ : ∃ x, wD n1 d1 = x := ⟨_, rfl⟩
  rw [hA, hB] at b1 X0 Y0
  rw [hC, hD] at b2 X1 Y1
  rw [hB] at p1
  rw [hD] at p2
  rw [hA, hB, hC, hD] at EV
  obtain ⟨V, hV⟩ : ∃ V, cmpV n0 d0 n1 d1 = V := ⟨_, rfl⟩
  rw [hV] at EV ⊢
  replace EV := Lib.hid EV.symm
  have hBD : 1 ≤ B ∧ 1 ≤ D := ⟨p1, p2⟩
  have hbd : A ≤ 9223372036854775807 ∧ B ≤ 9223372036854775807 ∧ C ≤ 9223372036854775807 ∧ D ≤ 9223372036854775807 := ⟨b1.1, b1.2, b2.1, b2.2⟩
  clear hA hB hC hD hV hn hd hn' hd' b1 b2 p1 p2
  cases q0 : ratB n0 d0 <;> cases q1 : ratB n1 d1
  · rw [q0] at HA
    rw [q1] at HC
    obtain ⟨rfl, rfl⟩ := Y0 q0
    obtain ⟨rfl, rfl⟩ := Y1 q1
    clear X0 X1 Y0 Y1 q0 q1
    go_enter Tryd.func24, Tryd.ntmps24
    go_wp2_with fail
    refine (HA.out _).mono ?_
    rintro e w1 ⟨rfl, hb1⟩
    have hB1 := hB0.trans (hb1.mono hB0.size)
    have hA1 := hA0.below hb1 hA0.lt
    have hC1 := hC0.below hb1 hC0.lt
    clear a0 a1 c0 c1 hB0 hA0 hC0 hb1
    have a0 := hA1.cell 0; have a1 := hA1.cell 1; have c0 := hC1.cell 0; have c1 := hC1.cell 1
    simp only [List.getElem?_toArray, List.getElem?_cons_zero, List.getElem?_cons_succ] at a0 a1 c0 c1
    go_wp2_with ((refine stop_store 25 _ _ rfl ?_; refine wpList_store_blk rfl 25 _ _ rfl #[.int .i64 ((0 : Nat) : Int), .int .i64 ((1 : Nat) : Int)] rfl rfl hA1 (by kernel_rfl) rfl rfl ?_; intro w2 hA2 hk2 hb2); have hC2 := hk2 _ _ _ (Ne.symm hne) hC1; have hB2 := hb2 _ _ hB1 (Nat.le_refl _); clear hk2 hb2 a0 a1 c0 c1 hA1 hB1 hC1; have a0 := hA2.cell 0; have a1 := hA2.cell 1; have c0 := hC2.cell 0; have c1 := hC2.cell 1; simp only [List.getElem?_toArray, List.getElem?_cons_zero, List.getElem?_cons_succ] at a0 a1 c0 c1)
    go_wp2_with fail
    refine (HC.out _).mono ?_
    rintro e w3 ⟨rfl, hb3⟩
    have hB3 := hB2.trans (hb3.mono hB2.size)
    have hA3 := hA2.below hb3 hA2.lt
    have hC3 := hC2.below hb3 hC2.lt
    clear a0 a1 c0 c1 hB2 hA2 hC2 hb3
    have a0 := hA3.cell 0; have a1 := hA3.cell 1; have c0 := hC3.cell 0; have c1 := hC3.cell 1
    simp only [List.getElem?_toArray, List.getElem?_cons_zero, List.getElem?_cons_succ] at a0 a1 c0 c1
    go_wp2_with ((refine stop_store 25 _ _ rfl ?_; refine wpList_store_blk rfl 25 _ _ rfl #[.int .i64 ((0 : Nat) : Int), .int .i64 ((1 : Nat) : Int)] rfl rfl hC3 (by kernel_rfl) rfl rfl ?_; intro w9 hC9 hk9 hb9); have hA9 := hk9 _ _ _ hne hA3; have hB9 := hb9 _ _ hB3 (Nat.le_succ _); clear hk9 hb9 a0 a1 c0 c1 hA3 hB3 hC3; have a0 := hA9.cell 0; have a1 := hA9.cell 1; have c0 := hC9.cell 0; have c1 := hC9.cell 1; simp only [List.getElem?_toArray, List.getElem?_cons_zero, List.getElem?_cons_succ] at a0 a1 c0 c1)
    go_wp2_with fail
    go_loopw [5] (fun sg wr => ∃ (s : Int) (a b c d : Nat), (s = 1 ∨ s = -1) ∧ sg = .int .i64 s ∧ (1 ≤ b ∧ 1 ≤ d) ∧ (a ≤ 9223372036854775807 ∧ b ≤ 9223372036854775807 ∧ c ≤ 9223372036854775807 ∧ d ≤ 9223372036854775807) ∧ Below w.heap.size w wr ∧ Blk wr w.heap.size 25 #[.int .i64 (a : Int), .int .i64 (b : Int)] ∧ Blk wr (w.heap.size + 1) 25 #[.int .i64 (c : Int), .int .i64 (d : Int)] ∧ Hid (s * cmpN a b c d = V)) (fun sg wr => (intOf ((wr.cell? ⟨w.heap.size, 1, none⟩).getD .nilFunc)).toNat)
    case atStart => exact ⟨1, _, _, _, _, .inl rfl, rfl, hBD, hbd, hB9, hA9, hC9, Lib.hid (by rw [Int.one_mul, EV.out])⟩
    case round =>
      obtain ⟨s, a, b, c, d, hs, rfl, ⟨hb1, hd1⟩, ⟨z1, z2, z3, z4⟩, hBw, hAw, hCw, HI⟩ := hrel
      clear hBD hbd EV hB9 hA9 hC9 a0 a1 c0 c1
      have hB1 := Lib.hid hBw
      have HMM := Lib.hid hAw
      have hA1 := hAw
      have hC1 := hCw
      have a0 := hA1.cell 0; have a1 := hA1.cell 1; have c0 := hC1.cell 0; have c1 := hC1.cell 1
      simp only [List.getElem?_toArray, List.getElem?_cons_zero, List.getElem?_cons_succ] at a0 a1 c0 c1
      have dv1 : (a : Int) / (b : Int) = ((a / b : Nat) : Int) := by rw [Int.natCast_ediv]
      have dv2 : Int.tdiv (a : Int) (b : Int) = ((a / b : Nat) : Int) := by rw [Int.tdiv_eq_ediv_of_nonneg (by omega), dv1]
      have dv3 : (c : Int) / (d : Int) = ((c / d : Nat) : Int) := by rw [Int.natCast_ediv]
      have dv4 : Int.tdiv (c : Int) (d : Int) = ((c / d : Nat) : Int) := by rw [Int.tdiv_eq_ediv_of_nonneg (by omega), dv3]
      have md1 : (a : Int) % (b : Int) = ((a % b : Nat) : Int) := by rw [Int.natCast_emod]
      have md2 : Int.tmod (a : Int) (b : Int) = ((a % b : Nat) : Int) := by rw [Int.tmod_eq_emod_of_nonneg (by omega), md1]
      have md3 : (c : Int) % (d : Int) = ((c % d : Nat) : Int) := by rw [Int.natCast_emod]
      have md4 : Int.tmod (c : Int) (d : Int) = ((c % d : Nat) : Int) := by rw [Int.tmod_eq_emod_of_nonneg (by omega), md3]
      have nz1 : ((b : Int) == 0) = false := by simp; omega
      have nz2 : ((d : Int) == 0) = false := by simp; omega
      have HLT := Lib.hid (fun h => whole_lt (a := a) (c := c) (show 0 < b by omega) (show 0 < d by omega) h)
      have HGT := Lib.hid (fun h => whole_gt (a := a) (c := c) (show 0 < b by omega) (show 0 < d by omega) h)
      have H00 := Lib.hid (fun h => rest_00 (a := a) (b := b) (c := c) (d := d) h)
      have H0 := Lib.hid (fun h => rest_0 (a := a) (c := c) (d := d) (show 0 < b by omega) h)
      have H1 := Lib.hid (fun h => rest_1 (a := a) (b := b) (c := c) (show 0 < d by omega) h)
      have HT := Lib.hid (fun h => turned (a := a) (b := b) (c := c) (d := d) h)
      have hr := Nat.mod_lt a (show 0 < b by omega)
      have hr2 := Nat.mod_lt c (show 0 < d by omega)
      have zx : a / b ≤ 9223372036854775807 := Nat.le_trans (Nat.div_le_self a b) z1
      have zy : c / d ≤ 9223372036854775807 := Nat.le_trans (Nat.div_le_self c d) z3
      obtain ⟨x, hx⟩ : ∃ x, a / b = x := ⟨_, rfl⟩
      obtain ⟨y, hy⟩ : ∃ x, c / d = x := ⟨_, rfl⟩
      obtain ⟨r, hrr⟩ : ∃ x, a % b = x := ⟨_, rfl⟩
      obtain ⟨q, hqq⟩ : ∃ x, c % d = x := ⟨_, rfl⟩
      rw [hx] at dv1 dv2 HLT HGT H00 H0 H1 HT zx
      rw [hy] at dv3 dv4 HLT HGT H00 H0 H1 HT zy
      rw [hrr] at md1 md2 H00 H0 H1 HT hr
      rw [hqq] at md3 md4 H00 H0 H1 HT hr2
      clear hx hy hrr hqq
      go_wp2_with fail
      go_quiet (fail)
      revert nq
      intro n1
      rcases Nat.lt_trichotomy x y with hxy | hxy | hxy
      · have HE := Lib.hid (HLT.out hxy)
        have HI2 : Hid (s * -1 = V) := Lib.hid (by rw [← HE.out, HI.out])
        have t1 : decide ((x : Int) < (y : Int)) = true := decide_eq_true (by omega)
        have t1n : decide (x < y) = true := decide_eq_true hxy
        rcases hs with rfl | rfl
        all_goals
          go_wp2_with fail
          go_ret
          exact ⟨ret_int (by have := HI2.out; omega), below_drewN hB1.out _⟩
      · subst hxy
        replace H00 := Lib.hid (H00.out rfl)
        replace H0 := Lib.hid (H0.out rfl)
        replace H1 := Lib.hid (H1.out rfl)
        replace HT := Lib.hid (HT.out rfl)
        have t1 : decide ((x : Int) < (x : Int)) = false := decide_eq_false (by omega)
        rcases hs with rfl | rfl
        all_goals
          go_wp2_with fail
          go_quiet (fail)
          rcases Nat.eq_zero_or_pos r with hr0 | hr0
          · rcases Nat.eq_zero_or_pos q with hq0 | hq0
            · have HE := Lib.hid (H00.out hr0 hq0)
              have HI2 := Lib.hid (HI.out)
              rw [HE.out] at HI2
              subst hr0 hq0
              go_wp2_with fail
              go_ret
              exact ⟨ret_int (by have := HI2.out; omega), below_drewN hB1.out _⟩
            · have HE := Lib.hid (H0.out hr0 hq0)
              have HI2 := Lib.hid (HI.out)
              rw [HE.out] at HI2
              have t2 : ((q : Int) == 0) = false := by simp; omega
              subst hr0
              go_wp2_with fail
              go_ret
              exact ⟨ret_int (by have := HI2.out; omega), below_drewN hB1.out _⟩
          · have t3 : ((r : Int) == 0) = false := by simp; omega
            rcases Nat.eq_zero_or_pos q with hq0 | hq0
            · have HE := Lib.hid (H1.out hr0 hq0)
              have HI2 := Lib.hid (HI.out)
              rw [HE.out] at HI2
              subst hq0
              go_wp2_with fail
              go_ret
              exact ⟨ret_int (by have := HI2.out; omega), below_drewN hB1.out _⟩
            · have HE := HT
              have HI2 := Lib.hid (HI.out)
              rw [HE.out] at HI2
              have t2 : ((q : Int) == 0) = false := by simp; omega
              go_wp2_with fail
              clear a0 a1 c0 c1
              have hB3 := Lib.hid (below_drewN hB1.out (n1 + nq))
              have hA3 := hA1.drewN (n1 + nq)
              have hC3 := hC1.drewN (n1 + nq)
              clear hA1 hB1 hC1
              generalize wr.drewN (n1 + nq) = W at *
              have a0 := hA3.cell 0; have a1 := hA3.cell 1; have c0 := hC3.cell 0; have c1 := hC3.cell 1
              simp only [List.getElem?_toArray, List.getElem?_cons_zero, List.getElem?_cons_succ] at a0 a1 c0 c1
              have fa := hA3.frozen 0; have fb := hA3.frozen 1; have fc := hC3.frozen 0; have fd := hC3.frozen 1
              have hnf : ¬ w.heap.size + 1 = w.heap.size := by omega
              have hng : ¬ w.heap.size = w.heap.size + 1 := by omega
              go_region
              go_wp2_with fail
              have hA9 : Blk (((((W.drew.setCell ⟨w.heap.size, 0, none⟩ (.int .i64 (b : Int))).setCell ⟨w.heap.size, 1, none⟩ (.int .i64 (r : Int))).setCell ⟨w.heap.size + 1, 0, none⟩ (.int .i64 (d : Int))).setCell ⟨w.heap.size + 1, 1, none⟩ (.int .i64 (q : Int)))) w.heap.size 25 #[.int .i64 (b : Int), .int .i64 (r : Int)] := (((hA3.drew.set_ 0 _).set_ 1 _).far hne _).far hne _
              have hC9 : Blk (((((W.drew.setCell ⟨w.heap.size, 0, none⟩ (.int .i64 (b : Int))).setCell ⟨w.heap.size, 1, none⟩ (.int .i64 (r : Int))).setCell ⟨w.heap.size + 1, 0, none⟩ (.int .i64 (d : Int))).setCell ⟨w.heap.size + 1, 1, none⟩ (.int .i64 (q : Int)))) (w.heap.size + 1) 25 #[.int .i64 (d : Int), .int .i64 (q : Int)] := (((hC3.drew.far (Ne.symm hne) _).far (Ne.symm hne) _).set_ 0 _).set_ 1 _
              have hB9 : Below w.heap.size w (((((W.drew.setCell ⟨w.heap.size, 0, none⟩ (.int .i64 (b : Int))).setCell ⟨w.heap.size, 1, none⟩ (.int .i64 (r : Int))).setCell ⟨w.heap.size + 1, 0, none⟩ (.int .i64 (d : Int))).setCell ⟨w.heap.size + 1, 1, none⟩ (.int .i64 (q : Int)))) := ((((below_drewN hB3.out 1).setCell (Nat.le_refl _) _).setCell (Nat.le_refl _) _).setCell (Nat.le_succ _) _).setCell (Nat.le_succ _) _
              go_round
              case rel => exact ⟨_, b, r, d, q, by first | exact .inl rfl | exact .inr rfl, rfl, ⟨by omega, by omega⟩, ⟨by omega, by omega, by omega, by omega⟩, hB9, hA9, hC9, Lib.hid (by have := HI2.out; omega)⟩
              case measure => exact meas_lt HMM.out hA9 hr
      · have HE := Lib.hid (HGT.out hxy)
        have HI2 : Hid (s * 1 = V) := Lib.hid (by rw [← HE.out, HI.out])
        have t1 : decide ((x : Int) < (y : Int)) = false := decide_eq_false (by omega)
        have t2 : decide ((y : Int) < (x : Int)) = true := decide_eq_true (by omega)
        have t1n : decide (x < y) = false := decide_eq_false (by omega)
        have t2n : decide (y < x) = true := decide_eq_true (by omega)
        rcases hs with rfl | rfl
        all_goals
          go_wp2_with fail
          go_ret
          exact ⟨ret_int (by have := HI2.out; omega), below_drewN hB1.out _⟩
  · rw [q0] at HA
    rw [q1] at HC
    obtain ⟨rfl, rfl⟩ := Y0 q0
    obtain ⟨rfl, rfl⟩ := X1 q1
    clear X0 X1 Y0 Y1 q0 q1
    go_enter Tryd.func24, Tryd.ntmps24
    go_wp2_with fail
    refine (HA.out _).mono ?_
    rintro e w1 ⟨rfl, hb1⟩
    have hB1 := hB0.trans (hb1.mono hB0.size)
    have hA1 := hA0.below hb1 hA0.lt
    have hC1 := hC0.below hb1 hC0.lt
    clear a0 a1 c0 c1 hB0 hA0 hC0 hb1
    have a0 := hA1.cell 0; have a1 := hA1.cell 1; have c0 := hC1.cell 0; have c1 := hC1.cell 1
    simp only [List.getElem?_toArray, List.getElem?_cons_zero, List.getElem?_cons_succ] at a0 a1 c0 c1
    go_wp2_with ((refine stop_store 25 _ _ rfl ?_; refine wpList_store_blk rfl 25 _ _ rfl #[.int .i64 ((0 : Nat) : Int), .int .i64 ((1 : Nat) : Int)] rfl rfl hA1 (by kernel_rfl) rfl rfl ?_; intro w2 hA2 hk2 hb2); have hC2 := hk2 _ _ _ (Ne.symm hne) hC1; have hB2 := hb2 _ _ hB1 (Nat.le_refl _); clear hk2 hb2 a0 a1 c0 c1 hA1 hB1 hC1; have a0 := hA2.cell 0; have a1 := hA2.cell 1; have c0 := hC2.cell 0; have c1 := hC2.cell 1; simp only [List.getElem?_toArray, List.getElem?_cons_zero, List.getElem?_cons_succ] at a0 a1 c0 c1)
    go_wp2_with fail
    refine (HC.out _).mono ?_
    rintro e w9 ⟨rfl, hb9⟩
    have hB9 := hB2.trans (hb9.mono hB2.size)
    have hA9 := hA2.below hb9 hA2.lt
    have hC9 := hC2.below hb9 hC2.lt
    clear a0 a1 c0 c1 hB2 hA2 hC2 hb9
    have a0 := hA9.cell 0; have a1 := hA9.cell 1; have c0 := hC9.cell 0; have c1 := hC9.cell 1
    simp only [List.getElem?_toArray, List.getElem?_cons_zero, List.getElem?_cons_succ] at a0 a1 c0 c1
    go_wp2_with fail
    go_loopw [5] (fun sg wr => ∃ (s : Int) (a b c d : Nat), (s = 1 ∨ s = -1) ∧ sg = .int .i64 s ∧ (1 ≤ b ∧ 1 ≤ d) ∧ (a ≤ 9223372036854775807 ∧ b ≤ 9223372036854775807 ∧ c ≤ 9223372036854775807 ∧ d ≤ 9223372036854775807) ∧ Below w.heap.size w wr ∧ Blk wr w.heap.size 25 #[.int .i64 (a : Int), .int .i64 (b : Int)] ∧ Blk wr (w.heap.size + 1) 25 #[.int .i64 (c : Int), .int .i64 (d : Int)] ∧ Hid (s * cmpN a b c d = V)) (fun sg wr => (intOf ((wr.cell? ⟨w.heap.size, 1, none⟩).getD .nilFunc)).toNat)
    case atStart => exact ⟨1, _, _, _, _, .inl rfl, rfl, hBD, hbd, hB9, hA9, hC9, Lib.hid (by rw [Int.one_mul, EV.out])⟩
    case round =>
      obtain ⟨s, a, b, c, d, hs, rfl, ⟨hb1, hd1⟩, ⟨z1, z2, z3, z4⟩, hBw, hAw, hCw, HI⟩ := hrel
      clear hBD hbd EV hB9 hA9 hC9 a0 a1 c0 c1
      have hB1 := Lib.hid hBw
      have HMM := Lib.hid hAw
      have hA1 := hAw
      have hC1 := hCw
      have a0 := hA1.cell 0; have a1 := hA1.cell 1; have c0 := hC1.cell 0; have c1 := hC1.cell 1
      simp only [List.getElem?_toArray, List.getElem?_cons_zero, List.getElem?_cons_succ] at a0 a1 c0 c1
      have dv1 : (a : Int) / (b : Int) = ((a / b : Nat) : Int) := by rw [Int.natCast_ediv]
      have dv2 : Int.tdiv (a : Int) (b : Int) = ((a / b : Nat) : Int) := by rw [Int.tdiv_eq_ediv_of_nonneg (by omega), dv1]
      have dv3 : (c : Int) / (d : Int) = ((c / d : Nat) : Int) := by rw [Int.natCast_ediv]
      have dv4 : Int.tdiv (c : Int) (d : Int) = ((c / d : Nat) : Int) := by rw [Int.tdiv_eq_ediv_of_nonneg (by omega), dv3]
      have md1 : (a : Int) % (b : Int) = ((a % b : Nat) : Int) := by rw [Int.natCast_emod]
      have md2 : Int.tmod (a : Int) (b : Int) = ((a % b : Nat) : Int) := by rw [Int.tmod_eq_emod_of_nonneg (by omega), md1]
      have md3 : (c : Int) % (d : Int) = ((c % d : Nat) : Int) := by rw [Int.natCast_emod]
      have md4 : Int.tmod (c : Int) (d : Int) = ((c % d : Nat) : Int) := by rw [Int.tmod_eq_emod_of_nonneg (by omega), md3]
      have nz1 : ((b : Int) == 0) = false := by simp; omega
      have nz2 : ((d : Int) == 0) = false := by simp; omega
      have HLT := Lib.hid (fun h => whole_lt (a := a) (c := c) (show 0 < b by omega) (show 0 < d by omega) h)
      have HGT := Lib.hid (fun h => whole_gt (a := a) (c := c) (show 0 < b by omega) (show 0 < d by omega) h)
      have H00 := Lib.hid (fun h => rest_00 (a := a) (b := b) (c := c) (d := d) h)
      have H0 := Lib.hid (fun h => rest_0 (a := a) (c := c) (d := d) (show 0 < b by omega) h)
      have H1 := Lib.hid (fun h => rest_1 (a := a) (b := b) (c := c) (show 0 < d by omega) h)
      have HT := Lib.hid (fun h => turned (a := a) (b := b) (c := c) (d := d) h)
      have hr := Nat.mod_lt a (show 0 < b by omega)
      have hr2 := Nat.mod_lt c (show 0 < d by omega)
      have zx : a / b ≤ 9223372036854775807 := Nat.le_trans (Nat.div_le_self a b) z1
      have zy : c / d ≤ 9223372036854775807 := Nat.le_trans (Nat.div_le_self c d) z3
      obtain ⟨x, hx⟩ : ∃ x, a / b = x := ⟨_, rfl⟩
      obtain ⟨y, hy⟩ : ∃ x, c / d = x := ⟨_, rfl⟩
      obtain ⟨r, hrr⟩ : ∃ x, a % b = x := ⟨_, rfl⟩
      obtain ⟨q, hqq⟩ : ∃ x, c % d = x := ⟨_, rfl⟩
      rw [hx] at dv1 dv2 HLT HGT H00 H0 H1 HT zx
      rw [hy] at dv3 dv4 HLT HGT H00 H0 H1 HT zy
      rw [hrr] at md1 md2 H00 H0 H1 HT hr
      rw [hqq] at md3 md4 H00 H0 H1 HT hr2
      clear hx hy hrr hqq
      go_wp2_with fail
      go_quiet (fail)
      revert nq
      intro n1
      rcases Nat.lt_trichotomy x y with hxy | hxy | hxy
      · have HE := Lib.hid (HLT.out hxy)
        have HI2 : Hid (s * -1 = V) := Lib.hid (by rw [← HE.out, HI.out])
        have t1 : decide ((x : Int) < (y : Int)) = true := decide_eq_true (by omega)
        have t1n : decide (x < y) = true := decide_eq_true hxy
        rcases hs with rfl | rfl
        all_goals
          go_wp2_with fail
          go_ret
          exact ⟨ret_int (by have := HI2.out; omega), below_drewN hB1.out _⟩
      · subst hxy
        replace H00 := Lib.hid (H00.out rfl)
        replace H0 := Lib.hid (H0.out rfl)
        replace H1 := Lib.hid (H1.out rfl)
        replace HT := Lib.hid (HT.out rfl)
        have t1 : decide ((x : Int) < (x : Int)) = false := decide_eq_false (by omega)
        rcases hs with rfl | rfl
        all_goals
          go_wp2_with fail
          go_quiet (fail)
          rcases Nat.eq_zero_or_pos r with hr0 | hr0
          · rcases Nat.eq_zero_or_pos q with hq0 | hq0
            · have HE := Lib.hid (H00.out hr0 hq0)
              have HI2 := Lib.hid (HI.out)
              rw [HE.out] at HI2
              subst hr0 hq0
              go_wp2_with fail
              go_ret
              exact ⟨ret_int (by have := HI2.out; omega), below_drewN hB1.out _⟩
            · have HE := Lib.hid (H0.out hr0 hq0)
              have HI2 := Lib.hid (HI.out)
              rw [HE.out] at HI2
              have t2 : ((q : Int) == 0) = false := by simp; omega
              subst hr0
              go_wp2_with fail
              go_ret
              exact ⟨ret_int (by have := HI2.out; omega), below_drewN hB1.out _⟩
          · have t3 : ((r : Int) == 0) = false := by simp; omega
            rcases Nat.eq_zero_or_pos q with hq0 | hq0
            · have HE := Lib.hid (H1.out hr0 hq0)
              have HI2 := Lib.hid (HI.out)
              rw [HE.out] at HI2
              subst hq0
              go_wp2_with fail
              go_ret
              exact ⟨ret_int (by have := HI2.out; omega), below_drewN hB1.out _⟩
            · have HE := HT
              have HI2 := Lib.hid (HI.out)
              rw [HE.out] at HI2
              have t2 : ((q : Int) == 0) = false := by simp; omega
              go_wp2_with fail
              clear a0 a1 c0 c1
              have hB3 := Lib.hid (below_drewN hB1.out (n1 + nq))
              have hA3 := hA1.drewN (n1 + nq)
              have hC3 := hC1.drewN (n1 + nq)
              clear hA1 hB1 hC1
              generalize wr.drewN (n1 + nq) = W at *
              have a0 := hA3.cell 0; have a1 := hA3.cell 1; have c0 := hC3.cell 0; have c1 := hC3.cell 1
              simp only [List.getElem?_toArray, List.getElem?_cons_zero, List.getElem?_cons_succ] at a0 a1 c0 c1
              have fa := hA3.frozen 0; have fb := hA3.frozen 1; have fc := hC3.frozen 0; have fd := hC3.frozen 1
              have hnf : ¬ w.heap.size + 1 = w.heap.size := by omega
              have hng : ¬ w.heap.size = w.heap.size + 1 := by omega
              go_region
              go_wp2_with fail
              have hA9 : Blk (((((W.drew.setCell ⟨w.heap.size, 0, none⟩ (.int .i64 (b : Int))).setCell ⟨w.heap.size, 1, none⟩ (.int .i64 (r : Int))).setCell ⟨w.heap.size + 1, 0, none⟩ (.int .i64 (d : Int))).setCell ⟨w.heap.size + 1, 1, none⟩ (.int .i64 (q : Int)))) w.heap.size 25 #[.int .i64 (b : Int), .int .i64 (r : Int)] := (((hA3.drew.set_ 0 _).set_ 1 _).far hne _).far hne _
              have hC9 : Blk (((((W.drew.setCell ⟨w.heap.size, 0, none⟩ (.int .i64 (b : Int))).setCell ⟨w.heap.size, 1, none⟩ (.int .i64 (r : Int))).setCell ⟨w.heap.size + 1, 0, none⟩ (.int .i64 (d : Int))).setCell ⟨w.heap.size + 1, 1, none⟩ (.int .i64 (q : Int)))) (w.heap.size + 1) 25 #[.int .i64 (d : Int), .int .i64 (q : Int)] := (((hC3.drew.far (Ne.symm hne) _).far (Ne.symm hne) _).set_ 0 _).set_ 1 _
              have hB9 : Below w.heap.size w (((((W.drew.setCell ⟨w.heap.size, 0, none⟩ (.int .i64 (b : Int))).setCell ⟨w.heap.size, 1, none⟩ (.int .i64 (r : Int))).setCell ⟨w.heap.size + 1, 0, none⟩ (.int .i64 (d : Int))).setCell ⟨w.heap.size + 1, 1, none⟩ (.int .i64 (q : Int)))) := ((((below_drewN hB3.out 1).setCell (Nat.le_refl _) _).setCell (Nat.le_refl _) _).setCell (Nat.le_succ _) _).setCell (Nat.le_succ _) _
              go_round
              case rel => exact ⟨_, b, r, d, q, by first | exact .inl rfl | exact .inr rfl, rfl, ⟨by omega, by omega⟩, ⟨by omega, by omega, by omega, by omega⟩, hB9, hA9, hC9, Lib.hid (by have := HI2.out; omega)⟩
              case measure => exact meas_lt HMM.out hA9 hr
      · have HE := Lib.hid (HGT.out hxy)
        have HI2 : Hid (s * 1 = V) := Lib.hid (by rw [← HE.out, HI.out])
        have t1 : decide ((x : Int) < (y : Int)) = false := decide_eq_false (by omega)
        have t2 : decide ((y : Int) < (x : Int)) = true := decide_eq_true (by omega)
        have t1n : decide (x < y) = false := decide_eq_false (by omega)
        have t2n : decide (y < x) = true := decide_eq_true (by omega)
        rcases hs with rfl | rfl
        all_goals
          go_wp2_with fail
          go_ret
          exact ⟨ret_int (by have := HI2.out; omega), below_drewN hB1.out _⟩
  · rw [q0] at HA
    rw [q1] at HC
    obtain ⟨rfl, rfl⟩ := X0 q0
    obtain ⟨rfl, rfl⟩ := Y1 q1
    clear X0 X1 Y0 Y1 q0 q1
    go_enter Tryd.func24, Tryd.ntmps24
    go_wp2_with fail
    refine (HA.out _).mono ?_
    rintro e w1 ⟨rfl, hb1⟩
    have hB1 := hB0.trans (hb1.mono hB0.size)
    have hA1 := hA0.below hb1 hA0.lt
    have hC1 := hC0.below hb1 hC0.lt
    clear a0 a1 c0 c1 hB0 hA0 hC0 hb1
    have a0 := hA1.cell 0; have a1 := hA1.cell 1; have c0 := hC1.cell 0; have c1 := hC1.cell 1
    simp only [List.getElem?_toArray, List.getElem?_cons_zero, List.getElem?_cons_succ] at a0 a1 c0 c1
    go_wp2_with fail
    refine (HC.out _).mono ?_
    rintro e w3 ⟨rfl, hb3⟩
    have hB3 := hB1.trans (hb3.mono hB1.size)
    have hA3 := hA1.below hb3 hA1.lt
    have hC3 := hC1.below hb3 hC1.lt
    clear a0 a1 c0 c1 hB1 hA1 hC1 hb3
    have a0 := hA3.cell 0; have a1 := hA3.cell 1; have c0 := hC3.cell 0; have c1 := hC3.cell 1
    simp only [List.getElem?_toArray, List.getElem?_cons_zero, List.getElem?_cons_succ] at a0 a1 c0 c1
    go_wp2_with ((refine stop_store 25 _ _ rfl ?_; refine wpList_store_blk rfl 25 _ _ rfl #[.int .i64 ((0 : Nat) : Int), .int .i64 ((1 : Nat) : Int)] rfl rfl hC3 (by kernel_rfl) rfl rfl ?_; intro w9 hC9 hk9 hb9); have hA9 := hk9 _ _ _ hne hA3; have hB9 := hb9 _ _ hB3 (Nat.le_succ _); clear hk9 hb9 a0 a1 c0 c1 hA3 hB3 hC3; have a0 := hA9.cell 0; have a1 := hA9.cell 1; have c0 := hC9.cell 0; have c1 := hC9.cell 1; simp only [List.getElem?_toArray, List.getElem?_cons_zero, List.getElem?_cons_succ] at a0 a1 c0 c1)
    go_wp2_with fail
    go_loopw [5] (fun sg wr => ∃ (s : Int) (a b c d : Nat), (s = 1 ∨ s = -1) ∧ sg = .int .i64 s ∧ (1 ≤ b ∧ 1 ≤ d) ∧ (a ≤ 9223372036854775807 ∧ b ≤ 9223372036854775807 ∧ c ≤ 9223372036854775807 ∧ d ≤ 9223372036854775807) ∧ Below w.heap.size w wr ∧ Blk wr w.heap.size 25 #[.int .i64 (a : Int), .int .i64 (b : Int)] ∧ Blk wr (w.heap.size + 1) 25 #[.int .i64 (c : Int), .int .i64 (d : Int)] ∧ Hid (s * cmpN a b c d = V)) (fun sg wr => (intOf ((wr.cell? ⟨w.heap.size, 1, none⟩).getD .nilFunc)).toNat)
    case atStart => exact ⟨1, _, _, _, _, .inl rfl, rfl, hBD, hbd, hB9, hA9, hC9, Lib.hid (by rw [Int.one_mul, EV.out])⟩
    case round =>
      obtain ⟨s, a, b, c, d, hs, rfl, ⟨hb1, hd1⟩, ⟨z1, z2, z3, z4⟩, hBw, hAw, hCw, HI⟩ := hrel
      clear hBD hbd EV hB9 hA9 hC9 a0 a1 c0 c1
      have hB1 := Lib.hid hBw
      have HMM := Lib.hid hAw
      have hA1 := hAw
      have hC1 := hCw
      have a0 := hA1.cell 0; have a1 := hA1.cell 1; have c0 := hC1.cell 0; have c1 := hC1.cell 1
      simp only [List.getElem?_toArray, List.getElem?_cons_zero, List.getElem?_cons_succ] at a0 a1 c0 c1
      have dv1 : (a : Int) / (b : Int) = ((a / b : Nat) : Int) := by rw [Int.natCast_ediv]
      have dv2 : Int.tdiv (a : Int) (b : Int) = ((a / b : Nat) : Int) := by rw [Int.tdiv_eq_ediv_of_nonneg (by omega), dv1]
      have dv3 : (c : Int) / (d : Int) = ((c / d : Nat) : Int) := by rw [Int.natCast_ediv]
      have dv4 : Int.tdiv (c : Int) (d : Int) = ((c / d : Nat) : Int) := by rw [Int.tdiv_eq_ediv_of_nonneg (by omega), dv3]
      have md1 : (a : Int) % (b : Int) = ((a % b : Nat) : Int) := by rw [Int.natCast_emod]
      have md2 : Int.tmod (a : Int) (b : Int) = ((a % b : Nat) : Int) := by rw [Int.tmod_eq_emod_of_nonneg (by omega), md1]
      have md3 : (c : Int) % (d : Int) = ((c % d : Nat) : Int) := by rw [Int.natCast_emod]
      have md4 : Int.tmod (c : Int) (d : Int) = ((c % d : Nat) : Int) := by rw [Int.tmod_eq_emod_of_nonneg (by omega), md3]
      have nz1 : ((b : Int) == 0) = false := by simp; omega
      have nz2 : ((d : Int) == 0) = false := by simp; omega
      have HLT := Lib.hid (fun h => whole_lt (a := a) (c := c) (show 0 < b by omega) (show 0 < d by omega) h)
      have HGT := Lib.hid (fun h => whole_gt (a := a) (c := c) (show 0 < b by omega) (show 0 < d by omega) h)
      have H00 := Lib.hid (fun h => rest_00 (a := a) (b := b) (c := c) (d := d) h)
      have H0 := Lib.hid (fun h => rest_0 (a := a) (c := c) (d := d) (show 0 < b by omega) h)
      have H1 := Lib.hid (fun h => rest_1 (a := a) (b := b) (c := c) (show 0 < d by omega) h)
      have HT := Lib.hid (fun h => turned (a := a) (b := b) (c := c) (d := d) h)
      have hr := Nat.mod_lt a (show 0 < b by omega)
      have hr2 := Nat.mod_lt c (show 0 < d by omega)
      have zx : a / b ≤ 9223372036854775807 := Nat.le_trans (Nat.div_le_self a b) z1
      have zy : c / d ≤ 9223372036854775807 := Nat.le_trans (Nat.div_le_self c d) z3
      obtain ⟨x, hx⟩ : ∃ x, a / b = x := ⟨_, rfl⟩
      obtain ⟨y, hy⟩ : ∃ x, c / d = x := ⟨_, rfl⟩
      obtain ⟨r, hrr⟩ : ∃ x, a % b = x := ⟨_, rfl⟩
      obtain ⟨q, hqq⟩ : ∃ x, c % d = x := ⟨_, rfl⟩
      rw [hx] at dv1 dv2 HLT HGT H00 H0 H1 HT zx
      rw [hy] at dv3 dv4 HLT HGT H00 H0 H1 HT zy
      rw [hrr] at md1 md2 H00 H0 H1 HT hr
      rw [hqq] at md3 md4 H00 H0 H1 HT hr2
      clear hx hy hrr hqq
      go_wp2_with fail
      go_quiet (fail)
      revert nq
      intro n1
      rcases Nat.lt_trichotomy x y with hxy | hxy | hxy
      · have HE := Lib.hid (HLT.out hxy)
        have HI2 : Hid (s * -1 = V) := Lib.hid (by rw [← HE.out, HI.out])
        have t1 : decide ((x : Int) < (y : Int)) = true := decide_eq_true (by omega)
        have t1n : decide (x < y) = true := decide_eq_true hxy
        rcases hs with rfl | rfl
        all_goals
          go_wp2_with fail
          go_ret
          exact ⟨ret_int (by have := HI2.out; omega), below_drewN hB1.out _⟩
      · subst hxy
        replace H00 := Lib.hid (H00.out rfl)
        replace H0 := Lib.hid (H0.out rfl)
        replace H1 := Lib.hid (H1.out rfl)
        replace HT := Lib.hid (HT.out rfl)
        have t1 : decide ((x : Int) < (x : Int)) = false := decide_eq_false (by omega)
        rcases hs with rfl | rfl
        all_goals
          go_wp2_with fail
          go_quiet (fail)
          rcases Nat.eq_zero_or_pos r with hr0 | hr0
          · rcases Nat.eq_zero_or_pos q with hq0 | hq0
            · have HE := Lib.hid (H00.out hr0 hq0)
              have HI2 := Lib.hid (HI.out)
              rw [HE.out] at HI2
              subst hr0 hq0
              go_wp2_with fail
              go_ret
              exact ⟨ret_int (by have := HI2.out; omega), below_drewN hB1.out _⟩
            · have HE := Lib.hid (H0.out hr0 hq0)
              have HI2 := Lib.hid (HI.out)
              rw [HE.out] at HI2
              have t2 : ((q : Int) == 0) = false := by simp; omega
              subst hr0
              go_wp2_with fail
              go_ret
              exact ⟨ret_int (by have := HI2.out; omega), below_drewN hB1.out _⟩
          · have t3 : ((r : Int) == 0) = false := by simp; omega
            rcases Nat.eq_zero_or_pos q with hq0 | hq0
            · have HE := Lib.hid (H1.out hr0 hq0)
              have HI2 := Lib.hid (HI.out)
              rw [HE.out] at HI2
              subst hq0
              go_wp2_with fail
              go_ret
              exact ⟨ret_int (by have := HI2.out; omega), below_drewN hB1.out _⟩
            · have HE := HT
              have HI2 := Lib.hid (HI.out)
              rw [HE.out] at HI2
              have t2 : ((q : Int) == 0) = false := by simp; omega
              go_wp2_with fail
              clear a0 a1 c0 c1
              have hB3 := Lib.hid (below_drewN hB1.out (n1 + nq))
              have hA3 := hA1.drewN (n1 + nq)
              have hC3 := hC1.drewN (n1 + nq)
              clear hA1 hB1 hC1
              generalize wr.drewN (n1 + nq) = W at *
              have a0 := hA3.cell 0; have a1 := hA3.cell 1; have c0 := hC3.cell 0; have c1 := hC3.cell 1
              simp only [List.getElem?_toArray, List.getElem?_cons_zero, List.getElem?_cons_succ] at a0 a1 c0 c1
              have fa := hA3.frozen 0; have fb := hA3.frozen 1; have fc := hC3.frozen 0; have fd := hC3.frozen 1
              have hnf : ¬ w.heap.size + 1 = w.heap.size := by omega
              have hng : ¬ w.heap.size = w.heap.size + 1 := by omega
              go_region
              go_wp2_with fail
              have hA9 : Blk (((((W.drew.setCell ⟨w.heap.size, 0, none⟩ (.int .i64 (b : Int))).setCell ⟨w.heap.size, 1, none⟩ (.int .i64 (r : Int))).setCell ⟨w.heap.size + 1, 0, none⟩ (.int .i64 (d : Int))).setCell ⟨w.heap.size + 1, 1, none⟩ (.int .i64 (q : Int)))) w.heap.size 25 #[.int .i64 (b : Int), .int .i64 (r : Int)] := (((hA3.drew.set_ 0 _).set_ 1 _).far hne _).far hne _
              have hC9 : Blk (((((W.drew.setCell ⟨w.heap.size, 0, none⟩ (.int .i64 (b : Int))).setCell ⟨w.heap.size, 1, none⟩ (.int .i64 (r : Int))).setCell ⟨w.heap.size + 1, 0, none⟩ (.int .i64 (d : Int))).setCell ⟨w.heap.size + 1, 1, none⟩ (.int .i64 (q : Int)))) (w.heap.size + 1) 25 #[.int .i64 (d : Int), .int .i64 (q : Int)] := (((hC3.drew.far (Ne.symm hne) _).far (Ne.symm hne) _).set_ 0 _).set_ 1 _
              have hB9 : Below w.heap.size w (((((W.drew.setCell ⟨w.heap.size, 0, none⟩ (.int .i64 (b : Int))).setCell ⟨w.heap.size, 1, none⟩ (.int .i64 (r : Int))).setCell ⟨w.heap.size + 1, 0, none⟩ (.int .i64 (d : Int))).setCell ⟨w.heap.size + 1, 1, none⟩ (.int .i64 (q : Int)))) := ((((below_drewN hB3.out 1).setCell (Nat.le_refl _) _).setCell (Nat.le_refl _) _).setCell (Nat.le_succ _) _).setCell (Nat.le_succ _) _
              go_round
              case rel => exact ⟨_, b, r, d, q, by first | exact .inl rfl | exact .inr rfl, rfl, ⟨by omega, by omega⟩, ⟨by omega, by omega, by omega, by omega⟩, hB9, hA9, hC9, Lib.hid (by have := HI2.out; omega)⟩
              case measure => exact meas_lt HMM.out hA9 hr
      · have HE := Lib.hid (HGT.out hxy)
        have HI2 : Hid (s * 1 = V) := Lib.hid (by rw [← HE.out, HI.out])
        have t1 : decide ((x : Int) < (y : Int)) = false := decide_eq_false (by omega)
        have t2 : decide ((y : Int) < (x : Int)) = true := decide_eq_true (by omega)
        have t1n : decide (x < y) = false := decide_eq_false (by omega)
        have t2n : decide (y < x) = true := decide_eq_true (by omega)
        rcases hs with rfl | rfl
        all_goals
          go_wp2_with fail
          go_ret
          exact ⟨ret_int (by have := HI2.out; omega), below_drewN hB1.out _⟩
  · rw [q0] at HA
    rw [q1] at HC
    obtain ⟨rfl, rfl⟩ := X0 q0
    obtain ⟨rfl, rfl⟩ := X1 q1
    clear X0 X1 Y0 Y1 q0 q1
    go_enter Tryd.func24, Tryd.ntmps24
    go_wp2_with fail
    refine (HA.out _).mono ?_
    rintro e w1 ⟨rfl, hb1⟩
    have hB1 := hB0.trans (hb1.mono hB0.size)
    have hA1 := hA0.below hb1 hA0.lt
    have hC1 := hC0.below hb1 hC0.lt
    clear a0 a1 c0 c1 hB0 hA0 hC0 hb1
    have a0 := hA1.cell 0; have a1 := hA1.cell 1; have c0 := hC1.cell 0; have c1 := hC1.cell 1
    simp only [List.getElem?_toArray, List.getElem?_cons_zero, List.getElem?_cons_succ] at a0 a1 c0 c1
    go_wp2_with fail
    refine (HC.out _).mono ?_
    rintro e w9 ⟨rfl, hb9⟩
    have hB9 := hB1.trans (hb9.mono hB1.size)
    have hA9 := hA1.below hb9 hA1.lt
    have hC9 := hC1.below hb9 hC1.lt
    clear a0 a1 c0 c1 hB1 hA1 hC1 hb9
    have a0 := hA9.cell 0; have a1 := hA9.cell 1; have c0 := hC9.cell 0; have c1 := hC9.cell 1
    simp only [List.getElem?_toArray, List.getElem?_cons_zero, List.getElem?_cons_succ] at a0 a1 c0 c1
    go_wp2_with fail
    go_loopw [5] (fun sg wr => ∃ (s : Int) (a b c d : Nat), (s = 1 ∨ s = -1) ∧ sg = .int .i64 s ∧ (1 ≤ b ∧ 1 ≤ d) ∧ (a ≤ 9223372036854775807 ∧ b ≤ 9223372036854775807 ∧ c ≤ 9223372036854775807 ∧ d ≤ 9223372036854775807) ∧ Below w.heap.size w wr ∧ Blk wr w.heap.size 25 #[.int .i64 (a : Int), .int .i64 (b : Int)] ∧ Blk wr (w.heap.size + 1) 25 #[.int .i64 (c : Int), .int .i64 (d : Int)] ∧ Hid (s * cmpN a b c d = V)) (fun sg wr => (intOf ((wr.cell? ⟨w.heap.size, 1, none⟩).getD .nilFunc)).toNat)
    case atStart => exact ⟨1, _, _, _, _, .inl rfl, rfl, hBD, hbd, hB9, hA9, hC9, Lib.hid (by rw [Int.one_mul, EV.out])⟩
    case round =>
      obtain ⟨s, a, b, c, d, hs, rfl, ⟨hb1, hd1⟩, ⟨z1, z2, z3, z4⟩, hBw, hAw, hCw, HI⟩ := hrel
      clear hBD hbd EV hB9 hA9 hC9 a0 a1 c0 c1
      have hB1 := Lib.hid hBw
      have HMM := Lib.hid hAw
      have hA1 := hAw
      have hC1 := hCw
      have a0 := hA1.cell 0; have a1 := hA1.cell 1; have c0 := hC1.cell 0; have c1 := hC1.cell 1
      simp only [List.getElem?_toArray, List.getElem?_cons_zero, List.getElem?_cons_succ] at a0 a1 c0 c1
      have dv1 : (a : Int) / (b : Int) = ((a / b : Nat) : Int) := by rw [Int.natCast_ediv]
      have dv2 : Int.tdiv (a : Int) (b : Int) = ((a / b : Nat) : Int) := by rw [Int.tdiv_eq_ediv_of_nonneg (by omega), dv1]
      have dv3 : (c : Int) / (d : Int) = ((c / d : Nat) : Int) := by rw [Int.natCast_ediv]
      have dv4 : Int.tdiv (c : Int) (d : Int) = ((c / d : Nat) : Int) := by rw [Int.tdiv_eq_ediv_of_nonneg (by omega), dv3]
      have md1 : (a : Int) % (b : Int) = ((a % b : Nat) : Int) := by rw [Int.natCast_emod]
      have md2 : Int.tmod (a : Int) (b : Int) = ((a % b : Nat) : Int) := by rw [Int.tmod_eq_emod_of_nonneg (by omega), md1]
      have md3 : (c : Int) % (d : Int) = ((c % d : Nat) : Int) := by rw [Int.natCast_emod]
      have md4 : Int.tmod (c : Int) (d : Int) = ((c % d : Nat) : Int) := by rw [Int.tmod_eq_emod_of_nonneg (by omega), md3]
      have nz1 : ((b : Int) == 0) = false := by simp; omega
      have nz2 : ((d : Int) == 0) = false := by simp; omega
      have HLT := Lib.hid (fun h => whole_lt (a := a) (c := c) (show 0 < b by omega) (show 0 < d by omega) h)
      have HGT := Lib.hid (fun h => whole_gt (a := a) (c := c) (show 0 < b by omega) (show 0 < d by omega) h)
      have H00 := Lib.hid (fun h => rest_00 (a := a) (b := b) (c := c) (d := d) h)
      have H0 := Lib.hid (fun h => rest_0 (a := a) (c := c) (d := d) (show 0 < b by omega) h)
      have H1 := Lib.hid (fun h => rest_1 (a := a) (b := b) (c := c) (show 0 < d by omega) h)
      have HT := Lib.hid (fun h => turned (a := a) (b := b) (c := c) (d := d) h)
      have hr := Nat.mod_lt a (show 0 < b by omega)
      have hr2 := Nat.mod_lt c (show 0 < d by omega)
      have zx : a / b ≤ 9223372036854775807 := Nat.le_trans (Nat.div_le_self a b) z1
      have zy : c / d ≤ 9223372036854775807 := Nat.le_trans (Nat.div_le_self c d) z3
      obtain ⟨x, hx⟩ : ∃ x, a / b = x := ⟨_, rfl⟩
      obtain ⟨y, hy⟩ : ∃ x, c / d = x := ⟨_, rfl⟩
      obtain ⟨r, hrr⟩ : ∃ x, a % b = x := ⟨_, rfl⟩
      obtain ⟨q, hqq⟩ : ∃ x, c % d = x := ⟨_, rfl⟩
      rw [hx] at dv1 dv2 HLT HGT H00 H0 H1 HT zx
      rw [hy] at dv3 dv4 HLT HGT H00 H0 H1 HT zy
      rw [hrr] at md1 md2 H00 H0 H1 HT hr
      rw [hqq] at md3 md4 H00 H0 H1 HT hr2
      clear hx hy hrr hqq
      go_wp2_with fail
      go_quiet (fail)
      revert nq
      intro n1
      rcases Nat.lt_trichotomy x y with hxy | hxy | hxy
      · have HE := Lib.hid (HLT.out hxy)
        have HI2 : Hid (s * -1 = V) := Lib.hid (by rw [← HE.out, HI.out])
        have t1 : decide ((x : Int) < (y : Int)) = true := decide_eq_true (by omega)
        have t1n : decide (x < y) = true := decide_eq_true hxy
        rcases hs with rfl | rfl
        all_goals
          go_wp2_with fail
          go_ret
          exact ⟨ret_int (by have := HI2.out; omega), below_drewN hB1.out _⟩
      · subst hxy
        replace H00 := Lib.hid (H00.out rfl)
        replace H0 := Lib.hid (H0.out rfl)
        replace H1 := Lib.hid (H1.out rfl)
        replace HT := Lib.hid (HT.out rfl)
        have t1 : decide ((x : Int) < (x : Int)) = false := decide_eq_false (by omega)
        rcases hs with rfl | rfl
        all_goals
          go_wp2_with fail
          go_quiet (fail)
          rcases Nat.eq_zero_or_pos r with hr0 | hr0
          · rcases Nat.eq_zero_or_pos q with hq0 | hq0
            · have HE := Lib.hid (H00.out hr0 hq0)
              have HI2 := Lib.hid (HI.out)
              rw [HE.out] at HI2
              subst hr0 hq0
              go_wp2_with fail
              go_ret
              exact ⟨ret_int (by have := HI2.out; omega), below_drewN hB1.out _⟩
            · have HE := Lib.hid (H0.out hr0 hq0)
              have HI2 := Lib.hid (HI.out)
              rw [HE.out] at HI2
              have t2 : ((q : Int) == 0) = false := by simp; omega
              subst hr0
              go_wp2_with fail
              go_ret
              exact ⟨ret_int (by have := HI2.out; omega), below_drewN hB1.out _⟩
          · have t3 : ((r : Int) == 0) = false := by simp; omega
            rcases Nat.eq_zero_or_pos q with hq0 | hq0
            · have HE := Lib.hid (H1.out hr0 hq0)
              have HI2 := Lib.hid (HI.out)
              rw [HE.out] at HI2
              subst hq0
              go_wp2_with fail
              go_ret
              exact ⟨ret_int (by have := HI2.out; omega), below_drewN hB1.out _⟩
            · have HE := HT
              have HI2 := Lib.hid (HI.out)
              rw [HE.out] at HI2
              have t2 : ((q : Int) == 0) = false := by simp; omega
              go_wp2_with fail
              clear a0 a1 c0 c1
              have hB3 := Lib.hid (below_drewN hB1.out (n1 + nq))
              have hA3 := hA1.drewN (n1 + nq)
              have hC3 := hC1.drewN (n1 + nq)
              clear hA1 hB1 hC1
              generalize wr.drewN (n1 + nq) = W at *
              have a0 := hA3.cell 0; have a1 := hA3.cell 1; have c0 := hC3.cell 0; have c1 := hC3.cell 1
              simp only [List.getElem?_toArray, List.getElem?_cons_zero, List.getElem?_cons_succ] at a0 a1 c0 c1
              have fa := hA3.frozen 0; have fb := hA3.frozen 1; have fc := hC3.frozen 0; have fd := hC3.frozen 1
              have hnf : ¬ w.heap.size + 1 = w.heap.size := by omega
              have hng : ¬ w.heap.size = w.heap.size + 1 := by omega
              go_region
              go_wp2_with fail
              have hA9 : Blk (((((W.drew.setCell ⟨w.heap.size, 0, none⟩ (.int .i64 (b : Int))).setCell ⟨w.heap.size, 1, none⟩ (.int .i64 (r : Int))).setCell ⟨w.heap.size + 1, 0, none⟩ (.int .i64 (d : Int))).setCell ⟨w.heap.size + 1, 1, none⟩ (.int .i64 (q : Int)))) w.heap.size 25 #[.int .i64 (b : Int), .int .i64 (r : Int)] := (((hA3.drew.set_ 0 _).set_ 1 _).far hne _).far hne _
              have hC9 : Blk (((((W.drew.setCell ⟨w.heap.size, 0, none⟩ (.int .i64 (b : Int))).setCell ⟨w.heap.size, 1, none⟩ (.int .i64 (r : Int))).setCell ⟨w.heap.size + 1, 0, none⟩ (.int .i64 (d : Int))).setCell ⟨w.heap.size + 1, 1, none⟩ (.int .i64 (q : Int)))) (w.heap.size + 1) 25 #[.int .i64 (d : Int), .int .i64 (q : Int)] := (((hC3.drew.far (Ne.symm hne) _).far (Ne.symm hne) _).set_ 0 _).set_ 1 _
              have hB9 : Below w.heap.size w (((((W.drew.setCell ⟨w.heap.size, 0, none⟩ (.int .i64 (b : Int))).setCell ⟨w.heap.size, 1, none⟩ (.int .i64 (r : Int))).setCell ⟨w.heap.size + 1, 0, none⟩ (.int .i64 (d : Int))).setCell ⟨w.heap.size + 1, 1, none⟩ (.int .i64 (q : Int)))) := ((((below_drewN hB3.out 1).setCell (Nat.le_refl _) _).setCell (Nat.le_refl _) _).setCell (Nat.le_succ _) _).setCell (Nat.le_succ _) _
              go_round
              case rel => exact ⟨_, b, r, d, q, by first | exact .inl rfl | exact .inr rfl, rfl, ⟨by omega, by omega⟩, ⟨by omega, by omega, by omega, by omega⟩, hB9, hA9, hC9, Lib.hid (by have := HI2.out; omega)⟩
              case measure => exact meas_lt HMM.out hA9 hr
      · have HE := Lib.hid (HGT.out hxy)
        have HI2 : Hid (s * 1 = V) := Lib.hid (by rw [← HE.out, HI.out])
        have t1 : decide ((x : Int) < (y : Int)) = false := decide_eq_false (by omega)
        have t2 : decide ((y : Int) < (x : Int)) = true := decide_eq_true (by omega)
        have t1n : decide (x < y) = false := decide_eq_false (by omega)
        have t2n : decide (y < x) = true := decide_eq_true (by omega)
        rcases hs with rfl | rfl
        all_goals
          go_wp2_with fail
          go_ret
          exact ⟨ret_int (by have := HI2.out; omega), below_drewN hB1.out _⟩
end Go.Proofs.YtmmcngdpfikdiaaDoor.kit
