/- Fractions held against one another: the program. No condition. -/
import Derived.Test.YtmmcngdpfikdiaaDoorMyCo
import Derived.Test.YtmmcngdpfikdiaaDoorMyR
import Derived.Test.YtmmcngdpfikdiaaDoorTail
import Derived.Test.YtmmcngdpfikdiaaDoorStep
namespace Go.Proofs.YtmmcngdpfikdiaaDoor.kit
open Go.RowKit Go.PlainAid
set_option linter.unusedVariables false

set_option maxRecDepth 100000 in
set_option maxHeartbeats 1600000 in
theorem worth_any (n d : Int) (w : World) : Calls Tryd.prog 41 #[(.agg #[.int .i64 n, .int .i64 d])] w fun e w' => e = .returned (.agg #[.int .i64 (wN n d : Int), .int .i64 (wD n d : Int)]) ∧ Below w.heap.size w w' := by
  have HQ := Lib.hid (fun w => isRatio_any n d w)
  have hA0 : Blk ((w.alloc (.cells #[.int .i64 n, .int .i64 d] 25)).alloc (.cells #[.int .i64 0, .int .i64 0] 25)) w.heap.size 25 #[.int .i64 n, .int .i64 d] := Blk.more (Blk.new _ _ _) _
  have hR0 : Blk ((w.alloc (.cells #[.int .i64 n, .int .i64 d] 25)).alloc (.cells #[.int .i64 0, .int .i64 0] 25)) (w.heap.size + 1) 25 #[.int .i64 0, .int .i64 0] := Blk.newAt _ _ (by simp only [size_alloc])
  have hB0 : Below w.heap.size w ((w.alloc (.cells #[.int .i64 n, .int .i64 d] 25)).alloc (.cells #[.int .i64 0, .int .i64 0] 25)) := by
    refine Below.alloc (Below.alloc (Below.refl _ _) ?_ _) ?_ _
    all_goals (try simp only [size_alloc]); omega
  have a0 := (hA0).cell 0; have a1 := (hA0).cell 1
  simp only [List.getElem?_toArray, List.getElem?_cons_zero, List.getElem?_cons_succ] at a0 a1
  cases hq : ratB n d
  · have e1 : Hid (Ending.returned (.agg #[.int .i64 0, .int .i64 1]) = Ending.returned (.agg #[.int .i64 (wN n d : Int), .int .i64 (wD n d : Int)])) := Lib.hid (by unfold wN wD; rw [hq]; rfl)
    rw [hq] at HQ
    clear hq
    go_enter Tryd.func41, Tryd.ntmps41
    go_wp2_with fail
    refine (HQ.out _).mono ?_
    rintro e w1 ⟨rfl, hb1⟩
    have hB1 := hB0.trans (hb1.mono hB0.size)
    have hA1 := hA0.below hb1 hA0.lt
    have hR1 := hR0.below hb1 hR0.lt
    clear a0 a1 hB0 hA0 hR0 hb1
    have a0 := (hA1).cell 0; have a1 := (hA1).cell 1
    simp only [List.getElem?_toArray, List.getElem?_cons_zero, List.getElem?_cons_succ] at a0 a1
    have f0 := hR1.frozen 0; have f1 := hR1.frozen 1
    go_wp2_with (refine stop_store 25 _ _ rfl ?_; refine wpList_store_blk rfl 25 _ _ rfl #[.int .i64 0, .int .i64 1] rfl rfl hR1 (by kernel_rfl) rfl rfl ?_; intro w9 hR9 hk9 hb9)
    have hB9 := hb9 _ _ hB1 (by omega)
    have r0 := (hR9).cell 0; have r1 := (hR9).cell 1
    simp only [List.getElem?_toArray, List.getElem?_cons_zero, List.getElem?_cons_succ] at r0 r1
    refine bodyPost_ret (v := (.agg #[.int .i64 0, .int .i64 1])) (by simp [results, Tryd.results41, go_sem, r0, r1]) rfl ⟨e1.out, hB9⟩
  · have hnd : 0 ≤ n ∧ 1 ≤ d := by unfold ratB at hq; simpa using hq
    have e1 : Hid (Ending.returned (.agg #[.int .i64 n, .int .i64 d]) = Ending.returned (.agg #[.int .i64 (wN n d : Int), .int .i64 (wD n d : Int)])) := Lib.hid (by
      unfold wN wD; rw [hq, if_pos rfl, if_pos rfl, Int.toNat_of_nonneg hnd.1, Int.toNat_of_nonneg (by omega)])
    rw [hq] at HQ
    clear hq hnd
    go_enter Tryd.func41, Tryd.ntmps41
    go_wp2_with fail
    refine (HQ.out _).mono ?_
    rintro e w1 ⟨rfl, hb1⟩
    have hB1 := hB0.trans (hb1.mono hB0.size)
    have hA1 := hA0.below hb1 hA0.lt
    have hR1 := hR0.below hb1 hR0.lt
    clear a0 a1 hB0 hA0 hR0 hb1
    have a0 := (hA1).cell 0; have a1 := (hA1).cell 1
    simp only [List.getElem?_toArray, List.getElem?_cons_zero, List.getElem?_cons_succ] at a0 a1
    have f0 := hR1.frozen 0; have f1 := hR1.frozen 1
    go_wp2_with (refine stop_store 25 _ _ rfl ?_; refine wpList_store_blk rfl 25 _ _ rfl #[.int .i64 n, .int .i64 d] rfl rfl hR1 (by kernel_rfl) rfl rfl ?_; intro w9 hR9 hk9 hb9)
    have hB9 := hb9 _ _ hB1 (by omega)
    have r0 := (hR9).cell 0; have r1 := (hR9).cell 1
    simp only [List.getElem?_toArray, List.getElem?_cons_zero, List.getElem?_cons_succ] at r0 r1
    refine bodyPost_ret (v := (.agg #[.int .i64 n, .int .i64 d])) (by simp [results, Tryd.results41, go_sem, r0, r1]) rfl ⟨e1.out, hB9⟩
theorem wN_bd {n d : Int} (hn : I64 n) (hd : I64 d) : wN n d ≤ 9223372036854775807 ∧ wD n d ≤ 9223372036854775807 := by
  unfold I64 at hn hd
  unfold wN wD
  by_cases h : ratB n d = true
  · rw [if_pos h, if_pos h]; omega
  · rw [if_neg h, if_neg h]; omega
set_option maxRecDepth 100000 in
set_option maxHeartbeats 3200000 in
theorem cmp_any (n d n' d' : Int) (w : World) (hn : I64 n) (hd : I64 d) (hn' : I64 n') (hd' : I64 d') : Calls Tryd.prog 23 #[(.agg #[.int .i64 n, .int .i64 d]), (.agg #[.int .i64 n', .int .i64 d'])] w fun e w' => e = .returned (.int .i64 (cmpV n d n' d')) ∧ Below w.heap.size w w' := by
  have HA := Lib.hid (fun w => worth_any n d w)
  have HC := Lib.hid (fun w => worth_any n' d' w)
  have hA0 : Blk ((w.alloc (.cells #[.int .i64 n, .int .i64 d] 25)).alloc (.cells #[.int .i64 n', .int .i64 d'] 25)) w.heap.size 25 #[.int .i64 n, .int .i64 d] := Blk.more (Blk.new _ _ _) _
  have hC0 : Blk ((w.alloc (.cells #[.int .i64 n, .int .i64 d] 25)).alloc (.cells #[.int .i64 n', .int .i64 d'] 25)) (w.heap.size + 1) 25 #[.int .i64 n', .int .i64 d'] := Blk.newAt _ _ (by simp only [size_alloc])
  have hB0 : Below w.heap.size w ((w.alloc (.cells #[.int .i64 n, .int .i64 d] 25)).alloc (.cells #[.int .i64 n', .int .i64 d'] 25)) := by
    refine Below.alloc (Below.alloc (Below.refl _ _) ?_ _) ?_ _
    all_goals (try simp only [size_alloc]); omega
  have a0 := hA0.cell 0; have a1 := hA0.cell 1; have c0 := hC0.cell 0; have c1 := hC0.cell 1
  simp only [List.getElem?_toArray, List.getElem?_cons_zero, List.getElem?_cons_succ] at a0 a1 c0 c1
  have b1 := wN_bd hn hd
  have b2 := wN_bd hn' hd'
  have EV : cmpV n d n' d' = cmpN (wN n d) (wD n d) (wN n' d') (wD n' d') := rfl
  obtain ⟨A, hA⟩ : ∃ x, wN n d = x := ⟨_, rfl⟩
  obtain ⟨B, hB⟩ : ∃ x, wD n d = x := ⟨_, rfl⟩
  obtain ⟨C, hC⟩ : ∃ x, wN n' d' = x := ⟨_, rfl⟩
  obtain ⟨D, hD⟩ : ∃ x, wD n' d' = x := ⟨_, rfl⟩
  rw [hA, hB] at HA b1
  rw [hC, hD] at HC b2
  rw [hA, hB, hC, hD] at EV
  have f1 : IntKind.u64.wrap (A : Int) = (A : Int) := by rw [IntKind.wrap_u64]; omega
  have f2 : IntKind.u64.wrap (B : Int) = (B : Int) := by rw [IntKind.wrap_u64]; omega
  have f3 : IntKind.u64.wrap (C : Int) = (C : Int) := by rw [IntKind.wrap_u64]; omega
  have f4 : IntKind.u64.wrap (D : Int) = (D : Int) := by rw [IntKind.wrap_u64]; omega
  have m1 := Nat.div_add_mod (A * D) 18446744073709551616
  have m2 := Nat.div_add_mod (C * B) 18446744073709551616
  have u1 := Nat.mod_lt (A * D) (show 0 < 18446744073709551616 by omega)
  have u2 := Nat.mod_lt (C * B) (show 0 < 18446744073709551616 by omega)
  have HU := Lib.hid (Tryd.bits_Mul64 A D (by omega) (by omega))
  have HV := Lib.hid (Tryd.bits_Mul64 C B (by omega) (by omega))
  obtain ⟨h, eh⟩ : ∃ h, A * D / 18446744073709551616 = h := ⟨_, rfl⟩
  obtain ⟨l, el⟩ : ∃ h, A * D % 18446744073709551616 = h := ⟨_, rfl⟩
  obtain ⟨h', eh'⟩ : ∃ h, C * B / 18446744073709551616 = h := ⟨_, rfl⟩
  obtain ⟨l', el'⟩ : ∃ h, C * B % 18446744073709551616 = h := ⟨_, rfl⟩
  rw [eh, el] at HU m1
  rw [eh', el'] at HV m2
  rw [el] at u1
  rw [el'] at u2
  clear eh el eh' el' hA hB hC hD hn hd hn' hd' b1 b2
  rcases Nat.lt_trichotomy h h' with q | q | q
  · have e1 : Hid ((-1 : Int) = cmpV n d n' d') := Lib.hid (by rw [EV]; exact (cmpN_lt (by omega)).symm)
    have d1 : decide ((h : Int) < (h' : Int)) = true := decide_eq_true (by omega)
    have d1n : decide (h < h') = true := decide_eq_true q
    clear EV m1 m2 u1 u2 q
    go_enter Tryd.func23, Tryd.ntmps23
    go_wp2_with fail
    generalize hW : (w.alloc (.cells #[.int .i64 n, .int .i64 d] 25)).alloc (.cells #[.int .i64 n', .int .i64 d'] 25) = W at *
    have p0 := wof_cell a0; have p1 := wof_cell a1; have p2 := wof_cell c0; have p3 := wof_cell c1
    refine wp_region_quiet_below_tail 4 (by kernel_rfl) (by kernel_rfl) ?_
    simp only [List.take_succ_cons, List.take_zero, List.drop_succ_cons, List.drop_zero]
    repeat (go_big_quiet_step ((first | (go_at_call 41; with_reducible exact quiet_below (HA.out _)) | (go_at_call 41; exact quiet_below (HC.out _)))))
    refine wpQuiet_nil ?_
    intro w3 hb3
    have hB3 := hB0.trans (hb3.mono hB0.size)
    have hA3 := hA0.below hb3 hA0.lt
    have hC3 := hC0.below hb3 hC0.lt
    clear p0 p1 p2 p3 a0 a1 c0 c1 hB0 hA0 hC0 hb3
    have hne : w.heap.size ≠ w.heap.size + 1 := by omega
    go_wp2_with (first | ((refine stop_store 25 _ _ rfl ?_; refine wpList_store_blk rfl 25 _ _ rfl #[.int .i64 (A : Int), .int .i64 (B : Int)] rfl rfl hA3 (by kernel_rfl) rfl rfl ?_; intro w8 hA8 hk8 hb8); have hC8 := hk8 _ _ _ (Ne.symm hne) hC3; have hB8 := hb8 _ _ hB3 (Nat.le_refl _); clear hk8 hb8) | ((refine stop_store 25 _ _ rfl ?_; refine wpList_store_blk rfl 25 _ _ rfl #[.int .i64 (C : Int), .int .i64 (D : Int)] rfl rfl hC8 (by kernel_rfl) rfl rfl ?_; intro w9 hC9 hk9 hb9); have hA9 := hk9 _ _ _ hne hA8; have hB9 := Lib.hid (hb9 _ _ hB8 (Nat.le_succ _)); clear hk9 hb9; have a0 := hA9.cell 0; have a1 := hA9.cell 1; have c0 := hC9.cell 0; have c1 := hC9.cell 1; simp only [List.getElem?_toArray, List.getElem?_cons_zero, List.getElem?_cons_succ] at a0 a1 c0 c1))
    refine (HU.out _).mono ?_
    rintro e w' ⟨rfl, rfl⟩
    go_wp2_with fail
    refine (HV.out _).mono ?_
    rintro e w' ⟨rfl, rfl⟩
    go_wp2_with fail
    go_ret
    exact ⟨ret_int e1.out, hB9.out⟩
  · subst q
    have d1 : decide ((h : Int) < (h : Int)) = false := decide_eq_false (by omega)
    rcases Nat.lt_trichotomy l l' with q | q | q
    · have e1 : Hid ((-1 : Int) = cmpV n d n' d') := Lib.hid (by rw [EV]; exact (cmpN_lt (by omega)).symm)
      have d2 : decide ((l : Int) < (l' : Int)) = true := decide_eq_true (by omega)
      have d2n : decide (l < l') = true := decide_eq_true q
      clear EV m1 m2 u1 u2 q
      go_enter Tryd.func23, Tryd.ntmps23
      go_wp2_with fail
      generalize hW : (w.alloc (.cells #[.int .i64 n, .int .i64 d] 25)).alloc (.cells #[.int .i64 n', .int .i64 d'] 25) = W at *
      have p0 := wof_cell a0; have p1 := wof_cell a1; have p2 := wof_cell c0; have p3 := wof_cell c1
      refine wp_region_quiet_below_tail 4 (by kernel_rfl) (by kernel_rfl) ?_
      simp only [List.take_succ_cons, List.take_zero, List.drop_succ_cons, List.drop_zero]
      repeat (go_big_quiet_step ((first | (go_at_call 41; with_reducible exact quiet_below (HA.out _)) | (go_at_call 41; exact quiet_below (HC.out _)))))
      refine wpQuiet_nil ?_
      intro w3 hb3
      have hB3 := hB0.trans (hb3.mono hB0.size)
      have hA3 := hA0.below hb3 hA0.lt
      have hC3 := hC0.below hb3 hC0.lt
      clear p0 p1 p2 p3 a0 a1 c0 c1 hB0 hA0 hC0 hb3
      have hne : w.heap.size ≠ w.heap.size + 1 := by omega
      go_wp2_with (first | ((refine stop_store 25 _ _ rfl ?_; refine wpList_store_blk rfl 25 _ _ rfl #[.int .i64 (A : Int), .int .i64 (B : Int)] rfl rfl hA3 (by kernel_rfl) rfl rfl ?_; intro w8 hA8 hk8 hb8); have hC8 := hk8 _ _ _ (Ne.symm hne) hC3; have hB8 := hb8 _ _ hB3 (Nat.le_refl _); clear hk8 hb8) | ((refine stop_store 25 _ _ rfl ?_; refine wpList_store_blk rfl 25 _ _ rfl #[.int .i64 (C : Int), .int .i64 (D : Int)] rfl rfl hC8 (by kernel_rfl) rfl rfl ?_; intro w9 hC9 hk9 hb9); have hA9 := hk9 _ _ _ hne hA8; have hB9 := Lib.hid (hb9 _ _ hB8 (Nat.le_succ _)); clear hk9 hb9; have a0 := hA9.cell 0; have a1 := hA9.cell 1; have c0 := hC9.cell 0; have c1 := hC9.cell 1; simp only [List.getElem?_toArray, List.getElem?_cons_zero, List.getElem?_cons_succ] at a0 a1 c0 c1))
      refine (HU.out _).mono ?_
      rintro e w' ⟨rfl, rfl⟩
      go_wp2_with fail
      refine (HV.out _).mono ?_
      rintro e w' ⟨rfl, rfl⟩
      go_wp2_with fail
      go_ret
      exact ⟨ret_int e1.out, hB9.out⟩
    · subst q
      have e1 : Hid ((0 : Int) = cmpV n d n' d') := Lib.hid (by rw [EV]; exact (cmpN_eq (by omega)).symm)
      have d2 : decide ((l : Int) < (l : Int)) = false := decide_eq_false (by omega)
      clear EV m1 m2 u1 u2
      go_enter Tryd.func23, Tryd.ntmps23
      go_wp2_with fail
      generalize hW : (w.alloc (.cells #[.int .i64 n, .int .i64 d] 25)).alloc (.cells #[.int .i64 n', .int .i64 d'] 25) = W at *
      have p0 := wof_cell a0; have p1 := wof_cell a1; have p2 := wof_cell c0; have p3 := wof_cell c1
      refine wp_region_quiet_below_tail 4 (by kernel_rfl) (by kernel_rfl) ?_
      simp only [List.take_succ_cons, List.take_zero, List.drop_succ_cons, List.drop_zero]
      repeat (go_big_quiet_step ((first | (go_at_call 41; with_reducible exact quiet_below (HA.out _)) | (go_at_call 41; exact quiet_below (HC.out _)))))
      refine wpQuiet_nil ?_
      intro w3 hb3
      have hB3 := hB0.trans (hb3.mono hB0.size)
      have hA3 := hA0.below hb3 hA0.lt
      have hC3 := hC0.below hb3 hC0.lt
      clear p0 p1 p2 p3 a0 a1 c0 c1 hB0 hA0 hC0 hb3
      have hne : w.heap.size ≠ w.heap.size + 1 := by omega
      go_wp2_with (first | ((refine stop_store 25 _ _ rfl ?_; refine wpList_store_blk rfl 25 _ _ rfl #[.int .i64 (A : Int), .int .i64 (B : Int)] rfl rfl hA3 (by kernel_rfl) rfl rfl ?_; intro w8 hA8 hk8 hb8); have hC8 := hk8 _ _ _ (Ne.symm hne) hC3; have hB8 := hb8 _ _ hB3 (Nat.le_refl _); clear hk8 hb8) | ((refine stop_store 25 _ _ rfl ?_; refine wpList_store_blk rfl 25 _ _ rfl #[.int .i64 (C : Int), .int .i64 (D : Int)] rfl rfl hC8 (by kernel_rfl) rfl rfl ?_; intro w9 hC9 hk9 hb9); have hA9 := hk9 _ _ _ hne hA8; have hB9 := Lib.hid (hb9 _ _ hB8 (Nat.le_succ _)); clear hk9 hb9; have a0 := hA9.cell 0; have a1 := hA9.cell 1; have c0 := hC9.cell 0; have c1 := hC9.cell 1; simp only [List.getElem?_toArray, List.getElem?_cons_zero, List.getElem?_cons_succ] at a0 a1 c0 c1))
      refine (HU.out _).mono ?_
      rintro e w' ⟨rfl, rfl⟩
      go_wp2_with fail
      refine (HV.out _).mono ?_
      rintro e w' ⟨rfl, rfl⟩
      go_wp2_with fail
      go_ret
      exact ⟨ret_int e1.out, hB9.out⟩
    · have e1 : Hid ((1 : Int) = cmpV n d n' d') := Lib.hid (by rw [EV]; exact (cmpN_gt (by omega)).symm)
      have d2 : decide ((l : Int) < (l' : Int)) = false := decide_eq_false (by omega)
      have d2n : decide (l < l') = false := decide_eq_false (by omega)
      have d3 : ((l : Int) == (l' : Int)) = false := by simp; omega
      have d3n : (l == l') = false := by simp; omega
      clear EV m1 m2 u1 u2 q
      go_enter Tryd.func23, Tryd.ntmps23
      go_wp2_with fail
      generalize hW : (w.alloc (.cells #[.int .i64 n, .int .i64 d] 25)).alloc (.cells #[.int .i64 n', .int .i64 d'] 25) = W at *
      have p0 := wof_cell a0; have p1 := wof_cell a1; have p2 := wof_cell c0; have p3 := wof_cell c1
      refine wp_region_quiet_below_tail 4 (by kernel_rfl) (by kernel_rfl) ?_
      simp only [List.take_succ_cons, List.take_zero, List.drop_succ_cons, List.drop_zero]
      repeat (go_big_quiet_step ((first | (go_at_call 41; with_reducible exact quiet_below (HA.out _)) | (go_at_call 41; exact quiet_below (HC.out _)))))
      refine wpQuiet_nil ?_
      intro w3 hb3
      have hB3 := hB0.trans (hb3.mono hB0.size)
      have hA3 := hA0.below hb3 hA0.lt
      have hC3 := hC0.below hb3 hC0.lt
      clear p0 p1 p2 p3 a0 a1 c0 c1 hB0 hA0 hC0 hb3
      have hne : w.heap.size ≠ w.heap.size + 1 := by omega
      go_wp2_with (first | ((refine stop_store 25 _ _ rfl ?_; refine wpList_store_blk rfl 25 _ _ rfl #[.int .i64 (A : Int), .int .i64 (B : Int)] rfl rfl hA3 (by kernel_rfl) rfl rfl ?_; intro w8 hA8 hk8 hb8); have hC8 := hk8 _ _ _ (Ne.symm hne) hC3; have hB8 := hb8 _ _ hB3 (Nat.le_refl _); clear hk8 hb8) | ((refine stop_store 25 _ _ rfl ?_; refine wpList_store_blk rfl 25 _ _ rfl #[.int .i64 (C : Int), .int .i64 (D : Int)] rfl rfl hC8 (by kernel_rfl) rfl rfl ?_; intro w9 hC9 hk9 hb9); have hA9 := hk9 _ _ _ hne hA8; have hB9 := Lib.hid (hb9 _ _ hB8 (Nat.le_succ _)); clear hk9 hb9; have a0 := hA9.cell 0; have a1 := hA9.cell 1; have c0 := hC9.cell 0; have c1 := hC9.cell 1; simp only [List.getElem?_toArray, List.getElem?_cons_zero, List.getElem?_cons_succ] at a0 a1 c0 c1))
      refine (HU.out _).mono ?_
      rintro e w' ⟨rfl, rfl⟩
      go_wp2_with fail
      refine (HV.out _).mono ?_
      rintro e w' ⟨rfl, rfl⟩
      go_wp2_with fail
      go_ret
      exact ⟨ret_int e1.out, hB9.out⟩
  · have e1 : Hid ((1 : Int) = cmpV n d n' d') := Lib.hid (by rw [EV]; exact (cmpN_gt (by omega)).symm)
    have d1 : decide ((h : Int) < (h' : Int)) = false := decide_eq_false (by omega)
    have d1n : decide (h < h') = false := decide_eq_false (by omega)
    have d3 : ((h : Int) == (h' : Int)) = false := by simp; omega
    have d3n : (h == h') = false := by simp; omega
    clear EV m1 m2 u1 u2 q
    go_enter Tryd.func23, Tryd.ntmps23
    go_wp2_with fail
    generalize hW : (w.alloc (.cells #[.int .i64 n, .int .i64 d] 25)).alloc (.cells #[.int .i64 n', .int .i64 d'] 25) = W at *
    have p0 := wof_cell a0; have p1 := wof_cell a1; have p2 := wof_cell c0; have p3 := wof_cell c1
    refine wp_region_quiet_below_tail 4 (by kernel_rfl) (by kernel_rfl) ?_
    simp only [List.take_succ_cons, List.take_zero, List.drop_succ_cons, List.drop_zero]
    repeat (go_big_quiet_step ((first | (go_at_call 41; with_reducible exact quiet_below (HA.out _)) | (go_at_call 41; exact quiet_below (HC.out _)))))
    refine wpQuiet_nil ?_
    intro w3 hb3
    have hB3 := hB0.trans (hb3.mono hB0.size)
    have hA3 := hA0.below hb3 hA0.lt
    have hC3 := hC0.below hb3 hC0.lt
    clear p0 p1 p2 p3 a0 a1 c0 c1 hB0 hA0 hC0 hb3
    have hne : w.heap.size ≠ w.heap.size + 1 := by omega
    go_wp2_with (first | ((refine stop_store 25 _ _ rfl ?_; refine wpList_store_blk rfl 25 _ _ rfl #[.int .i64 (A : Int), .int .i64 (B : Int)] rfl rfl hA3 (by kernel_rfl) rfl rfl ?_; intro w8 hA8 hk8 hb8); have hC8 := hk8 _ _ _ (Ne.symm hne) hC3; have hB8 := hb8 _ _ hB3 (Nat.le_refl _); clear hk8 hb8) | ((refine stop_store 25 _ _ rfl ?_; refine wpList_store_blk rfl 25 _ _ rfl #[.int .i64 (C : Int), .int .i64 (D : Int)] rfl rfl hC8 (by kernel_rfl) rfl rfl ?_; intro w9 hC9 hk9 hb9); have hA9 := hk9 _ _ _ hne hA8; have hB9 := Lib.hid (hb9 _ _ hB8 (Nat.le_succ _)); clear hk9 hb9; have a0 := hA9.cell 0; have a1 := hA9.cell 1; have c0 := hC9.cell 0; have c1 := hC9.cell 1; simp only [List.getElem?_toArray, List.getElem?_cons_zero, List.getElem?_cons_succ] at a0 a1 c0 c1))
    refine (HU.out _).mono ?_
    rintro e w' ⟨rfl, rfl⟩
    go_wp2_with fail
    refine (HV.out _).mono ?_
    rintro e w' ⟨rfl, rfl⟩
    go_wp2_with fail
    go_ret
    exact ⟨ret_int e1.out, hB9.out⟩
end Go.Proofs.YtmmcngdpfikdiaaDoor.kit
