/- Fractions reduced: the program and the document; two fractions the same. No condition. -/
import Derived.Test.YtmmcngdpfikdiaaDoorMyCmp
import Derived.Laws.StructEq
namespace Go.Proofs.YtmmcngdpfikdiaaDoor.kit
open Go.RowKit Go.PlainAid
set_option linter.unusedVariables false

theorem ret_red {r : (Int × Int) × Bool} {a b : Int} {c : Bool} (h : r = ((a, b), c)) : Ending.returned (.tuple #[(.agg #[.int .i64 a, .int .i64 b]), .bool c]) = .returned (.tuple #[(.agg #[.int .i64 r.1.1, .int .i64 r.1.2]), .bool r.2]) := by rw [h]
set_option maxRecDepth 100000 in
set_option maxHeartbeats 1600000 in
theorem red_any (n d : Int) (w : World) (hn : I64 n) (hd : I64 d) : Calls Tryd.prog 25 #[(.agg #[.int .i64 n, .int .i64 d])] w fun e w' => e = .returned (.tuple #[(.agg #[.int .i64 (redV n d).1.1, .int .i64 (redV n d).1.2]), .bool (redV n d).2]) ∧ Below w.heap.size w w' := by
  have HQ := Lib.hid (fun w => isRatio_any n d w)
  have hA0 : Blk ((w.alloc (.cells #[.int .i64 n, .int .i64 d] 25)).alloc (.cells #[.int .i64 0, .int .i64 0] 25)) w.heap.size 25 #[.int .i64 n, .int .i64 d] := Blk.more (Blk.new _ _ _) _
  have hR0 : Blk ((w.alloc (.cells #[.int .i64 n, .int .i64 d] 25)).alloc (.cells #[.int .i64 0, .int .i64 0] 25)) (w.heap.size + 1) 25 #[.int .i64 0, .int .i64 0] := Blk.newAt _ _ (by simp only [size_alloc])
  have hB0 : Below w.heap.size w ((w.alloc (.cells #[.int .i64 n, .int .i64 d] 25)).alloc (.cells #[.int .i64 0, .int .i64 0] 25)) := by
    refine Below.alloc (Below.alloc (Below.refl _ _) ?_ _) ?_ _
    all_goals (try simp only [size_alloc]); omega
  have a0 := (hA0).cell 0; have a1 := (hA0).cell 1
  simp only [List.getElem?_toArray, List.getElem?_cons_zero, List.getElem?_cons_succ] at a0 a1
  cases hq : ratB n d
  · have e1 : Hid (redV n d = ((0, 0), false)) := Lib.hid (by unfold redV; rw [hq]; rfl)
    rw [hq] at HQ
    clear hq
    go_enter Tryd.func25, Tryd.ntmps25
    go_wp2_with fail
    refine (HQ.out _).mono ?_
    rintro e w1 ⟨rfl, hb1⟩
    have hB1 := hB0.trans (hb1.mono hB0.size)
    have hA1 := hA0.below hb1 hA0.lt
    have hR1 := hR0.below hb1 hR0.lt
    clear a0 a1 hB0 hA0 hR0 hb1
    have a0 := (hA1).cell 0; have a1 := (hA1).cell 1
    simp only [List.getElem?_toArray, List.getElem?_cons_zero, List.getElem?_cons_succ] at a0 a1
    have f0 := hR1.frozen 0; have f1 := hR1.frozen 1
    go_wp2_with (refine stop_store 25 _ _ rfl ?_; refine wpList_store_blk rfl 25 _ _ rfl #[.int .i64 0, .int .i64 0] rfl rfl hR1 (by kernel_rfl) rfl rfl ?_; intro w9 hR9 hk9 hb9)
    have hB9 := hb9 _ _ hB1 (by omega)
    have r0 := (hR9).cell 0; have r1 := (hR9).cell 1
    simp only [List.getElem?_toArray, List.getElem?_cons_zero, List.getElem?_cons_succ] at r0 r1
    refine bodyPost_ret (v := .tuple #[(.agg #[.int .i64 0, .int .i64 0]), .bool false]) (by simp [results, Tryd.results25, go_sem, r0, r1]) rfl ⟨ret_red e1.out, hB9⟩
  · have hnd : 0 ≤ n ∧ 1 ≤ d := by unfold ratB at hq; simpa using hq
    obtain ⟨N, rfl⟩ : ∃ N : Nat, n = N := ⟨n.toNat, by omega⟩
    obtain ⟨D, rfl⟩ : ∃ N : Nat, d = N := ⟨d.toNat, by omega⟩
    unfold I64 at hn hd
    have hND : N ≤ 9223372036854775807 ∧ D ≤ 9223372036854775807 ∧ 1 ≤ D := by omega
    have e0 : Hid (redV N D = ((((N / Nat.gcd N D : Nat) : Int), ((D / Nat.gcd N D : Nat) : Int)), true)) := Lib.hid (by
      unfold redV; rw [hq, if_pos rfl]; simp only [Int.toNat_natCast])
    obtain ⟨G, hG⟩ : ∃ G, Nat.gcd N D = G := ⟨_, rfl⟩
    have hG1 : 1 ≤ G := by rw [← hG]; exact Nat.gcd_pos_of_pos_right _ (by omega)
    have HG := Lib.hid hG
    rw [hG] at e0
    rw [hq] at HQ
    clear hq hnd hG hn hd
    go_enter Tryd.func25, Tryd.ntmps25
    go_wp2_with fail
    refine (HQ.out _).mono ?_
    rintro e w1 ⟨rfl, hb1⟩
    have hB1 := hB0.trans (hb1.mono hB0.size)
    have hA1 := hA0.below hb1 hA0.lt
    have hR1 := hR0.below hb1 hR0.lt
    clear a0 a1 hB0 hA0 hR0 hb1
    have a0 := (hA1).cell 0; have a1 := (hA1).cell 1
    simp only [List.getElem?_toArray, List.getElem?_cons_zero, List.getElem?_cons_succ] at a0 a1
    go_wp2_with fail
    go_quiet (fail)
    go_wp2_with fail
    go_loopw [4, 5] (fun x y wr => ∃ (a b k : Nat), x = .int .i64 a ∧ y = .int .i64 b ∧ (a ≤ 9223372036854775807 ∧ b ≤ 9223372036854775807) ∧ wr = w1.drewN k ∧ Hid (Nat.gcd a b = G)) (fun _ y _ => (intOf y).toNat)
    case atStart => exact ⟨N, D, _, rfl, rfl, ⟨by omega, by omega⟩, rfl, HG⟩
    case round =>
      obtain ⟨a, b, k, rfl, rfl, ⟨z1, z2⟩, rfl, HI⟩ := hrel
      by_cases hb0 : b = 0
      · subst hb0
        have hag : a = G := by rw [← HI.out, Nat.gcd_zero_right]
        subst hag
        have dv1 : (N : Int) / (a : Int) = ((N / a : Nat) : Int) := by rw [Int.natCast_ediv]
        have dv2 : Int.tdiv (N : Int) (a : Int) = ((N / a : Nat) : Int) := by rw [Int.tdiv_eq_ediv_of_nonneg (by omega), dv1]
        have dv3 : (D : Int) / (a : Int) = ((D / a : Nat) : Int) := by rw [Int.natCast_ediv]
        have dv4 : Int.tdiv (D : Int) (a : Int) = ((D / a : Nat) : Int) := by rw [Int.tdiv_eq_ediv_of_nonneg (by omega), dv3]
        have nz1 : ((a : Int) == 0) = false := by simp; omega
        have zx : N / a ≤ 9223372036854775807 := Nat.le_trans (Nat.div_le_self N a) (by omega)
        have zy : D / a ≤ 9223372036854775807 := Nat.le_trans (Nat.div_le_self D a) (by omega)
        obtain ⟨X, hX⟩ : ∃ x, N / a = x := ⟨_, rfl⟩
        obtain ⟨Y, hY⟩ : ∃ x, D / a = x := ⟨_, rfl⟩
        rw [hX] at dv1 dv2 zx e0
        rw [hY] at dv3 dv4 zy e0
        have hB2 := below_drewN hB1 k
        have hA2 := hA1.drewN k
        have hR2 := hR1.drewN k
        clear a0 a1 hA1 hR1 hB1 hX hY
        generalize w1.drewN k = W at *
        have a0 := (hA2).cell 0; have a1 := (hA2).cell 1
        simp only [List.getElem?_toArray, List.getElem?_cons_zero, List.getElem?_cons_succ] at a0 a1
        have p0 := wof_cell a0; have p1 := wof_cell a1
        go_wp2_with fail
        refine wp_region_quiet_below_tail 9 (by kernel_rfl) (by kernel_rfl) ?_
        simp only [List.take_succ_cons, List.take_zero, List.drop_succ_cons, List.drop_zero]
        repeat (go_big_quiet_step (fail))
        refine wpQuiet_nil ?_
        intro w4 hb4
        have hB4 := hB2.trans (hb4.mono hB2.size)
        have hR4 := hR2.below hb4 hR2.lt
        clear a0 a1 p0 p1 hA2 hR2 hB2 hb4
        have f0 := hR4.frozen 0; have f1 := hR4.frozen 1
        go_wp2_with (refine stop_store 25 _ _ rfl ?_; refine wpList_store_blk rfl 25 _ _ rfl #[.int .i64 (X : Int), .int .i64 (Y : Int)] rfl rfl hR4 (by kernel_rfl) rfl rfl ?_; intro w9 hR9 hk9 hb9)
        have hB9 := hb9 _ _ hB4 (by omega)
        have r0 := (hR9).cell 0; have r1 := (hR9).cell 1
        simp only [List.getElem?_toArray, List.getElem?_cons_zero, List.getElem?_cons_succ] at r0 r1
        refine bodyPost_ret (v := .tuple #[(.agg #[.int .i64 (X : Int), .int .i64 (Y : Int)]), .bool true]) (by simp [results, Tryd.results25, go_sem, r0, r1]) rfl ⟨ret_red e0.out, hB9⟩
      · have md1 : (a : Int) % (b : Int) = ((a % b : Nat) : Int) := by rw [Int.natCast_emod]
        have md2 : Int.tmod (a : Int) (b : Int) = ((a % b : Nat) : Int) := by rw [Int.tmod_eq_emod_of_nonneg (by omega), md1]
        have nz1 : ((b : Int) == 0) = false := by simp; omega
        have gz : decide ((0 : Int) < (b : Int)) = true := decide_eq_true (by omega)
        have gzn : decide (0 < b) = true := decide_eq_true (by omega)
        have hr := Nat.mod_lt a (show 0 < b by omega)
        have HI2 : Hid (Nat.gcd b (a % b) = G) := Lib.hid (by rw [← HI.out, Nat.gcd_comm a b, Nat.gcd_rec b a, Nat.gcd_comm])
        obtain ⟨r, hrr⟩ : ∃ x, a % b = x := ⟨_, rfl⟩
        rw [hrr] at md1 md2 hr HI2
        clear hrr
        go_wp2_with fail
        go_quiet (fail)
        go_wp2_with fail
        go_round
        case rel => exact ⟨b, r, k + nq, rfl, rfl, ⟨by omega, by omega⟩, by simp [World.drewN, Nat.add_assoc], HI2⟩
        case measure => simp [intOf]; omega
set_option maxRecDepth 100000 in
set_option maxHeartbeats 1600000 in
theorem rred_any (n d : Int) (w : World) (hn : I64 n) (hd : I64 d) : Calls Tryd.prog 26 #[(.agg #[.int .i64 n, .int .i64 d])] w fun e w' => e = .returned (.tuple #[(.agg #[.int .i64 (redV n d).1.1, .int .i64 (redV n d).1.2]), .bool (redV n d).2]) ∧ Below w.heap.size w w' := by
  have HQ := Lib.hid (fun w => rright_any n d w)
  have hA0 : Blk ((w.alloc (.cells #[.int .i64 n, .int .i64 d] 25)).alloc (.cells #[.int .i64 0, .int .i64 0] 25)) w.heap.size 25 #[.int .i64 n, .int .i64 d] := Blk.more (Blk.new _ _ _) _
  have hR0 : Blk ((w.alloc (.cells #[.int .i64 n, .int .i64 d] 25)).alloc (.cells #[.int .i64 0, .int .i64 0] 25)) (w.heap.size + 1) 25 #[.int .i64 0, .int .i64 0] := Blk.newAt _ _ (by simp only [size_alloc])
  have hB0 : Below w.heap.size w ((w.alloc (.cells #[.int .i64 n, .int .i64 d] 25)).alloc (.cells #[.int .i64 0, .int .i64 0] 25)) := by
    refine Below.alloc (Below.alloc (Below.refl _ _) ?_ _) ?_ _
    all_goals (try simp only [size_alloc]); omega
  have a0 := (hA0).cell 0; have a1 := (hA0).cell 1
  simp only [List.getElem?_toArray, List.getElem?_cons_zero, List.getElem?_cons_succ] at a0 a1
  cases hq : ratB n d
  · have e1 : Hid (redV n d = ((0, 0), false)) := Lib.hid (by unfold redV; rw [hq]; rfl)
    rw [hq] at HQ
    clear hq
    go_enter Tryd.func26, Tryd.ntmps26
    go_wp2_with fail
    refine (HQ.out _).mono ?_
    rintro e w1 ⟨rfl, hb1⟩
    have hB1 := hB0.trans (hb1.mono hB0.size)
    have hA1 := hA0.below hb1 hA0.lt
    have hR1 := hR0.below hb1 hR0.lt
    clear a0 a1 hB0 hA0 hR0 hb1
    have a0 := (hA1).cell 0; have a1 := (hA1).cell 1
    simp only [List.getElem?_toArray, List.getElem?_cons_zero, List.getElem?_cons_succ] at a0 a1
    have f0 := hR1.frozen 0; have f1 := hR1.frozen 1
    go_wp2_with (refine stop_store 25 _ _ rfl ?_; refine wpList_store_blk rfl 25 _ _ rfl #[.int .i64 0, .int .i64 0] rfl rfl hR1 (by kernel_rfl) rfl rfl ?_; intro w9 hR9 hk9 hb9)
    have hB9 := hb9 _ _ hB1 (by omega)
    have r0 := (hR9).cell 0; have r1 := (hR9).cell 1
    simp only [List.getElem?_toArray, List.getElem?_cons_zero, List.getElem?_cons_succ] at r0 r1
    refine bodyPost_ret (v := .tuple #[(.agg #[.int .i64 0, .int .i64 0]), .bool false]) (by simp [results, Tryd.results26, go_sem, r0, r1]) rfl ⟨ret_red e1.out, hB9⟩
  · have hnd : 0 ≤ n ∧ 1 ≤ d := by unfold ratB at hq; simpa using hq
    obtain ⟨N, rfl⟩ : ∃ N : Nat, n = N := ⟨n.toNat, by omega⟩
    obtain ⟨D, rfl⟩ : ∃ N : Nat, d = N := ⟨d.toNat, by omega⟩
    unfold I64 at hn hd
    have hND : N ≤ 9223372036854775807 ∧ D ≤ 9223372036854775807 ∧ 1 ≤ D := by omega
    have e0 : Hid (redV N D = ((((N / Nat.gcd N D : Nat) : Int), ((D / Nat.gcd N D : Nat) : Int)), true)) := Lib.hid (by
      unfold redV; rw [hq, if_pos rfl]; simp only [Int.toNat_natCast])
    obtain ⟨G, hG⟩ : ∃ G, Nat.gcd N D = G := ⟨_, rfl⟩
    have hG1 : 1 ≤ G := by rw [← hG]; exact Nat.gcd_pos_of_pos_right _ (by omega)
    have HG := Lib.hid hG
    rw [hG] at e0
    rw [hq] at HQ
    clear hq hnd hG hn hd
    go_enter Tryd.func26, Tryd.ntmps26
    go_wp2_with fail
    refine (HQ.out _).mono ?_
    rintro e w1 ⟨rfl, hb1⟩
    have hB1 := hB0.trans (hb1.mono hB0.size)
    have hA1 := hA0.below hb1 hA0.lt
    have hR1 := hR0.below hb1 hR0.lt
    clear a0 a1 hB0 hA0 hR0 hb1
    have a0 := (hA1).cell 0; have a1 := (hA1).cell 1
    simp only [List.getElem?_toArray, List.getElem?_cons_zero, List.getElem?_cons_succ] at a0 a1
    go_wp2_with fail
    go_quiet (fail)
    go_wp2_with fail
    go_loopw [4, 5] (fun x y wr => ∃ (a b k : Nat), x = .int .i64 a ∧ y = .int .i64 b ∧ (a ≤ 9223372036854775807 ∧ b ≤ 9223372036854775807) ∧ wr = w1.drewN k ∧ Hid (Nat.gcd a b = G)) (fun _ y _ => (intOf y).toNat)
    case atStart => exact ⟨N, D, _, rfl, rfl, ⟨by omega, by omega⟩, rfl, HG⟩
    case round =>
      obtain ⟨a, b, k, rfl, rfl, ⟨z1, z2⟩, rfl, HI⟩ := hrel
      by_cases hb0 : b = 0
      · subst hb0
        have hag : a = G := by rw [← HI.out, Nat.gcd_zero_right]
        subst hag
        have dv1 : (N : Int) / (a : Int) = ((N / a : Nat) : Int) := by rw [Int.natCast_ediv]
        have dv2 : Int.tdiv (N : Int) (a : Int) = ((N / a : Nat) : Int) := by rw [Int.tdiv_eq_ediv_of_nonneg (by omega), dv1]
        have dv3 : (D : Int) / (a : Int) = ((D / a : Nat) : Int) := by rw [Int.natCast_ediv]
        have dv4 : Int.tdiv (D : Int) (a : Int) = ((D / a : Nat) : Int) := by rw [Int.tdiv_eq_ediv_of_nonneg (by omega), dv3]
        have nz1 : ((a : Int) == 0) = false := by simp; omega
        have zx : N / a ≤ 9223372036854775807 := Nat.le_trans (Nat.div_le_self N a) (by omega)
        have zy : D / a ≤ 9223372036854775807 := Nat.le_trans (Nat.div_le_self D a) (by omega)
        obtain ⟨X, hX⟩ : ∃ x, N / a = x := ⟨_, rfl⟩
        obtain ⟨Y, hY⟩ : ∃ x, D / a = x := ⟨_, rfl⟩
        rw [hX] at dv1 dv2 zx e0
        rw [hY] at dv3 dv4 zy e0
        have hB2 := below_drewN hB1 k
        have hA2 := hA1.drewN k
        have hR2 := hR1.drewN k
        clear a0 a1 hA1 hR1 hB1 hX hY
        generalize w1.drewN k = W at *
        have a0 := (hA2).cell 0; have a1 := (hA2).cell 1
        simp only [List.getElem?_toArray, List.getElem?_cons_zero, List.getElem?_cons_succ] at a0 a1
        have p0 := wof_cell a0; have p1 := wof_cell a1
        go_wp2_with fail
        refine wp_region_quiet_below_tail 9 (by kernel_rfl) (by kernel_rfl) ?_
        simp only [List.take_succ_cons, List.take_zero, List.drop_succ_cons, List.drop_zero]
        repeat (go_big_quiet_step (fail))
        refine wpQuiet_nil ?_
        intro w4 hb4
        have hB4 := hB2.trans (hb4.mono hB2.size)
        have hR4 := hR2.below hb4 hR2.lt
        clear a0 a1 p0 p1 hA2 hR2 hB2 hb4
        have f0 := hR4.frozen 0; have f1 := hR4.frozen 1
        go_wp2_with (refine stop_store 25 _ _ rfl ?_; refine wpList_store_blk rfl 25 _ _ rfl #[.int .i64 (X : Int), .int .i64 (Y : Int)] rfl rfl hR4 (by kernel_rfl) rfl rfl ?_; intro w9 hR9 hk9 hb9)
        have hB9 := hb9 _ _ hB4 (by omega)
        have r0 := (hR9).cell 0; have r1 := (hR9).cell 1
        simp only [List.getElem?_toArray, List.getElem?_cons_zero, List.getElem?_cons_succ] at r0 r1
        refine bodyPost_ret (v := .tuple #[(.agg #[.int .i64 (X : Int), .int .i64 (Y : Int)]), .bool true]) (by simp [results, Tryd.results26, go_sem, r0, r1]) rfl ⟨ret_red e0.out, hB9⟩
      · have md1 : (a : Int) % (b : Int) = ((a % b : Nat) : Int) := by rw [Int.natCast_emod]
        have md2 : Int.tmod (a : Int) (b : Int) = ((a % b : Nat) : Int) := by rw [Int.tmod_eq_emod_of_nonneg (by omega), md1]
        have nz1 : ((b : Int) == 0) = false := by simp; omega
        have gz : decide ((0 : Int) < (b : Int)) = true := decide_eq_true (by omega)
        have gzn : decide (0 < b) = true := decide_eq_true (by omega)
        have hr := Nat.mod_lt a (show 0 < b by omega)
        have HI2 : Hid (Nat.gcd b (a % b) = G) := Lib.hid (by rw [← HI.out, Nat.gcd_comm a b, Nat.gcd_rec b a, Nat.gcd_comm])
        obtain ⟨r, hrr⟩ : ∃ x, a % b = x := ⟨_, rfl⟩
        rw [hrr] at md1 md2 hr HI2
        clear hrr
        go_wp2_with fail
        go_quiet (fail)
        go_wp2_with fail
        go_round
        case rel => exact ⟨b, r, k + nq, rfl, rfl, ⟨by omega, by omega⟩, by simp [World.drewN, Nat.add_assoc], HI2⟩
        case measure => simp [intOf]; omega
theorem raFields : Tryd.prog.underlying 25 = some (.struct (Tryd.prog.fieldsOf 25)) := by kernel_rfl
theorem raStood : Tryd.prog.stoodInHeld 25 = false := by kernel_rfl
theorem raGuard : Tryd.prog.eqGuardType Tryd.prog.depth 25 = false := by kernel_rfl
theorem len2r {α : Type} {l : List α} (h : l.length = 2) : ∃ a b, l = [a, b] := by
  rcases l with _ | ⟨a, _ | ⟨b, _ | ⟨c, l⟩⟩⟩
  all_goals first | exact ⟨_, _, rfl⟩ | (simp at h)
theorem eqRat (a b c d : Int) (w : World) : (binOp .eql 25 (.agg #[.int .i64 a, .int .i64 b]) (.agg #[.int .i64 c, .int .i64 d])).run Tryd.prog w = .ok (.bool ((a == c) && (b == d))) w := by
  rw [run_eql_struct, show (10000 : Nat) = 9999 + 1 from rfl, run_equalIn_struct _ _ _ _ _ raFields raStood]
  have hf : (Tryd.prog.fieldsOf 25).toList.map (fun f => (f.name, f.type, f.offset)) = [("Num", 2, 0), ("Den", 2, 1)] := by kernel_rfl
  generalize (Tryd.prog.fieldsOf 25).toList = l at hf
  obtain ⟨f1, f2, rfl⟩ := len2r (show l.length = 2 by have := congrArg List.length hf; simpa using this)
  simp only [List.map_cons, List.map_nil, List.cons.injEq, Prod.mk.injEq, and_true] at hf
  obtain ⟨⟨h1, h2, h3⟩, h4, h5, h6⟩ := hf
  have q : ∀ (x y : Int), (Op.equalIn 9999 2 (.int .i64 x) (.int .i64 y)).run Tryd.prog w = .ok (x == y) w := fun x y => run_equalIn_int w 9998 _ _ _ _ _ Tryd.underlying2
  have hp : ∀ (x : Int) (y : Int), (part 2 #[.int .i64 x, .int .i64 y] 0).run Tryd.prog w = .ok (.int .i64 x) w ∧ (part 2 #[.int .i64 x, .int .i64 y] 1).run Tryd.prog w = .ok (.int .i64 y) w :=
    fun x y => ⟨by kernel_rfl, by kernel_rfl⟩
  simp only [Op.eqFields, h1, h2, h3, h4, h5, h6, Sem.run_bind, Sem.run_ite, (hp _ _).1, (hp _ _).2, q, Result.andThen_ok]
  cases e1 : a == c <;> cases e2 : b == d <;> simp_all
theorem eqRatGuard (xs ys : Array Value) (x y : Operand) (w : World) : (eqGuard .eql 25 x y (.agg xs) (.agg ys)).run Tryd.prog w = .ok () w := run_eqGuard_agg w _ _ _ _ _ _ raGuard
end Go.Proofs.YtmmcngdpfikdiaaDoor.kit
