/- An amount taken by a fraction: the program, way 1. No condition. -/
import Derived.Test.YtdanjegnhdpnlaaGreatDoorMyScale
namespace Go.Proofs.YtdanjegnhdpnlaaGreatDoor.kit
open Go.RowKit Go.PlainAid
set_option linter.unusedVariables false

set_option maxRecDepth 100000 in
set_option maxHeartbeats 3200000 in
theorem scale1 (m : Mon) (n d : Int) (w : World) (hc : m.cur.size ≤ maxLen) (hn : I64 n) (hd : I64 d) : Calls Tryz.prog 63 #[.agg #[.string m.cur, .int .i64 m.amt], .agg #[.int .i64 n, .int .i64 d], .int .i64 1] w fun e w' => e = .returned (.tuple #[.agg #[.string (scaleV m n d 1).1.cur, .int .i64 (scaleV m n d 1).1.amt], .bool (scaleV m n d 1).2]) ∧ Below w.heap.size w w' := by
  have HM := Lib.hid (fun w => may_any m w hc)
  have HQ := Lib.hid (fun w => isRatio_any n d w)
  have HN := Lib.hid (fun w => round1 w)
  clear hc
  cases q0 : mayM m
  · have e1 : Hid (scaleV m n d 1 = (noM, false)) := Lib.hid (scale_bad (by rw [q0]; rfl))
    rw [q0] at HM
    have hA0 : Blk (((w.alloc (.cells #[.string m.cur, .int .i64 m.amt] 50)).alloc (.cells #[.int .i64 n, .int .i64 d] 105)).alloc (.cells #[.string ⟨#[]⟩, .int .i64 0] 50)) w.heap.size 50 #[.string m.cur, .int .i64 m.amt] := Blk.more (Blk.more (Blk.new _ _ _) _) _
    have hC0 : Blk (((w.alloc (.cells #[.string m.cur, .int .i64 m.amt] 50)).alloc (.cells #[.int .i64 n, .int .i64 d] 105)).alloc (.cells #[.string ⟨#[]⟩, .int .i64 0] 50)) (w.heap.size + 1) 105 #[.int .i64 n, .int .i64 d] := Blk.more (Blk.newAt _ _ (by simp only [size_alloc])) _
    have hR0 : Blk (((w.alloc (.cells #[.string m.cur, .int .i64 m.amt] 50)).alloc (.cells #[.int .i64 n, .int .i64 d] 105)).alloc (.cells #[.string ⟨#[]⟩, .int .i64 0] 50)) (w.heap.size + 1 + 1) 50 #[.string ⟨#[]⟩, .int .i64 0] := Blk.newAt _ _ (by simp only [size_alloc])
    have hB0 : Below w.heap.size w (((w.alloc (.cells #[.string m.cur, .int .i64 m.amt] 50)).alloc (.cells #[.int .i64 n, .int .i64 d] 105)).alloc (.cells #[.string ⟨#[]⟩, .int .i64 0] 50)) := by
      refine Below.alloc (Below.alloc (Below.alloc (Below.refl _ _) ?_ _) ?_ _) ?_ _
      all_goals (try simp only [size_alloc]); omega
    have a0 := hA0.cell 0; have a1 := hA0.cell 1; have c0 := hC0.cell 0; have c1 := hC0.cell 1
    simp only [List.getElem?_toArray, List.getElem?_cons_zero, List.getElem?_cons_succ] at a0 a1 c0 c1
    have r0 := hR0.cell 0; have r1 := hR0.cell 1; have f0 := hR0.frozen 0; have f1 := hR0.frozen 1
    simp only [List.getElem?_toArray, List.getElem?_cons_zero, List.getElem?_cons_succ] at r0 r1
    clear q0 hn hd
    go_enter Tryz.func63, Tryz.ntmps63
    go_wp2_with fail
    refine (HN.out _).mono ?_
    rintro e w' ⟨rfl, rfl⟩
    go_wp2_with fail
    refine (HM.out _).mono ?_
    rintro e w1 ⟨rfl, hb1⟩
    have hR1 := hR0.below hb1 hR0.lt
    clear r0 r1 f0 f1 hR0
    have hB1 := hB0.trans (hb1.mono hB0.size)
    have hA1 := hA0.below hb1 hA0.lt
    have hC1 := hC0.below hb1 hC0.lt
    clear a0 a1 c0 c1 hB0 hA0 hC0 hb1
    have a0 := hA1.cell 0; have a1 := hA1.cell 1; have c0 := hC1.cell 0; have c1 := hC1.cell 1
    simp only [List.getElem?_toArray, List.getElem?_cons_zero, List.getElem?_cons_succ] at a0 a1 c0 c1
    have r0 := hR1.cell 0; have r1 := hR1.cell 1; have f0 := hR1.frozen 0; have f1 := hR1.frozen 1
    simp only [List.getElem?_toArray, List.getElem?_cons_zero, List.getElem?_cons_succ] at r0 r1
    go_wp2_with (refine stop_store 50 _ _ rfl ?_; refine wpList_store_blk rfl 50 _ _ rfl #[.string noM.cur, .int .i64 noM.amt] rfl rfl hR1 (by kernel_rfl) rfl rfl ?_; intro w9 hR9 hk9 hb9)
    have hB9 := hb9 _ _ hB1 (by omega)
    clear r0 r1 f0 f1
    have r0 := hR9.cell 0; have r1 := hR9.cell 1; have f0 := hR9.frozen 0; have f1 := hR9.frozen 1
    simp only [List.getElem?_toArray, List.getElem?_cons_zero, List.getElem?_cons_succ] at r0 r1
    refine bodyPost_ret (v := .tuple #[.agg #[.string noM.cur, .int .i64 noM.amt], .bool false]) (by simp [results, Tryz.results63, go_sem, r0, r1]) rfl ⟨ret_sb e1.out, hB9⟩
  rw [q0] at HM
  cases q1 : ratB n d
  · have e1 : Hid (scaleV m n d 1 = (noM, false)) := Lib.hid (scale_bad (by rw [q1]; simp))
    rw [q1] at HQ
    have hA0 : Blk (((w.alloc (.cells #[.string m.cur, .int .i64 m.amt] 50)).alloc (.cells #[.int .i64 n, .int .i64 d] 105)).alloc (.cells #[.string ⟨#[]⟩, .int .i64 0] 50)) w.heap.size 50 #[.string m.cur, .int .i64 m.amt] := Blk.more (Blk.more (Blk.new _ _ _) _) _
    have hC0 : Blk (((w.alloc (.cells #[.string m.cur, .int .i64 m.amt] 50)).alloc (.cells #[.int .i64 n, .int .i64 d] 105)).alloc (.cells #[.string ⟨#[]⟩, .int .i64 0] 50)) (w.heap.size + 1) 105 #[.int .i64 n, .int .i64 d] := Blk.more (Blk.newAt _ _ (by simp only [size_alloc])) _
    have hR0 : Blk (((w.alloc (.cells #[.string m.cur, .int .i64 m.amt] 50)).alloc (.cells #[.int .i64 n, .int .i64 d] 105)).alloc (.cells #[.string ⟨#[]⟩, .int .i64 0] 50)) (w.heap.size + 1 + 1) 50 #[.string ⟨#[]⟩, .int .i64 0] := Blk.newAt _ _ (by simp only [size_alloc])
    have hB0 : Below w.heap.size w (((w.alloc (.cells #[.string m.cur, .int .i64 m.amt] 50)).alloc (.cells #[.int .i64 n, .int .i64 d] 105)).alloc (.cells #[.string ⟨#[]⟩, .int .i64 0] 50)) := by
      refine Below.alloc (Below.alloc (Below.alloc (Below.refl _ _) ?_ _) ?_ _) ?_ _
      all_goals (try simp only [size_alloc]); omega
    have a0 := hA0.cell 0; have a1 := hA0.cell 1; have c0 := hC0.cell 0; have c1 := hC0.cell 1
    simp only [List.getElem?_toArray, List.getElem?_cons_zero, List.getElem?_cons_succ] at a0 a1 c0 c1
    have r0 := hR0.cell 0; have r1 := hR0.cell 1; have f0 := hR0.frozen 0; have f1 := hR0.frozen 1
    simp only [List.getElem?_toArray, List.getElem?_cons_zero, List.getElem?_cons_succ] at r0 r1
    clear q0 q1 hn hd
    go_enter Tryz.func63, Tryz.ntmps63
    go_wp2_with fail
    refine (HN.out _).mono ?_
    rintro e w' ⟨rfl, rfl⟩
    go_wp2_with fail
    refine (HM.out _).mono ?_
    rintro e w1 ⟨rfl, hb1⟩
    have hR1 := hR0.below hb1 hR0.lt
    clear r0 r1 f0 f1 hR0
    have hB1 := hB0.trans (hb1.mono hB0.size)
    have hA1 := hA0.below hb1 hA0.lt
    have hC1 := hC0.below hb1 hC0.lt
    clear a0 a1 c0 c1 hB0 hA0 hC0 hb1
    have a0 := hA1.cell 0; have a1 := hA1.cell 1; have c0 := hC1.cell 0; have c1 := hC1.cell 1
    simp only [List.getElem?_toArray, List.getElem?_cons_zero, List.getElem?_cons_succ] at a0 a1 c0 c1
    have r0 := hR1.cell 0; have r1 := hR1.cell 1; have f0 := hR1.frozen 0; have f1 := hR1.frozen 1
    simp only [List.getElem?_toArray, List.getElem?_cons_zero, List.getElem?_cons_succ] at r0 r1
    go_wp2_with fail
    refine (HQ.out _).mono ?_
    rintro e w2 ⟨rfl, hb2⟩
    have hR2 := hR1.below hb2 hR1.lt
    clear r0 r1 f0 f1 hR1
    have hB2 := hB1.trans (hb2.mono hB1.size)
    have hA2 := hA1.below hb2 hA1.lt
    have hC2 := hC1.below hb2 hC1.lt
    clear a0 a1 c0 c1 hB1 hA1 hC1 hb2
    have a0 := hA2.cell 0; have a1 := hA2.cell 1; have c0 := hC2.cell 0; have c1 := hC2.cell 1
    simp only [List.getElem?_toArray, List.getElem?_cons_zero, List.getElem?_cons_succ] at a0 a1 c0 c1
    have r0 := hR2.cell 0; have r1 := hR2.cell 1; have f0 := hR2.frozen 0; have f1 := hR2.frozen 1
    simp only [List.getElem?_toArray, List.getElem?_cons_zero, List.getElem?_cons_succ] at r0 r1
    go_wp2_with (refine stop_store 50 _ _ rfl ?_; refine wpList_store_blk rfl 50 _ _ rfl #[.string noM.cur, .int .i64 noM.amt] rfl rfl hR2 (by kernel_rfl) rfl rfl ?_; intro w9 hR9 hk9 hb9)
    have hB9 := hb9 _ _ hB2 (by omega)
    clear r0 r1 f0 f1
    have r0 := hR9.cell 0; have r1 := hR9.cell 1; have f0 := hR9.frozen 0; have f1 := hR9.frozen 1
    simp only [List.getElem?_toArray, List.getElem?_cons_zero, List.getElem?_cons_succ] at r0 r1
    refine bodyPost_ret (v := .tuple #[.agg #[.string noM.cur, .int .i64 noM.amt], .bool false]) (by simp [results, Tryz.results63, go_sem, r0, r1]) rfl ⟨ret_sb e1.out, hB9⟩
  rw [q1] at HQ
  have hnd : 0 ≤ n ∧ 1 ≤ d := by unfold ratB at q1; simpa using q1
  have hma := (may_iff.1 q0).2
  have hE2 := nil_f
  have HV : scaleV m n d 1 = if scQ 1 m.amt.natAbs n.toNat d.toNat ≤ 1099511627776 then (⟨m.cur, if m.amt < 0 then -(scQ 1 m.amt.natAbs n.toNat d.toNat : Int) else (scQ 1 m.amt.natAbs n.toNat d.toNat : Int)⟩, true) else (noM, false) := by
    unfold scaleV; rw [if_pos (by rw [q0, q1]; rfl)]
  obtain ⟨N, rfl⟩ : ∃ N : Nat, n = N := ⟨n.toNat, by omega⟩
  obtain ⟨D, rfl⟩ : ∃ N : Nat, d = N := ⟨d.toNat, by omega⟩
  unfold I64 at hn hd
  have hN := hn.2
  have hD := hd.2
  have hD1 := hnd.2
  simp only [Int.toNat_natCast] at HV
  obtain ⟨A, hA⟩ : ∃ A, m.amt.natAbs = A := ⟨_, rfl⟩
  have HS := Lib.hid (fun w => size_any m.amt w hma)
  rw [hA] at HV HS
  have hA40 : A ≤ 1099511627776 := by omega
  have hM := Nat.div_add_mod (A * N) 18446744073709551616
  have hl := Nat.mod_lt (A * N) (show 0 < 18446744073709551616 by omega)
  obtain ⟨h, hh⟩ : ∃ h, A * N / 18446744073709551616 = h := ⟨_, rfl⟩
  obtain ⟨l, hll⟩ : ∃ h, A * N % 18446744073709551616 = h := ⟨_, rfl⟩
  have HU := Lib.hid (Tryz.bits_Mul64 A N (by omega) (by omega))
  rw [hh, hll] at HU hM
  rw [hll] at hl
  have hfold : h * 18446744073709551616 + l = A * N := by omega
  have f2 : IntKind.u64.wrap (N : Int) = (N : Int) := u64_id ⟨by omega, by omega⟩
  have f3 : IntKind.u64.wrap (D : Int) = (D : Int) := u64_id ⟨by omega, by omega⟩
  clear hA q0 q1 hma hn hd hnd
  by_cases hhd : h < D
  rotate_left
  · have hbig : 18446744073709551616 ≤ A * N / D := by
      rw [Nat.le_div_iff_mul_le (by omega)]
      have := Nat.mul_le_mul_left 18446744073709551616 (show D ≤ h by omega)
      omega
    have e1 : Hid (scaleV m N D 1 = (noM, false)) := Lib.hid (by rw [HV]; unfold scQ; rw [if_neg (by omega)])
    have g5 : decide ((D : Int) ≤ (h : Int)) = true := decide_eq_true (by omega)
    have g5n : decide (D ≤ h) = true := decide_eq_true (by omega)
    clear HV hM hl hh hll hfold hbig hhd
    have hA0 : Blk (((w.alloc (.cells #[.string m.cur, .int .i64 m.amt] 50)).alloc (.cells #[.int .i64 (N : Int), .int .i64 (D : Int)] 105)).alloc (.cells #[.string ⟨#[]⟩, .int .i64 0] 50)) w.heap.size 50 #[.string m.cur, .int .i64 m.amt] := Blk.more (Blk.more (Blk.new _ _ _) _) _
    have hC0 : Blk (((w.alloc (.cells #[.string m.cur, .int .i64 m.amt] 50)).alloc (.cells #[.int .i64 (N : Int), .int .i64 (D : Int)] 105)).alloc (.cells #[.string ⟨#[]⟩, .int .i64 0] 50)) (w.heap.size + 1) 105 #[.int .i64 (N : Int), .int .i64 (D : Int)] := Blk.more (Blk.newAt _ _ (by simp only [size_alloc])) _
    have hR0 : Blk (((w.alloc (.cells #[.string m.cur, .int .i64 m.amt] 50)).alloc (.cells #[.int .i64 (N : Int), .int .i64 (D : Int)] 105)).alloc (.cells #[.string ⟨#[]⟩, .int .i64 0] 50)) (w.heap.size + 1 + 1) 50 #[.string ⟨#[]⟩, .int .i64 0] := Blk.newAt _ _ (by simp only [size_alloc])
    have hB0 : Below w.heap.size w (((w.alloc (.cells #[.string m.cur, .int .i64 m.amt] 50)).alloc (.cells #[.int .i64 (N : Int), .int .i64 (D : Int)] 105)).alloc (.cells #[.string ⟨#[]⟩, .int .i64 0] 50)) := by
      refine Below.alloc (Below.alloc (Below.alloc (Below.refl _ _) ?_ _) ?_ _) ?_ _
      all_goals (try simp only [size_alloc]); omega
    have a0 := hA0.cell 0; have a1 := hA0.cell 1; have c0 := hC0.cell 0; have c1 := hC0.cell 1
    simp only [List.getElem?_toArray, List.getElem?_cons_zero, List.getElem?_cons_succ] at a0 a1 c0 c1
    have r0 := hR0.cell 0; have r1 := hR0.cell 1; have f0 := hR0.frozen 0; have f1 := hR0.frozen 1
    simp only [List.getElem?_toArray, List.getElem?_cons_zero, List.getElem?_cons_succ] at r0 r1
    go_enter Tryz.func63, Tryz.ntmps63
    go_wp2_with fail
    refine (HN.out _).mono ?_
    rintro e w' ⟨rfl, rfl⟩
    go_wp2_with fail
    refine (HM.out _).mono ?_
    rintro e w1 ⟨rfl, hb1⟩
    have hR1 := hR0.below hb1 hR0.lt
    clear r0 r1 f0 f1 hR0
    have hB1 := hB0.trans (hb1.mono hB0.size)
    have hA1 := hA0.below hb1 hA0.lt
    have hC1 := hC0.below hb1 hC0.lt
    clear a0 a1 c0 c1 hB0 hA0 hC0 hb1
    have a0 := hA1.cell 0; have a1 := hA1.cell 1; have c0 := hC1.cell 0; have c1 := hC1.cell 1
    simp only [List.getElem?_toArray, List.getElem?_cons_zero, List.getElem?_cons_succ] at a0 a1 c0 c1
    have r0 := hR1.cell 0; have r1 := hR1.cell 1; have f0 := hR1.frozen 0; have f1 := hR1.frozen 1
    simp only [List.getElem?_toArray, List.getElem?_cons_zero, List.getElem?_cons_succ] at r0 r1
    go_wp2_with fail
    refine (HQ.out _).mono ?_
    rintro e w2 ⟨rfl, hb2⟩
    have hR2 := hR1.below hb2 hR1.lt
    clear r0 r1 f0 f1 hR1
    have hB2 := hB1.trans (hb2.mono hB1.size)
    have hA2 := hA1.below hb2 hA1.lt
    have hC2 := hC1.below hb2 hC1.lt
    clear a0 a1 c0 c1 hB1 hA1 hC1 hb2
    have a0 := hA2.cell 0; have a1 := hA2.cell 1; have c0 := hC2.cell 0; have c1 := hC2.cell 1
    simp only [List.getElem?_toArray, List.getElem?_cons_zero, List.getElem?_cons_succ] at a0 a1 c0 c1
    have r0 := hR2.cell 0; have r1 := hR2.cell 1; have f0 := hR2.frozen 0; have f1 := hR2.frozen 1
    simp only [List.getElem?_toArray, List.getElem?_cons_zero, List.getElem?_cons_succ] at r0 r1
    go_wp2_with fail
    go_quiet ((first | (go_at_call 86; exact Calls.quiet_of_same ((HS.out _).mono fun _ _ h => ⟨h.1, h.2.symm⟩)) | (go_at_call 85; exact Calls.quiet_of_same ((HU.out _).mono fun _ _ h => ⟨h.1, h.2⟩))))
    have hB3 := below_drewN hB2 nq
    have hA3 := hA2.drewN nq
    have hC3 := hC2.drewN nq
    have hR3 := hR2.drewN nq
    clear a0 a1 c0 c1 r0 r1 f0 f1
    have a0 := hA3.cell 0; have a1 := hA3.cell 1; have c0 := hC3.cell 0; have c1 := hC3.cell 1
    simp only [List.getElem?_toArray, List.getElem?_cons_zero, List.getElem?_cons_succ] at a0 a1 c0 c1
    have r0 := hR3.cell 0; have r1 := hR3.cell 1; have f0 := hR3.frozen 0; have f1 := hR3.frozen 1
    simp only [List.getElem?_toArray, List.getElem?_cons_zero, List.getElem?_cons_succ] at r0 r1
    go_wp2_with (refine stop_store 50 _ _ rfl ?_; refine wpList_store_blk rfl 50 _ _ rfl #[.string noM.cur, .int .i64 noM.amt] rfl rfl hR3 (by kernel_rfl) rfl rfl ?_; intro w9 hR9 hk9 hb9)
    have hB9 := hb9 _ _ hB3 (by omega)
    clear r0 r1 f0 f1
    have r0 := hR9.cell 0; have r1 := hR9.cell 1; have f0 := hR9.frozen 0; have f1 := hR9.frozen 1
    simp only [List.getElem?_toArray, List.getElem?_cons_zero, List.getElem?_cons_succ] at r0 r1
    refine bodyPost_ret (v := .tuple #[.agg #[.string noM.cur, .int .i64 noM.amt], .bool false]) (by simp [results, Tryz.results63, go_sem, r0, r1]) rfl ⟨ret_sb e1.out, hB9⟩
  have HD := Lib.hid (div64_any h l D hhd hl (by omega))
  rw [hfold] at HD
  obtain ⟨Q, hQ⟩ : ∃ q, A * N / D = q := ⟨_, rfl⟩
  obtain ⟨R, hR⟩ : ∃ q, A * N % D = q := ⟨_, rfl⟩
  have hRD : R < D := by rw [← hR]; exact Nat.mod_lt _ (by omega)
  have HSC : Hid (scQ 1 A N D = Q + (if moreB 1 R D = true then 1 else 0)) := Lib.hid (by unfold scQ; rw [hQ, hR])
  rw [hQ, hR] at HD
  have g5 : decide ((D : Int) ≤ (h : Int)) = false := decide_eq_false (by omega)
  have g5n : decide (D ≤ h) = false := decide_eq_false (by omega)
  clear hM hl hh hll hfold hhd hQ hR
  by_cases hq : 1099511627776 < Q
  · have e1 : Hid (scaleV m N D 1 = (noM, false)) := Lib.hid (by rw [HV, HSC.out, if_neg (by omega)])
    have g6 : decide ((1099511627776 : Int) < (Q : Int)) = true := decide_eq_true (by omega)
    have g6n : decide (1099511627776 < Q) = true := decide_eq_true hq
    clear HV hq
    have hA0 : Blk (((w.alloc (.cells #[.string m.cur, .int .i64 m.amt] 50)).alloc (.cells #[.int .i64 (N : Int), .int .i64 (D : Int)] 105)).alloc (.cells #[.string ⟨#[]⟩, .int .i64 0] 50)) w.heap.size 50 #[.string m.cur, .int .i64 m.amt] := Blk.more (Blk.more (Blk.new _ _ _) _) _
    have hC0 : Blk (((w.alloc (.cells #[.string m.cur, .int .i64 m.amt] 50)).alloc (.cells #[.int .i64 (N : Int), .int .i64 (D : Int)] 105)).alloc (.cells #[.string ⟨#[]⟩, .int .i64 0] 50)) (w.heap.size + 1) 105 #[.int .i64 (N : Int), .int .i64 (D : Int)] := Blk.more (Blk.newAt _ _ (by simp only [size_alloc])) _
    have hR0 : Blk (((w.alloc (.cells #[.string m.cur, .int .i64 m.amt] 50)).alloc (.cells #[.int .i64 (N : Int), .int .i64 (D : Int)] 105)).alloc (.cells #[.string ⟨#[]⟩, .int .i64 0] 50)) (w.heap.size + 1 + 1) 50 #[.string ⟨#[]⟩, .int .i64 0] := Blk.newAt _ _ (by simp only [size_alloc])
    have hB0 : Below w.heap.size w (((w.alloc (.cells #[.string m.cur, .int .i64 m.amt] 50)).alloc (.cells #[.int .i64 (N : Int), .int .i64 (D : Int)] 105)).alloc (.cells #[.string ⟨#[]⟩, .int .i64 0] 50)) := by
      refine Below.alloc (Below.alloc (Below.alloc (Below.refl _ _) ?_ _) ?_ _) ?_ _
      all_goals (try simp only [size_alloc]); omega
    have a0 := hA0.cell 0; have a1 := hA0.cell 1; have c0 := hC0.cell 0; have c1 := hC0.cell 1
    simp only [List.getElem?_toArray, List.getElem?_cons_zero, List.getElem?_cons_succ] at a0 a1 c0 c1
    have r0 := hR0.cell 0; have r1 := hR0.cell 1; have f0 := hR0.frozen 0; have f1 := hR0.frozen 1
    simp only [List.getElem?_toArray, List.getElem?_cons_zero, List.getElem?_cons_succ] at r0 r1
    go_enter Tryz.func63, Tryz.ntmps63
    go_wp2_with fail
    refine (HN.out _).mono ?_
    rintro e w' ⟨rfl, rfl⟩
    go_wp2_with fail
    refine (HM.out _).mono ?_
    rintro e w1 ⟨rfl, hb1⟩
    have hR1 := hR0.below hb1 hR0.lt
    clear r0 r1 f0 f1 hR0
    have hB1 := hB0.trans (hb1.mono hB0.size)
    have hA1 := hA0.below hb1 hA0.lt
    have hC1 := hC0.below hb1 hC0.lt
    clear a0 a1 c0 c1 hB0 hA0 hC0 hb1
    have a0 := hA1.cell 0; have a1 := hA1.cell 1; have c0 := hC1.cell 0; have c1 := hC1.cell 1
    simp only [List.getElem?_toArray, List.getElem?_cons_zero, List.getElem?_cons_succ] at a0 a1 c0 c1
    have r0 := hR1.cell 0; have r1 := hR1.cell 1; have f0 := hR1.frozen 0; have f1 := hR1.frozen 1
    simp only [List.getElem?_toArray, List.getElem?_cons_zero, List.getElem?_cons_succ] at r0 r1
    go_wp2_with fail
    refine (HQ.out _).mono ?_
    rintro e w2 ⟨rfl, hb2⟩
    have hR2 := hR1.below hb2 hR1.lt
    clear r0 r1 f0 f1 hR1
    have hB2 := hB1.trans (hb2.mono hB1.size)
    have hA2 := hA1.below hb2 hA1.lt
    have hC2 := hC1.below hb2 hC1.lt
    clear a0 a1 c0 c1 hB1 hA1 hC1 hb2
    have a0 := hA2.cell 0; have a1 := hA2.cell 1; have c0 := hC2.cell 0; have c1 := hC2.cell 1
    simp only [List.getElem?_toArray, List.getElem?_cons_zero, List.getElem?_cons_succ] at a0 a1 c0 c1
    have r0 := hR2.cell 0; have r1 := hR2.cell 1; have f0 := hR2.frozen 0; have f1 := hR2.frozen 1
    simp only [List.getElem?_toArray, List.getElem?_cons_zero, List.getElem?_cons_succ] at r0 r1
    go_wp2_with fail
    go_quiet ((first | (go_at_call 86; exact Calls.quiet_of_same ((HS.out _).mono fun _ _ h => ⟨h.1, h.2.symm⟩)) | (go_at_call 85; exact Calls.quiet_of_same ((HU.out _).mono fun _ _ h => ⟨h.1, h.2⟩))))
    have hB3 := below_drewN hB2 nq
    have hA3 := hA2.drewN nq
    have hC3 := hC2.drewN nq
    have hR3 := hR2.drewN nq
    clear a0 a1 c0 c1 r0 r1 f0 f1
    have a0 := hA3.cell 0; have a1 := hA3.cell 1; have c0 := hC3.cell 0; have c1 := hC3.cell 1
    simp only [List.getElem?_toArray, List.getElem?_cons_zero, List.getElem?_cons_succ] at a0 a1 c0 c1
    have r0 := hR3.cell 0; have r1 := hR3.cell 1; have f0 := hR3.frozen 0; have f1 := hR3.frozen 1
    simp only [List.getElem?_toArray, List.getElem?_cons_zero, List.getElem?_cons_succ] at r0 r1
    go_wp2_with fail
    refine (HD.out _).mono ?_
    rintro e w4 ⟨rfl, hb4⟩
    have hR4 := hR3.below hb4 hR3.lt
    clear r0 r1 f0 f1 hR3
    have hB4 := hB3.trans (hb4.mono hB3.size)
    have hA4 := hA3.below hb4 hA3.lt
    have hC4 := hC3.below hb4 hC3.lt
    clear a0 a1 c0 c1 hB3 hA3 hC3 hb4
    have a0 := hA4.cell 0; have a1 := hA4.cell 1; have c0 := hC4.cell 0; have c1 := hC4.cell 1
    simp only [List.getElem?_toArray, List.getElem?_cons_zero, List.getElem?_cons_succ] at a0 a1 c0 c1
    have r0 := hR4.cell 0; have r1 := hR4.cell 1; have f0 := hR4.frozen 0; have f1 := hR4.frozen 1
    simp only [List.getElem?_toArray, List.getElem?_cons_zero, List.getElem?_cons_succ] at r0 r1
    go_wp2_with (refine stop_store 50 _ _ rfl ?_; refine wpList_store_blk rfl 50 _ _ rfl #[.string noM.cur, .int .i64 noM.amt] rfl rfl hR4 (by kernel_rfl) rfl rfl ?_; intro w9 hR9 hk9 hb9)
    have hB9 := hb9 _ _ hB4 (by omega)
    clear r0 r1 f0 f1
    have r0 := hR9.cell 0; have r1 := hR9.cell 1; have f0 := hR9.frozen 0; have f1 := hR9.frozen 1
    simp only [List.getElem?_toArray, List.getElem?_cons_zero, List.getElem?_cons_succ] at r0 r1
    refine bodyPost_ret (v := .tuple #[.agg #[.string noM.cur, .int .i64 noM.amt], .bool false]) (by simp [results, Tryz.results63, go_sem, r0, r1]) rfl ⟨ret_sb e1.out, hB9⟩
  have g6 : decide ((1099511627776 : Int) < (Q : Int)) = false := decide_eq_false (by omega)
  have g6n : decide (1099511627776 < Q) = false := decide_eq_false hq
  have HMO := Lib.hid (fun w => more1 R D w)
  obtain ⟨X, hX⟩ : ∃ X, moreB 1 R D = X := ⟨_, rfl⟩
  rw [hX] at HMO HSC
  cases X
  · have hs : scQ 1 A N D = Q := by rw [HSC.out]; simp
    rw [hs, if_pos (by omega)] at HV
    have w1 : IntKind.i64.wrap (Q : Int) = (Q : Int) := i64_id ⟨by omega, by omega⟩
    have w2 : wrap64 (-(Q : Int)) = -(Q : Int) := w64_id ⟨by omega, by omega⟩
    by_cases hneg : m.amt < 0
    · have e1 : Hid (scaleV m N D 1 = (⟨m.cur, -(Q : Int)⟩, true)) := Lib.hid (by rw [HV, if_pos hneg])
      clear HV hX HSC hs
      have hA0 : Blk (((w.alloc (.cells #[.string m.cur, .int .i64 m.amt] 50)).alloc (.cells #[.int .i64 (N : Int), .int .i64 (D : Int)] 105)).alloc (.cells #[.string ⟨#[]⟩, .int .i64 0] 50)) w.heap.size 50 #[.string m.cur, .int .i64 m.amt] := Blk.more (Blk.more (Blk.new _ _ _) _) _
      have hC0 : Blk (((w.alloc (.cells #[.string m.cur, .int .i64 m.amt] 50)).alloc (.cells #[.int .i64 (N : Int), .int .i64 (D : Int)] 105)).alloc (.cells #[.string ⟨#[]⟩, .int .i64 0] 50)) (w.heap.size + 1) 105 #[.int .i64 (N : Int), .int .i64 (D : Int)] := Blk.more (Blk.newAt _ _ (by simp only [size_alloc])) _
      have hR0 : Blk (((w.alloc (.cells #[.string m.cur, .int .i64 m.amt] 50)).alloc (.cells #[.int .i64 (N : Int), .int .i64 (D : Int)] 105)).alloc (.cells #[.string ⟨#[]⟩, .int .i64 0] 50)) (w.heap.size + 1 + 1) 50 #[.string ⟨#[]⟩, .int .i64 0] := Blk.newAt _ _ (by simp only [size_alloc])
      have hB0 : Below w.heap.size w (((w.alloc (.cells #[.string m.cur, .int .i64 m.amt] 50)).alloc (.cells #[.int .i64 (N : Int), .int .i64 (D : Int)] 105)).alloc (.cells #[.string ⟨#[]⟩, .int .i64 0] 50)) := by
        refine Below.alloc (Below.alloc (Below.alloc (Below.refl _ _) ?_ _) ?_ _) ?_ _
        all_goals (try simp only [size_alloc]); omega
      have a0 := hA0.cell 0; have a1 := hA0.cell 1; have c0 := hC0.cell 0; have c1 := hC0.cell 1
      simp only [List.getElem?_toArray, List.getElem?_cons_zero, List.getElem?_cons_succ] at a0 a1 c0 c1
      have r0 := hR0.cell 0; have r1 := hR0.cell 1; have f0 := hR0.frozen 0; have f1 := hR0.frozen 1
      simp only [List.getElem?_toArray, List.getElem?_cons_zero, List.getElem?_cons_succ] at r0 r1
      go_enter Tryz.func63, Tryz.ntmps63
      go_wp2_with fail
      refine (HN.out _).mono ?_
      rintro e w' ⟨rfl, rfl⟩
      go_wp2_with fail
      refine (HM.out _).mono ?_
      rintro e w1 ⟨rfl, hb1⟩
      have hR1 := hR0.below hb1 hR0.lt
      clear r0 r1 f0 f1 hR0
      have hB1 := hB0.trans (hb1.mono hB0.size)
      have hA1 := hA0.below hb1 hA0.lt
      have hC1 := hC0.below hb1 hC0.lt
      clear a0 a1 c0 c1 hB0 hA0 hC0 hb1
      have a0 := hA1.cell 0; have a1 := hA1.cell 1; have c0 := hC1.cell 0; have c1 := hC1.cell 1
      simp only [List.getElem?_toArray, List.getElem?_cons_zero, List.getElem?_cons_succ] at a0 a1 c0 c1
      have r0 := hR1.cell 0; have r1 := hR1.cell 1; have f0 := hR1.frozen 0; have f1 := hR1.frozen 1
      simp only [List.getElem?_toArray, List.getElem?_cons_zero, List.getElem?_cons_succ] at r0 r1
      go_wp2_with fail
      refine (HQ.out _).mono ?_
      rintro e w2 ⟨rfl, hb2⟩
      have hR2 := hR1.below hb2 hR1.lt
      clear r0 r1 f0 f1 hR1
      have hB2 := hB1.trans (hb2.mono hB1.size)
      have hA2 := hA1.below hb2 hA1.lt
      have hC2 := hC1.below hb2 hC1.lt
      clear a0 a1 c0 c1 hB1 hA1 hC1 hb2
      have a0 := hA2.cell 0; have a1 := hA2.cell 1; have c0 := hC2.cell 0; have c1 := hC2.cell 1
      simp only [List.getElem?_toArray, List.getElem?_cons_zero, List.getElem?_cons_succ] at a0 a1 c0 c1
      have r0 := hR2.cell 0; have r1 := hR2.cell 1; have f0 := hR2.frozen 0; have f1 := hR2.frozen 1
      simp only [List.getElem?_toArray, List.getElem?_cons_zero, List.getElem?_cons_succ] at r0 r1
      go_wp2_with fail
      go_quiet ((first | (go_at_call 86; exact Calls.quiet_of_same ((HS.out _).mono fun _ _ h => ⟨h.1, h.2.symm⟩)) | (go_at_call 85; exact Calls.quiet_of_same ((HU.out _).mono fun _ _ h => ⟨h.1, h.2⟩))))
      have hB3 := below_drewN hB2 nq
      have hA3 := hA2.drewN nq
      have hC3 := hC2.drewN nq
      have hR3 := hR2.drewN nq
      clear a0 a1 c0 c1 r0 r1 f0 f1
      have a0 := hA3.cell 0; have a1 := hA3.cell 1; have c0 := hC3.cell 0; have c1 := hC3.cell 1
      simp only [List.getElem?_toArray, List.getElem?_cons_zero, List.getElem?_cons_succ] at a0 a1 c0 c1
      have r0 := hR3.cell 0; have r1 := hR3.cell 1; have f0 := hR3.frozen 0; have f1 := hR3.frozen 1
      simp only [List.getElem?_toArray, List.getElem?_cons_zero, List.getElem?_cons_succ] at r0 r1
      go_wp2_with fail
      refine (HD.out _).mono ?_
      rintro e w4 ⟨rfl, hb4⟩
      have hR4 := hR3.below hb4 hR3.lt
      clear r0 r1 f0 f1 hR3
      have hB4 := hB3.trans (hb4.mono hB3.size)
      have hA4 := hA3.below hb4 hA3.lt
      have hC4 := hC3.below hb4 hC3.lt
      clear a0 a1 c0 c1 hB3 hA3 hC3 hb4
      have a0 := hA4.cell 0; have a1 := hA4.cell 1; have c0 := hC4.cell 0; have c1 := hC4.cell 1
      simp only [List.getElem?_toArray, List.getElem?_cons_zero, List.getElem?_cons_succ] at a0 a1 c0 c1
      have r0 := hR4.cell 0; have r1 := hR4.cell 1; have f0 := hR4.frozen 0; have f1 := hR4.frozen 1
      simp only [List.getElem?_toArray, List.getElem?_cons_zero, List.getElem?_cons_succ] at r0 r1
      go_wp2_with fail
      refine (HMO.out _).mono ?_
      rintro e w' ⟨rfl, rfl⟩
      go_wp2_with (refine stop_store 50 _ _ rfl ?_; refine wpList_store_blk rfl 50 _ _ rfl #[.string (Mon.mk m.cur (-(Q : Int))).cur, .int .i64 (Mon.mk m.cur (-(Q : Int))).amt] rfl rfl hR4 (by kernel_rfl) rfl rfl ?_; intro w9 hR9 hk9 hb9)
      have hB9 := hb9 _ _ hB4 (by omega)
      clear r0 r1 f0 f1
      have r0 := hR9.cell 0; have r1 := hR9.cell 1; have f0 := hR9.frozen 0; have f1 := hR9.frozen 1
      simp only [List.getElem?_toArray, List.getElem?_cons_zero, List.getElem?_cons_succ] at r0 r1
      refine bodyPost_ret (v := .tuple #[.agg #[.string (Mon.mk m.cur (-(Q : Int))).cur, .int .i64 (Mon.mk m.cur (-(Q : Int))).amt], .bool true]) (by simp [results, Tryz.results63, go_sem, r0, r1]) rfl ⟨ret_sb e1.out, hB9⟩
    · have e1 : Hid (scaleV m N D 1 = (⟨m.cur, (Q : Int)⟩, true)) := Lib.hid (by rw [HV, if_neg hneg])
      clear HV hX HSC hs
      have hA0 : Blk (((w.alloc (.cells #[.string m.cur, .int .i64 m.amt] 50)).alloc (.cells #[.int .i64 (N : Int), .int .i64 (D : Int)] 105)).alloc (.cells #[.string ⟨#[]⟩, .int .i64 0] 50)) w.heap.size 50 #[.string m.cur, .int .i64 m.amt] := Blk.more (Blk.more (Blk.new _ _ _) _) _
      have hC0 : Blk (((w.alloc (.cells #[.string m.cur, .int .i64 m.amt] 50)).alloc (.cells #[.int .i64 (N : Int), .int .i64 (D : Int)] 105)).alloc (.cells #[.string ⟨#[]⟩, .int .i64 0] 50)) (w.heap.size + 1) 105 #[.int .i64 (N : Int), .int .i64 (D : Int)] := Blk.more (Blk.newAt _ _ (by simp only [size_alloc])) _
      have hR0 : Blk (((w.alloc (.cells #[.string m.cur, .int .i64 m.amt] 50)).alloc (.cells #[.int .i64 (N : Int), .int .i64 (D : Int)] 105)).alloc (.cells #[.string ⟨#[]⟩, .int .i64 0] 50)) (w.heap.size + 1 + 1) 50 #[.string ⟨#[]⟩, .int .i64 0] := Blk.newAt _ _ (by simp only [size_alloc])
      have hB0 : Below w.heap.size w (((w.alloc (.cells #[.string m.cur, .int .i64 m.amt] 50)).alloc (.cells #[.int .i64 (N : Int), .int .i64 (D : Int)] 105)).alloc (.cells #[.string ⟨#[]⟩, .int .i64 0] 50)) := by
        refine Below.alloc (Below.alloc (Below.alloc (Below.refl _ _) ?_ _) ?_ _) ?_ _
        all_goals (try simp only [size_alloc]); omega
      have a0 := hA0.cell 0; have a1 := hA0.cell 1; have c0 := hC0.cell 0; have c1 := hC0.cell 1
      simp only [List.getElem?_toArray, List.getElem?_cons_zero, List.getElem?_cons_succ] at a0 a1 c0 c1
      have r0 := hR0.cell 0; have r1 := hR0.cell 1; have f0 := hR0.frozen 0; have f1 := hR0.frozen 1
      simp only [List.getElem?_toArray, List.getElem?_cons_zero, List.getElem?_cons_succ] at r0 r1
      go_enter Tryz.func63, Tryz.ntmps63
      go_wp2_with fail
      refine (HN.out _).mono ?_
      rintro e w' ⟨rfl, rfl⟩
      go_wp2_with fail
      refine (HM.out _).mono ?_
      rintro e w1 ⟨rfl, hb1⟩
      have hR1 := hR0.below hb1 hR0.lt
      clear r0 r1 f0 f1 hR0
      have hB1 := hB0.trans (hb1.mono hB0.size)
      have hA1 := hA0.below hb1 hA0.lt
      have hC1 := hC0.below hb1 hC0.lt
      clear a0 a1 c0 c1 hB0 hA0 hC0 hb1
      have a0 := hA1.cell 0; have a1 := hA1.cell 1; have c0 := hC1.cell 0; have c1 := hC1.cell 1
      simp only [List.getElem?_toArray, List.getElem?_cons_zero, List.getElem?_cons_succ] at a0 a1 c0 c1
      have r0 := hR1.cell 0; have r1 := hR1.cell 1; have f0 := hR1.frozen 0; have f1 := hR1.frozen 1
      simp only [List.getElem?_toArray, List.getElem?_cons_zero, List.getElem?_cons_succ] at r0 r1
      go_wp2_with fail
      refine (HQ.out _).mono ?_
      rintro e w2 ⟨rfl, hb2⟩
      have hR2 := hR1.below hb2 hR1.lt
      clear r0 r1 f0 f1 hR1
      have hB2 := hB1.trans (hb2.mono hB1.size)
      have hA2 := hA1.below hb2 hA1.lt
      have hC2 := hC1.below hb2 hC1.lt
      clear a0 a1 c0 c1 hB1 hA1 hC1 hb2
      have a0 := hA2.cell 0; have a1 := hA2.cell 1; have c0 := hC2.cell 0; have c1 := hC2.cell 1
      simp only [List.getElem?_toArray, List.getElem?_cons_zero, List.getElem?_cons_succ] at a0 a1 c0 c1
      have r0 := hR2.cell 0; have r1 := hR2.cell 1; have f0 := hR2.frozen 0; have f1 := hR2.frozen 1
      simp only [List.getElem?_toArray, List.getElem?_cons_zero, List.getElem?_cons_succ] at r0 r1
      go_wp2_with fail
      go_quiet ((first | (go_at_call 86; exact Calls.quiet_of_same ((HS.out _).mono fun _ _ h => ⟨h.1, h.2.symm⟩)) | (go_at_call 85; exact Calls.quiet_of_same ((HU.out _).mono fun _ _ h => ⟨h.1, h.2⟩))))
      have hB3 := below_drewN hB2 nq
      have hA3 := hA2.drewN nq
      have hC3 := hC2.drewN nq
      have hR3 := hR2.drewN nq
      clear a0 a1 c0 c1 r0 r1 f0 f1
      have a0 := hA3.cell 0; have a1 := hA3.cell 1; have c0 := hC3.cell 0; have c1 := hC3.cell 1
      simp only [List.getElem?_toArray, List.getElem?_cons_zero, List.getElem?_cons_succ] at a0 a1 c0 c1
      have r0 := hR3.cell 0; have r1 := hR3.cell 1; have f0 := hR3.frozen 0; have f1 := hR3.frozen 1
      simp only [List.getElem?_toArray, List.getElem?_cons_zero, List.getElem?_cons_succ] at r0 r1
      go_wp2_with fail
      refine (HD.out _).mono ?_
      rintro e w4 ⟨rfl, hb4⟩
      have hR4 := hR3.below hb4 hR3.lt
      clear r0 r1 f0 f1 hR3
      have hB4 := hB3.trans (hb4.mono hB3.size)
      have hA4 := hA3.below hb4 hA3.lt
      have hC4 := hC3.below hb4 hC3.lt
      clear a0 a1 c0 c1 hB3 hA3 hC3 hb4
      have a0 := hA4.cell 0; have a1 := hA4.cell 1; have c0 := hC4.cell 0; have c1 := hC4.cell 1
      simp only [List.getElem?_toArray, List.getElem?_cons_zero, List.getElem?_cons_succ] at a0 a1 c0 c1
      have r0 := hR4.cell 0; have r1 := hR4.cell 1; have f0 := hR4.frozen 0; have f1 := hR4.frozen 1
      simp only [List.getElem?_toArray, List.getElem?_cons_zero, List.getElem?_cons_succ] at r0 r1
      go_wp2_with fail
      refine (HMO.out _).mono ?_
      rintro e w' ⟨rfl, rfl⟩
      go_wp2_with (refine stop_store 50 _ _ rfl ?_; refine wpList_store_blk rfl 50 _ _ rfl #[.string (Mon.mk m.cur (Q : Int)).cur, .int .i64 (Mon.mk m.cur (Q : Int)).amt] rfl rfl hR4 (by kernel_rfl) rfl rfl ?_; intro w9 hR9 hk9 hb9)
      have hB9 := hb9 _ _ hB4 (by omega)
      clear r0 r1 f0 f1
      have r0 := hR9.cell 0; have r1 := hR9.cell 1; have f0 := hR9.frozen 0; have f1 := hR9.frozen 1
      simp only [List.getElem?_toArray, List.getElem?_cons_zero, List.getElem?_cons_succ] at r0 r1
      refine bodyPost_ret (v := .tuple #[.agg #[.string (Mon.mk m.cur (Q : Int)).cur, .int .i64 (Mon.mk m.cur (Q : Int)).amt], .bool true]) (by simp [results, Tryz.results63, go_sem, r0, r1]) rfl ⟨ret_sb e1.out, hB9⟩
  · have hs : scQ 1 A N D = Q + 1 := by rw [HSC.out]; simp
    rw [hs] at HV
    have w0 : IntKind.u64.wrap ((Q : Int) + 1) = (Q : Int) + 1 := u64_id ⟨by omega, by omega⟩
    by_cases hq2 : 1099511627776 < Q + 1
    · have e1 : Hid (scaleV m N D 1 = (noM, false)) := Lib.hid (by rw [HV, if_neg (by omega)])
      have g7 : decide ((1099511627776 : Int) < (Q : Int) + 1) = true := decide_eq_true (by omega)
      clear HV hX HSC hs
      have hA0 : Blk (((w.alloc (.cells #[.string m.cur, .int .i64 m.amt] 50)).alloc (.cells #[.int .i64 (N : Int), .int .i64 (D : Int)] 105)).alloc (.cells #[.string ⟨#[]⟩, .int .i64 0] 50)) w.heap.size 50 #[.string m.cur, .int .i64 m.amt] := Blk.more (Blk.more (Blk.new _ _ _) _) _
      have hC0 : Blk (((w.alloc (.cells #[.string m.cur, .int .i64 m.amt] 50)).alloc (.cells #[.int .i64 (N : Int), .int .i64 (D : Int)] 105)).alloc (.cells #[.string ⟨#[]⟩, .int .i64 0] 50)) (w.heap.size + 1) 105 #[.int .i64 (N : Int), .int .i64 (D : Int)] := Blk.more (Blk.newAt _ _ (by simp only [size_alloc])) _
      have hR0 : Blk (((w.alloc (.cells #[.string m.cur, .int .i64 m.amt] 50)).alloc (.cells #[.int .i64 (N : Int), .int .i64 (D : Int)] 105)).alloc (.cells #[.string ⟨#[]⟩, .int .i64 0] 50)) (w.heap.size + 1 + 1) 50 #[.string ⟨#[]⟩, .int .i64 0] := Blk.newAt _ _ (by simp only [size_alloc])
      have hB0 : Below w.heap.size w (((w.alloc (.cells #[.string m.cur, .int .i64 m.amt] 50)).alloc (.cells #[.int .i64 (N : Int), .int .i64 (D : Int)] 105)).alloc (.cells #[.string ⟨#[]⟩, .int .i64 0] 50)) := by
        refine Below.alloc (Below.alloc (Below.alloc (Below.refl _ _) ?_ _) ?_ _) ?_ _
        all_goals (try simp only [size_alloc]); omega
      have a0 := hA0.cell 0; have a1 := hA0.cell 1; have c0 := hC0.cell 0; have c1 := hC0.cell 1
      simp only [List.getElem?_toArray, List.getElem?_cons_zero, List.getElem?_cons_succ] at a0 a1 c0 c1
      have r0 := hR0.cell 0; have r1 := hR0.cell 1; have f0 := hR0.frozen 0; have f1 := hR0.frozen 1
      simp only [List.getElem?_toArray, List.getElem?_cons_zero, List.getElem?_cons_succ] at r0 r1
      go_enter Tryz.func63, Tryz.ntmps63
      go_wp2_with fail
      refine (HN.out _).mono ?_
      rintro e w' ⟨rfl, rfl⟩
      go_wp2_with fail
      refine (HM.out _).mono ?_
      rintro e w1 ⟨rfl, hb1⟩
      have hR1 := hR0.below hb1 hR0.lt
      clear r0 r1 f0 f1 hR0
      have hB1 := hB0.trans (hb1.mono hB0.size)
      have hA1 := hA0.below hb1 hA0.lt
      have hC1 := hC0.below hb1 hC0.lt
      clear a0 a1 c0 c1 hB0 hA0 hC0 hb1
      have a0 := hA1.cell 0; have a1 := hA1.cell 1; have c0 := hC1.cell 0; have c1 := hC1.cell 1
      simp only [List.getElem?_toArray, List.getElem?_cons_zero, List.getElem?_cons_succ] at a0 a1 c0 c1
      have r0 := hR1.cell 0; have r1 := hR1.cell 1; have f0 := hR1.frozen 0; have f1 := hR1.frozen 1
      simp only [List.getElem?_toArray, List.getElem?_cons_zero, List.getElem?_cons_succ] at r0 r1
      go_wp2_with fail
      refine (HQ.out _).mono ?_
      rintro e w2 ⟨rfl, hb2⟩
      have hR2 := hR1.below hb2 hR1.lt
      clear r0 r1 f0 f1 hR1
      have hB2 := hB1.trans (hb2.mono hB1.size)
      have hA2 := hA1.below hb2 hA1.lt
      have hC2 := hC1.below hb2 hC1.lt
      clear a0 a1 c0 c1 hB1 hA1 hC1 hb2
      have a0 := hA2.cell 0; have a1 := hA2.cell 1; have c0 := hC2.cell 0; have c1 := hC2.cell 1
      simp only [List.getElem?_toArray, List.getElem?_cons_zero, List.getElem?_cons_succ] at a0 a1 c0 c1
      have r0 := hR2.cell 0; have r1 := hR2.cell 1; have f0 := hR2.frozen 0; have f1 := hR2.frozen 1
      simp only [List.getElem?_toArray, List.getElem?_cons_zero, List.getElem?_cons_succ] at r0 r1
      go_wp2_with fail
      go_quiet ((first | (go_at_call 86; exact Calls.quiet_of_same ((HS.out _).mono fun _ _ h => ⟨h.1, h.2.symm⟩)) | (go_at_call 85; exact Calls.quiet_of_same ((HU.out _).mono fun _ _ h => ⟨h.1, h.2⟩))))
      have hB3 := below_drewN hB2 nq
      have hA3 := hA2.drewN nq
      have hC3 := hC2.drewN nq
      have hR3 := hR2.drewN nq
      clear a0 a1 c0 c1 r0 r1 f0 f1
      have a0 := hA3.cell 0; have a1 := hA3.cell 1; have c0 := hC3.cell 0; have c1 := hC3.cell 1
      simp only [List.getElem?_toArray, List.getElem?_cons_zero, List.getElem?_cons_succ] at a0 a1 c0 c1
      have r0 := hR3.cell 0; have r1 := hR3.cell 1; have f0 := hR3.frozen 0; have f1 := hR3.frozen 1
      simp only [List.getElem?_toArray, List.getElem?_cons_zero, List.getElem?_cons_succ] at r0 r1
      go_wp2_with fail
      refine (HD.out _).mono ?_
      rintro e w4 ⟨rfl, hb4⟩
      have hR4 := hR3.below hb4 hR3.lt
      clear r0 r1 f0 f1 hR3
      have hB4 := hB3.trans (hb4.mono hB3.size)
      have hA4 := hA3.below hb4 hA3.lt
      have hC4 := hC3.below hb4 hC3.lt
      clear a0 a1 c0 c1 hB3 hA3 hC3 hb4
      have a0 := hA4.cell 0; have a1 := hA4.cell 1; have c0 := hC4.cell 0; have c1 := hC4.cell 1
      simp only [List.getElem?_toArray, List.getElem?_cons_zero, List.getElem?_cons_succ] at a0 a1 c0 c1
      have r0 := hR4.cell 0; have r1 := hR4.cell 1; have f0 := hR4.frozen 0; have f1 := hR4.frozen 1
      simp only [List.getElem?_toArray, List.getElem?_cons_zero, List.getElem?_cons_succ] at r0 r1
      go_wp2_with fail
      refine (HMO.out _).mono ?_
      rintro e w' ⟨rfl, rfl⟩
      go_wp2_with (refine stop_store 50 _ _ rfl ?_; refine wpList_store_blk rfl 50 _ _ rfl #[.string noM.cur, .int .i64 noM.amt] rfl rfl hR4 (by kernel_rfl) rfl rfl ?_; intro w9 hR9 hk9 hb9)
      have hB9 := hb9 _ _ hB4 (by omega)
      clear r0 r1 f0 f1
      have r0 := hR9.cell 0; have r1 := hR9.cell 1; have f0 := hR9.frozen 0; have f1 := hR9.frozen 1
      simp only [List.getElem?_toArray, List.getElem?_cons_zero, List.getElem?_cons_succ] at r0 r1
      refine bodyPost_ret (v := .tuple #[.agg #[.string noM.cur, .int .i64 noM.amt], .bool false]) (by simp [results, Tryz.results63, go_sem, r0, r1]) rfl ⟨ret_sb e1.out, hB9⟩
    have g7 : decide ((1099511627776 : Int) < (Q : Int) + 1) = false := decide_eq_false (by omega)
    rw [if_pos (by omega)] at HV
    have w1 : IntKind.i64.wrap ((Q : Int) + 1) = (Q : Int) + 1 := i64_id ⟨by omega, by omega⟩
    have w2 : wrap64 (-((Q : Int) + 1)) = -((Q : Int) + 1) := w64_id ⟨by omega, by omega⟩
    by_cases hneg : m.amt < 0
    · have e1 : Hid (scaleV m N D 1 = (⟨m.cur, -((Q : Int) + 1)⟩, true)) := Lib.hid (by rw [HV, if_pos hneg]; rfl)
      clear HV hX HSC hs
      have hA0 : Blk (((w.alloc (.cells #[.string m.cur, .int .i64 m.amt] 50)).alloc (.cells #[.int .i64 (N : Int), .int .i64 (D : Int)] 105)).alloc (.cells #[.string ⟨#[]⟩, .int .i64 0] 50)) w.heap.size 50 #[.string m.cur, .int .i64 m.amt] := Blk.more (Blk.more (Blk.new _ _ _) _) _
      have hC0 : Blk (((w.alloc (.cells #[.string m.cur, .int .i64 m.amt] 50)).alloc (.cells #[.int .i64 (N : Int), .int .i64 (D : Int)] 105)).alloc (.cells #[.string ⟨#[]⟩, .int .i64 0] 50)) (w.heap.size + 1) 105 #[.int .i64 (N : Int), .int .i64 (D : Int)] := Blk.more (Blk.newAt _ _ (by simp only [size_alloc])) _
      have hR0 : Blk (((w.alloc (.cells #[.string m.cur, .int .i64 m.amt] 50)).alloc (.cells #[.int .i64 (N : Int), .int .i64 (D : Int)] 105)).alloc (.cells #[.string ⟨#[]⟩, .int .i64 0] 50)) (w.heap.size + 1 + 1) 50 #[.string ⟨#[]⟩, .int .i64 0] := Blk.newAt _ _ (by simp only [size_alloc])
      have hB0 : Below w.heap.size w (((w.alloc (.cells #[.string m.cur, .int .i64 m.amt] 50)).alloc (.cells #[.int .i64 (N : Int), .int .i64 (D : Int)] 105)).alloc (.cells #[.string ⟨#[]⟩, .int .i64 0] 50)) := by
        refine Below.alloc (Below.alloc (Below.alloc (Below.refl _ _) ?_ _) ?_ _) ?_ _
        all_goals (try simp only [size_alloc]); omega
      have a0 := hA0.cell 0; have a1 := hA0.cell 1; have c0 := hC0.cell 0; have c1 := hC0.cell 1
      simp only [List.getElem?_toArray, List.getElem?_cons_zero, List.getElem?_cons_succ] at a0 a1 c0 c1
      have r0 := hR0.cell 0; have r1 := hR0.cell 1; have f0 := hR0.frozen 0; have f1 := hR0.frozen 1
      simp only [List.getElem?_toArray, List.getElem?_cons_zero, List.getElem?_cons_succ] at r0 r1
      go_enter Tryz.func63, Tryz.ntmps63
      go_wp2_with fail
      refine (HN.out _).mono ?_
      rintro e w' ⟨rfl, rfl⟩
      go_wp2_with fail
      refine (HM.out _).mono ?_
      rintro e w1 ⟨rfl, hb1⟩
      have hR1 := hR0.below hb1 hR0.lt
      clear r0 r1 f0 f1 hR0
      have hB1 := hB0.trans (hb1.mono hB0.size)
      have hA1 := hA0.below hb1 hA0.lt
      have hC1 := hC0.below hb1 hC0.lt
      clear a0 a1 c0 c1 hB0 hA0 hC0 hb1
      have a0 := hA1.cell 0; have a1 := hA1.cell 1; have c0 := hC1.cell 0; have c1 := hC1.cell 1
      simp only [List.getElem?_toArray, List.getElem?_cons_zero, List.getElem?_cons_succ] at a0 a1 c0 c1
      have r0 := hR1.cell 0; have r1 := hR1.cell 1; have f0 := hR1.frozen 0; have f1 := hR1.frozen 1
      simp only [List.getElem?_toArray, List.getElem?_cons_zero, List.getElem?_cons_succ] at r0 r1
      go_wp2_with fail
      refine (HQ.out _).mono ?_
      rintro e w2 ⟨rfl, hb2⟩
      have hR2 := hR1.below hb2 hR1.lt
      clear r0 r1 f0 f1 hR1
      have hB2 := hB1.trans (hb2.mono hB1.size)
      have hA2 := hA1.below hb2 hA1.lt
      have hC2 := hC1.below hb2 hC1.lt
      clear a0 a1 c0 c1 hB1 hA1 hC1 hb2
      have a0 := hA2.cell 0; have a1 := hA2.cell 1; have c0 := hC2.cell 0; have c1 := hC2.cell 1
      simp only [List.getElem?_toArray, List.getElem?_cons_zero, List.getElem?_cons_succ] at a0 a1 c0 c1
      have r0 := hR2.cell 0; have r1 := hR2.cell 1; have f0 := hR2.frozen 0; have f1 := hR2.frozen 1
      simp only [List.getElem?_toArray, List.getElem?_cons_zero, List.getElem?_cons_succ] at r0 r1
      go_wp2_with fail
      go_quiet ((first | (go_at_call 86; exact Calls.quiet_of_same ((HS.out _).mono fun _ _ h => ⟨h.1, h.2.symm⟩)) | (go_at_call 85; exact Calls.quiet_of_same ((HU.out _).mono fun _ _ h => ⟨h.1, h.2⟩))))
      have hB3 := below_drewN hB2 nq
      have hA3 := hA2.drewN nq
      have hC3 := hC2.drewN nq
      have hR3 := hR2.drewN nq
      clear a0 a1 c0 c1 r0 r1 f0 f1
      have a0 := hA3.cell 0; have a1 := hA3.cell 1; have c0 := hC3.cell 0; have c1 := hC3.cell 1
      simp only [List.getElem?_toArray, List.getElem?_cons_zero, List.getElem?_cons_succ] at a0 a1 c0 c1
      have r0 := hR3.cell 0; have r1 := hR3.cell 1; have f0 := hR3.frozen 0; have f1 := hR3.frozen 1
      simp only [List.getElem?_toArray, List.getElem?_cons_zero, List.getElem?_cons_succ] at r0 r1
      go_wp2_with fail
      refine (HD.out _).mono ?_
      rintro e w4 ⟨rfl, hb4⟩
      have hR4 := hR3.below hb4 hR3.lt
      clear r0 r1 f0 f1 hR3
      have hB4 := hB3.trans (hb4.mono hB3.size)
      have hA4 := hA3.below hb4 hA3.lt
      have hC4 := hC3.below hb4 hC3.lt
      clear a0 a1 c0 c1 hB3 hA3 hC3 hb4
      have a0 := hA4.cell 0; have a1 := hA4.cell 1; have c0 := hC4.cell 0; have c1 := hC4.cell 1
      simp only [List.getElem?_toArray, List.getElem?_cons_zero, List.getElem?_cons_succ] at a0 a1 c0 c1
      have r0 := hR4.cell 0; have r1 := hR4.cell 1; have f0 := hR4.frozen 0; have f1 := hR4.frozen 1
      simp only [List.getElem?_toArray, List.getElem?_cons_zero, List.getElem?_cons_succ] at r0 r1
      go_wp2_with fail
      refine (HMO.out _).mono ?_
      rintro e w' ⟨rfl, rfl⟩
      go_wp2_with (refine stop_store 50 _ _ rfl ?_; refine wpList_store_blk rfl 50 _ _ rfl #[.string (Mon.mk m.cur (-((Q : Int) + 1))).cur, .int .i64 (Mon.mk m.cur (-((Q : Int) + 1))).amt] rfl rfl hR4 (by kernel_rfl) rfl rfl ?_; intro w9 hR9 hk9 hb9)
      have hB9 := hb9 _ _ hB4 (by omega)
      clear r0 r1 f0 f1
      have r0 := hR9.cell 0; have r1 := hR9.cell 1; have f0 := hR9.frozen 0; have f1 := hR9.frozen 1
      simp only [List.getElem?_toArray, List.getElem?_cons_zero, List.getElem?_cons_succ] at r0 r1
      refine bodyPost_ret (v := .tuple #[.agg #[.string (Mon.mk m.cur (-((Q : Int) + 1))).cur, .int .i64 (Mon.mk m.cur (-((Q : Int) + 1))).amt], .bool true]) (by simp [results, Tryz.results63, go_sem, r0, r1]) rfl ⟨ret_sb e1.out, hB9⟩
    · have e1 : Hid (scaleV m N D 1 = (⟨m.cur, (Q : Int) + 1⟩, true)) := Lib.hid (by rw [HV, if_neg hneg]; rfl)
      clear HV hX HSC hs
      have hA0 : Blk (((w.alloc (.cells #[.string m.cur, .int .i64 m.amt] 50)).alloc (.cells #[.int .i64 (N : Int), .int .i64 (D : Int)] 105)).alloc (.cells #[.string ⟨#[]⟩, .int .i64 0] 50)) w.heap.size 50 #[.string m.cur, .int .i64 m.amt] := Blk.more (Blk.more (Blk.new _ _ _) _) _
      have hC0 : Blk (((w.alloc (.cells #[.string m.cur, .int .i64 m.amt] 50)).alloc (.cells #[.int .i64 (N : Int), .int .i64 (D : Int)] 105)).alloc (.cells #[.string ⟨#[]⟩, .int .i64 0] 50)) (w.heap.size + 1) 105 #[.int .i64 (N : Int), .int .i64 (D : Int)] := Blk.more (Blk.newAt _ _ (by simp only [size_alloc])) _
      have hR0 : Blk (((w.alloc (.cells #[.string m.cur, .int .i64 m.amt] 50)).alloc (.cells #[.int .i64 (N : Int), .int .i64 (D : Int)] 105)).alloc (.cells #[.string ⟨#[]⟩, .int .i64 0] 50)) (w.heap.size + 1 + 1) 50 #[.string ⟨#[]⟩, .int .i64 0] := Blk.newAt _ _ (by simp only [size_alloc])
      have hB0 : Below w.heap.size w (((w.alloc (.cells #[.string m.cur, .int .i64 m.amt] 50)).alloc (.cells #[.int .i64 (N : Int), .int .i64 (D : Int)] 105)).alloc (.cells #[.string ⟨#[]⟩, .int .i64 0] 50)) := by
        refine Below.alloc (Below.alloc (Below.alloc (Below.refl _ _) ?_ _) ?_ _) ?_ _
        all_goals (try simp only [size_alloc]); omega
      have a0 := hA0.cell 0; have a1 := hA0.cell 1; have c0 := hC0.cell 0; have c1 := hC0.cell 1
      simp only [List.getElem?_toArray, List.getElem?_cons_zero, List.getElem?_cons_succ] at a0 a1 c0 c1
      have r0 := hR0.cell 0; have r1 := hR0.cell 1; have f0 := hR0.frozen 0; have f1 := hR0.frozen 1
      simp only [List.getElem?_toArray, List.getElem?_cons_zero, List.getElem?_cons_succ] at r0 r1
      go_enter Tryz.func63, Tryz.ntmps63
      go_wp2_with fail
      refine (HN.out _).mono ?_
      rintro e w' ⟨rfl, rfl⟩
      go_wp2_with fail
      refine (HM.out _).mono ?_
      rintro e w1 ⟨rfl, hb1⟩
      have hR1 := hR0.below hb1 hR0.lt
      clear r0 r1 f0 f1 hR0
      have hB1 := hB0.trans (hb1.mono hB0.size)
      have hA1 := hA0.below hb1 hA0.lt
      have hC1 := hC0.below hb1 hC0.lt
      clear a0 a1 c0 c1 hB0 hA0 hC0 hb1
      have a0 := hA1.cell 0; have a1 := hA1.cell 1; have c0 := hC1.cell 0; have c1 := hC1.cell 1
      simp only [List.getElem?_toArray, List.getElem?_cons_zero, List.getElem?_cons_succ] at a0 a1 c0 c1
      have r0 := hR1.cell 0; have r1 := hR1.cell 1; have f0 := hR1.frozen 0; have f1 := hR1.frozen 1
      simp only [List.getElem?_toArray, List.getElem?_cons_zero, List.getElem?_cons_succ] at r0 r1
      go_wp2_with fail
      refine (HQ.out _).mono ?_
      rintro e w2 ⟨rfl, hb2⟩
      have hR2 := hR1.below hb2 hR1.lt
      clear r0 r1 f0 f1 hR1
      have hB2 := hB1.trans (hb2.mono hB1.size)
      have hA2 := hA1.below hb2 hA1.lt
      have hC2 := hC1.below hb2 hC1.lt
      clear a0 a1 c0 c1 hB1 hA1 hC1 hb2
      have a0 := hA2.cell 0; have a1 := hA2.cell 1; have c0 := hC2.cell 0; have c1 := hC2.cell 1
      simp only [List.getElem?_toArray, List.getElem?_cons_zero, List.getElem?_cons_succ] at a0 a1 c0 c1
      have r0 := hR2.cell 0; have r1 := hR2.cell 1; have f0 := hR2.frozen 0; have f1 := hR2.frozen 1
      simp only [List.getElem?_toArray, List.getElem?_cons_zero, List.getElem?_cons_succ] at r0 r1
      go_wp2_with fail
      go_quiet ((first | (go_at_call 86; exact Calls.quiet_of_same ((HS.out _).mono fun _ _ h => ⟨h.1, h.2.symm⟩)) | (go_at_call 85; exact Calls.quiet_of_same ((HU.out _).mono fun _ _ h => ⟨h.1, h.2⟩))))
      have hB3 := below_drewN hB2 nq
      have hA3 := hA2.drewN nq
      have hC3 := hC2.drewN nq
      have hR3 := hR2.drewN nq
      clear a0 a1 c0 c1 r0 r1 f0 f1
      have a0 := hA3.cell 0; have a1 := hA3.cell 1; have c0 := hC3.cell 0; have c1 := hC3.cell 1
      simp only [List.getElem?_toArray, List.getElem?_cons_zero, List.getElem?_cons_succ] at a0 a1 c0 c1
      have r0 := hR3.cell 0; have r1 := hR3.cell 1; have f0 := hR3.frozen 0; have f1 := hR3.frozen 1
      simp only [List.getElem?_toArray, List.getElem?_cons_zero, List.getElem?_cons_succ] at r0 r1
      go_wp2_with fail
      refine (HD.out _).mono ?_
      rintro e w4 ⟨rfl, hb4⟩
      have hR4 := hR3.below hb4 hR3.lt
      clear r0 r1 f0 f1 hR3
      have hB4 := hB3.trans (hb4.mono hB3.size)
      have hA4 := hA3.below hb4 hA3.lt
      have hC4 := hC3.below hb4 hC3.lt
      clear a0 a1 c0 c1 hB3 hA3 hC3 hb4
      have a0 := hA4.cell 0; have a1 := hA4.cell 1; have c0 := hC4.cell 0; have c1 := hC4.cell 1
      simp only [List.getElem?_toArray, List.getElem?_cons_zero, List.getElem?_cons_succ] at a0 a1 c0 c1
      have r0 := hR4.cell 0; have r1 := hR4.cell 1; have f0 := hR4.frozen 0; have f1 := hR4.frozen 1
      simp only [List.getElem?_toArray, List.getElem?_cons_zero, List.getElem?_cons_succ] at r0 r1
      go_wp2_with fail
      refine (HMO.out _).mono ?_
      rintro e w' ⟨rfl, rfl⟩
      go_wp2_with (refine stop_store 50 _ _ rfl ?_; refine wpList_store_blk rfl 50 _ _ rfl #[.string (Mon.mk m.cur ((Q : Int) + 1)).cur, .int .i64 (Mon.mk m.cur ((Q : Int) + 1)).amt] rfl rfl hR4 (by kernel_rfl) rfl rfl ?_; intro w9 hR9 hk9 hb9)
      have hB9 := hb9 _ _ hB4 (by omega)
      clear r0 r1 f0 f1
      have r0 := hR9.cell 0; have r1 := hR9.cell 1; have f0 := hR9.frozen 0; have f1 := hR9.frozen 1
      simp only [List.getElem?_toArray, List.getElem?_cons_zero, List.getElem?_cons_succ] at r0 r1
      refine bodyPost_ret (v := .tuple #[.agg #[.string (Mon.mk m.cur ((Q : Int) + 1)).cur, .int .i64 (Mon.mk m.cur ((Q : Int) + 1)).amt], .bool true]) (by simp [results, Tryz.results63, go_sem, r0, r1]) rfl ⟨ret_sb e1.out, hB9⟩
end Go.Proofs.YtdanjegnhdpnlaaGreatDoor.kit
