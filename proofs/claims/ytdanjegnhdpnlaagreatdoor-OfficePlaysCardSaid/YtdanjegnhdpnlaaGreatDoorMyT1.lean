/- An amount taken by a fraction: the document, way 1. No condition. -/
import Derived.Test.YtdanjegnhdpnlaaGreatDoorMyRS
namespace Go.Proofs.YtdanjegnhdpnlaaGreatDoor.kit
open Go.RowKit Go.PlainAid
set_option linter.unusedVariables false

set_option maxRecDepth 100000 in
set_option maxHeartbeats 6400000 in
theorem rscale1 (m : Mon) (n d : Int) (w : World) (hc : m.cur.size ≤ maxLen) (hn : I64 n) (hd : I64 d) : Calls Tryz.prog 32 #[.agg #[.string m.cur, .int .i64 m.amt], .agg #[.int .i64 n, .int .i64 d], .int .i64 1] w fun e w' => e = .returned (.tuple #[.agg #[.string (scaleV m n d 1).1.cur, .int .i64 (scaleV m n d 1).1.amt], .bool (scaleV m n d 1).2]) ∧ Below w.heap.size w w' := by
  have HM := Lib.hid (fun w => rmay_any m w hc)
  have HQ := Lib.hid (fun w => rright_any n d w)
  cases q0 : mayM m
  · have e1 : Hid (scaleV m n d 1 = (noM, false)) := Lib.hid (scale_bad (by rw [q0]; rfl))
    rw [q0] at HM
    have hA0 : Blk (((w.alloc (.cells #[.string m.cur, .int .i64 m.amt] 50)).alloc (.cells #[.int .i64 n, .int .i64 d] 105)).alloc (.cells #[.string ⟨#[]⟩, .int .i64 0] 50)) w.heap.size 50 #[.string m.cur, .int .i64 m.amt] := Blk.more (Blk.more (Blk.new _ _ _) _) _
    have hC0 : Blk (((w.alloc (.cells #[.string m.cur, .int .i64 m.amt] 50)).alloc (.cells #[.int .i64 n, .int .i64 d] 105)).alloc (.cells #[.string ⟨#[]⟩, .int .i64 0] 50)) (w.heap.size + 1) 105 #[.int .i64 n, .int .i64 d] := Blk.more (Blk.newAt _ _ (by simp only [size_alloc])) _
    have hR0 : Blk (((w.alloc (.cells #[.string m.cur, .int .i64 m.amt] 50)).alloc (.cells #[.int .i64 n, .int .i64 d] 105)).alloc (.cells #[.string ⟨#[]⟩, .int .i64 0] 50)) (w.heap.size + 1 + 1) 50 #[.string ⟨#[]⟩, .int .i64 0] := Blk.newAt _ _ (by simp only [size_alloc])
    have hB0 : Below w.heap.size w (((w.alloc (.cells #[.string m.cur, .int .i64 m.amt] 50)).alloc (.cells #[.int .i64 n, .int .i64 d] 105)).alloc (.cells #[.string ⟨#[]⟩, .int .i64 0] 50)) := by
      refine Below.alloc (Below.alloc (Below.alloc (Below.refl _ _) ?_ _) ?_ _) ?_ _
      all_goals (try simp only [size_alloc]); omega
    have a0 := hA0.cell 0; have a1 := hA0.cell 1; have c0 := hC0.cell 0; have c1 := hC0.cell 1
    simp only [List.getElem?_toArray, List.getElem?_cons_zero, List.getElem?_cons_succ] at a0 a1 c0 c1
    have r0 := hR0.cell 0; have r1 := hR0.cell 1; have f0 := hR0.frozen 0; have f1 := hR0.frozen 1
    simp only [List.getElem?_toArray, List.getElem?_cons_zero, List.getElem?_cons_succ] at r0 r1
    clear q0 hn hd hc
    go_enter Tryz.func32, Tryz.ntmps32
    go_wp2_with fail
    refine (HM.out _).mono ?_
    rintro e w1 ⟨rfl, hb1⟩
    have hR1 := hR0.below hb1 hR0.lt
    clear r0 r1 f0 f1 hR0
    have hB1 := hB0.trans (hb1.mono hB0.size)
    have hA1 := hA0.below hb1 hA0.lt
    have hC1 := hC0.below hb1 hC0.lt
    clear a0 a1 c0 c1 hB0 hA0 hC0 hb1
    have a0 := hA1.cell 0; have a1 := hA1.cell 1; have c0 := hC1.cell 0; have c1 := hC1.cell 1
    simp only [List.getElem?_toArray, List.getElem?_cons_zero, List.getElem?_cons_succ] at a0 a1 c0 c1
    have r0 := hR1.cell 0; have r1 := hR1.cell 1; have f0 := hR1.frozen 0; have f1 := hR1.frozen 1
    simp only [List.getElem?_toArray, List.getElem?_cons_zero, List.getElem?_cons_succ] at r0 r1
    go_wp2_with (refine stop_store 50 _ _ rfl ?_; refine wpList_store_blk rfl 50 _ _ rfl #[.string noM.cur, .int .i64 noM.amt] rfl rfl hR1 (by kernel_rfl) rfl rfl ?_; intro w9 hR9 hk9 hb9)
    have hB9 := hb9 _ _ hB1 (by omega)
    clear r0 r1 f0 f1
    have r0 := hR9.cell 0; have r1 := hR9.cell 1; have f0 := hR9.frozen 0; have f1 := hR9.frozen 1
    simp only [List.getElem?_toArray, List.getElem?_cons_zero, List.getElem?_cons_succ] at r0 r1
    refine bodyPost_ret (v := .tuple #[.agg #[.string noM.cur, .int .i64 noM.amt], .bool false]) (by simp [results, Tryz.results32, go_sem, r0, r1]) rfl ⟨ret_sb e1.out, hB9⟩
  rw [q0] at HM
  cases q1 : ratB n d
  · have e1 : Hid (scaleV m n d 1 = (noM, false)) := Lib.hid (scale_bad (by rw [q1]; simp))
    rw [q1] at HQ
    have hA0 : Blk (((w.alloc (.cells #[.string m.cur, .int .i64 m.amt] 50)).alloc (.cells #[.int .i64 n, .int .i64 d] 105)).alloc (.cells #[.string ⟨#[]⟩, .int .i64 0] 50)) w.heap.size 50 #[.string m.cur, .int .i64 m.amt] := Blk.more (Blk.more (Blk.new _ _ _) _) _
    have hC0 : Blk (((w.alloc (.cells #[.string m.cur, .int .i64 m.amt] 50)).alloc (.cells #[.int .i64 n, .int .i64 d] 105)).alloc (.cells #[.string ⟨#[]⟩, .int .i64 0] 50)) (w.heap.size + 1) 105 #[.int .i64 n, .int .i64 d] := Blk.more (Blk.newAt _ _ (by simp only [size_alloc])) _
    have hR0 : Blk (((w.alloc (.cells #[.string m.cur, .int .i64 m.amt] 50)).alloc (.cells #[.int .i64 n, .int .i64 d] 105)).alloc (.cells #[.string ⟨#[]⟩, .int .i64 0] 50)) (w.heap.size + 1 + 1) 50 #[.string ⟨#[]⟩, .int .i64 0] := Blk.newAt _ _ (by simp only [size_alloc])
    have hB0 : Below w.heap.size w (((w.alloc (.cells #[.string m.cur, .int .i64 m.amt] 50)).alloc (.cells #[.int .i64 n, .int .i64 d] 105)).alloc (.cells #[.string ⟨#[]⟩, .int .i64 0] 50)) := by
      refine Below.alloc (Below.alloc (Below.alloc (Below.refl _ _) ?_ _) ?_ _) ?_ _
      all_goals (try simp only [size_alloc]); omega
    have a0 := hA0.cell 0; have a1 := hA0.cell 1; have c0 := hC0.cell 0; have c1 := hC0.cell 1
    simp only [List.getElem?_toArray, List.getElem?_cons_zero, List.getElem?_cons_succ] at a0 a1 c0 c1
    have r0 := hR0.cell 0; have r1 := hR0.cell 1; have f0 := hR0.frozen 0; have f1 := hR0.frozen 1
    simp only [List.getElem?_toArray, List.getElem?_cons_zero, List.getElem?_cons_succ] at r0 r1
    clear q0 q1 hn hd hc
    go_enter Tryz.func32, Tryz.ntmps32
    go_wp2_with fail
    refine (HM.out _).mono ?_
    rintro e w1 ⟨rfl, hb1⟩
    have hR1 := hR0.below hb1 hR0.lt
    clear r0 r1 f0 f1 hR0
    have hB1 := hB0.trans (hb1.mono hB0.size)
    have hA1 := hA0.below hb1 hA0.lt
    have hC1 := hC0.below hb1 hC0.lt
    clear a0 a1 c0 c1 hB0 hA0 hC0 hb1
    have a0 := hA1.cell 0; have a1 := hA1.cell 1; have c0 := hC1.cell 0; have c1 := hC1.cell 1
    simp only [List.getElem?_toArray, List.getElem?_cons_zero, List.getElem?_cons_succ] at a0 a1 c0 c1
    have r0 := hR1.cell 0; have r1 := hR1.cell 1; have f0 := hR1.frozen 0; have f1 := hR1.frozen 1
    simp only [List.getElem?_toArray, List.getElem?_cons_zero, List.getElem?_cons_succ] at r0 r1
    go_wp2_with fail
    refine (HQ.out _).mono ?_
    rintro e w2 ⟨rfl, hb2⟩
    have hR2 := hR1.below hb2 hR1.lt
    clear r0 r1 f0 f1 hR1
    have hB2 := hB1.trans (hb2.mono hB1.size)
    have hA2 := hA1.below hb2 hA1.lt
    have hC2 := hC1.below hb2 hC1.lt
    clear a0 a1 c0 c1 hB1 hA1 hC1 hb2
    have a0 := hA2.cell 0; have a1 := hA2.cell 1; have c0 := hC2.cell 0; have c1 := hC2.cell 1
    simp only [List.getElem?_toArray, List.getElem?_cons_zero, List.getElem?_cons_succ] at a0 a1 c0 c1
    have r0 := hR2.cell 0; have r1 := hR2.cell 1; have f0 := hR2.frozen 0; have f1 := hR2.frozen 1
    simp only [List.getElem?_toArray, List.getElem?_cons_zero, List.getElem?_cons_succ] at r0 r1
    go_wp2_with (refine stop_store 50 _ _ rfl ?_; refine wpList_store_blk rfl 50 _ _ rfl #[.string noM.cur, .int .i64 noM.amt] rfl rfl hR2 (by kernel_rfl) rfl rfl ?_; intro w9 hR9 hk9 hb9)
    have hB9 := hb9 _ _ hB2 (by omega)
    clear r0 r1 f0 f1
    have r0 := hR9.cell 0; have r1 := hR9.cell 1; have f0 := hR9.frozen 0; have f1 := hR9.frozen 1
    simp only [List.getElem?_toArray, List.getElem?_cons_zero, List.getElem?_cons_succ] at r0 r1
    refine bodyPost_ret (v := .tuple #[.agg #[.string noM.cur, .int .i64 noM.amt], .bool false]) (by simp [results, Tryz.results32, go_sem, r0, r1]) rfl ⟨ret_sb e1.out, hB9⟩
  rw [q1] at HQ
  have hnd : 0 ≤ n ∧ 1 ≤ d := by unfold ratB at q1; simpa using q1
  have hma := (may_iff.1 q0).2
  have hcu := (may_iff.1 q0).1
  have HV : scaleV m n d 1 = if scQ 1 m.amt.natAbs n.toNat d.toNat ≤ 1099511627776 then (⟨m.cur, if m.amt < 0 then -(scQ 1 m.amt.natAbs n.toNat d.toNat : Int) else (scQ 1 m.amt.natAbs n.toNat d.toNat : Int)⟩, true) else (noM, false) := by
    unfold scaleV; rw [if_pos (by rw [q0, q1]; rfl)]
  obtain ⟨N, rfl⟩ : ∃ N : Nat, n = N := ⟨n.toNat, by omega⟩
  obtain ⟨D, rfl⟩ : ∃ N : Nat, d = N := ⟨d.toNat, by omega⟩
  unfold I64 at hn hd
  have hN := hn.2
  have hD := hd.2
  have hD1 := hnd.2
  simp only [Int.toNat_natCast] at HV
  obtain ⟨A, hA⟩ : ∃ A, m.amt.natAbs = A := ⟨_, rfl⟩
  rw [hA] at HV
  have hA40 : A ≤ 1099511627776 := by omega
  have HP := Lib.hid (fun w => parts_any A N D w hA40 (by omega) (by omega) (by omega))
  obtain ⟨Q, hQ⟩ : ∃ q, A * N / D = q := ⟨_, rfl⟩
  obtain ⟨R, hR⟩ : ∃ q, A * N % D = q := ⟨_, rfl⟩
  have hRD : R < D := by rw [← hR]; exact Nat.mod_lt _ (by omega)
  have HSC : Hid (scQ 1 A N D = Q + (if moreB 1 R D = true then 1 else 0)) := Lib.hid (by unfold scQ; rw [hQ, hR])
  unfold partsV at HP
  rw [hQ, hR] at HP
  have u1 : IntKind.u64.wrap ((D : Int) - (R : Int)) = (D : Int) - (R : Int) := u64_id ⟨by omega, by omega⟩
  have w1 : wrap64 (-m.amt) = -m.amt := w64_id ⟨by omega, by omega⟩
  clear q0 q1 hn hd hnd hQ hR
  by_cases hneg : m.amt < 0
  · rw [show (A : Int) = -m.amt by omega] at HP
    clear hA
    by_cases hq : Q ≤ 2199023255552
    · rw [if_pos hq] at HP
      simp only [] at HP
      by_cases hR0 : 0 < R
      · have d0 : decide ((0 : Int) < (R : Int)) = true := decide_eq_true (by omega)
        have d0n : decide (0 < R) = true := decide_eq_true hR0
        have hX : moreB 1 R D = true := d0n
        obtain ⟨Q2, hQ2⟩ : ∃ Q2, Q + 1 = Q2 := ⟨_, rfl⟩
        have hQ2i : (Q : Int) + 1 = (Q2 : Int) := by omega
        have hs : scQ 1 A N D = Q2 := by rw [HSC.out, hX, ← hQ2]; simp
        rw [hs] at HV
        have hQ2b : Q2 ≤ 9000000000000000000 := by omega
        have w2 : wrap64 (-(Q2 : Int)) = -(Q2 : Int) := w64_id ⟨by omega, by omega⟩
        have HO := Lib.hid (fun w => rmay_any ⟨m.cur, (-(Q2 : Int))⟩ w hc)
        clear hQ2 hX HSC hs
        by_cases hq2 : Q2 ≤ 1099511627776
        · have e1 : Hid (scaleV m N D 1 = (⟨m.cur, (-(Q2 : Int))⟩, true)) := Lib.hid (by rw [HV, if_pos hq2, if_pos hneg])
          have hm : mayM ⟨m.cur, (-(Q2 : Int))⟩ = true := may_iff.2 ⟨hcu, by simp only []; omega⟩
          rw [hm] at HO
          clear HV hm hcu
          have hA0 : Blk (((w.alloc (.cells #[.string m.cur, .int .i64 m.amt] 50)).alloc (.cells #[.int .i64 (N : Int), .int .i64 (D : Int)] 105)).alloc (.cells #[.string ⟨#[]⟩, .int .i64 0] 50)) w.heap.size 50 #[.string m.cur, .int .i64 m.amt] := Blk.more (Blk.more (Blk.new _ _ _) _) _
          have hC0 : Blk (((w.alloc (.cells #[.string m.cur, .int .i64 m.amt] 50)).alloc (.cells #[.int .i64 (N : Int), .int .i64 (D : Int)] 105)).alloc (.cells #[.string ⟨#[]⟩, .int .i64 0] 50)) (w.heap.size + 1) 105 #[.int .i64 (N : Int), .int .i64 (D : Int)] := Blk.more (Blk.newAt _ _ (by simp only [size_alloc])) _
          have hR0 : Blk (((w.alloc (.cells #[.string m.cur, .int .i64 m.amt] 50)).alloc (.cells #[.int .i64 (N : Int), .int .i64 (D : Int)] 105)).alloc (.cells #[.string ⟨#[]⟩, .int .i64 0] 50)) (w.heap.size + 1 + 1) 50 #[.string ⟨#[]⟩, .int .i64 0] := Blk.newAt _ _ (by simp only [size_alloc])
          have hB0 : Below w.heap.size w (((w.alloc (.cells #[.string m.cur, .int .i64 m.amt] 50)).alloc (.cells #[.int .i64 (N : Int), .int .i64 (D : Int)] 105)).alloc (.cells #[.string ⟨#[]⟩, .int .i64 0] 50)) := by
            refine Below.alloc (Below.alloc (Below.alloc (Below.refl _ _) ?_ _) ?_ _) ?_ _
            all_goals (try simp only [size_alloc]); omega
          have a0 := hA0.cell 0; have a1 := hA0.cell 1; have c0 := hC0.cell 0; have c1 := hC0.cell 1
          simp only [List.getElem?_toArray, List.getElem?_cons_zero, List.getElem?_cons_succ] at a0 a1 c0 c1
          have r0 := hR0.cell 0; have r1 := hR0.cell 1; have f0 := hR0.frozen 0; have f1 := hR0.frozen 1
          simp only [List.getElem?_toArray, List.getElem?_cons_zero, List.getElem?_cons_succ] at r0 r1
          go_enter Tryz.func32, Tryz.ntmps32
          go_wp2_with fail
          refine (HM.out _).mono ?_
          rintro e w1 ⟨rfl, hb1⟩
          have hR1 := hR0.below hb1 hR0.lt
          clear r0 r1 f0 f1 hR0
          have hB1 := hB0.trans (hb1.mono hB0.size)
          have hA1 := hA0.below hb1 hA0.lt
          have hC1 := hC0.below hb1 hC0.lt
          clear a0 a1 c0 c1 hB0 hA0 hC0 hb1
          have a0 := hA1.cell 0; have a1 := hA1.cell 1; have c0 := hC1.cell 0; have c1 := hC1.cell 1
          simp only [List.getElem?_toArray, List.getElem?_cons_zero, List.getElem?_cons_succ] at a0 a1 c0 c1
          have r0 := hR1.cell 0; have r1 := hR1.cell 1; have f0 := hR1.frozen 0; have f1 := hR1.frozen 1
          simp only [List.getElem?_toArray, List.getElem?_cons_zero, List.getElem?_cons_succ] at r0 r1
          go_wp2_with fail
          refine (HQ.out _).mono ?_
          rintro e w2 ⟨rfl, hb2⟩
          have hR2 := hR1.below hb2 hR1.lt
          clear r0 r1 f0 f1 hR1
          have hB2 := hB1.trans (hb2.mono hB1.size)
          have hA2 := hA1.below hb2 hA1.lt
          have hC2 := hC1.below hb2 hC1.lt
          clear a0 a1 c0 c1 hB1 hA1 hC1 hb2
          have a0 := hA2.cell 0; have a1 := hA2.cell 1; have c0 := hC2.cell 0; have c1 := hC2.cell 1
          simp only [List.getElem?_toArray, List.getElem?_cons_zero, List.getElem?_cons_succ] at a0 a1 c0 c1
          have r0 := hR2.cell 0; have r1 := hR2.cell 1; have f0 := hR2.frozen 0; have f1 := hR2.frozen 1
          simp only [List.getElem?_toArray, List.getElem?_cons_zero, List.getElem?_cons_succ] at r0 r1
          go_wp2_with fail
          refine (HP.out _).mono ?_
          rintro e w' ⟨rfl, rfl⟩
          go_wp2_with fail
          have hB3 : Below w.heap.size w (w2.alloc (.cells #[.string m.cur, .int .i64 (-(Q2 : Int))] 50)) := hB2.alloc hB2.size _
          have hA3 := hA2.alloc (.cells #[.string m.cur, .int .i64 (-(Q2 : Int))] 50)
          have hC3 := hC2.alloc (.cells #[.string m.cur, .int .i64 (-(Q2 : Int))] 50)
          have hR3 := hR2.alloc (.cells #[.string m.cur, .int .i64 (-(Q2 : Int))] 50)
          have hS3 : Blk (w2.alloc (.cells #[.string m.cur, .int .i64 (-(Q2 : Int))] 50)) w2.heap.size 50 #[.string m.cur, .int .i64 (-(Q2 : Int))] := Blk.new _ _ _
          refine (HO.out _).mono ?_
          rintro e w4 ⟨rfl, hb4⟩
          have hR4 := hR3.below hb4 hR3.lt
          have hS4 := hS3.below hb4 hS3.lt
          clear r0 r1 f0 f1 hR3 hS3
          have hB4 := hB3.trans (hb4.mono hB3.size)
          have hA4 := hA3.below hb4 hA3.lt
          have hC4 := hC3.below hb4 hC3.lt
          clear a0 a1 c0 c1 hB3 hA3 hC3 hb4
          have a0 := hA4.cell 0; have a1 := hA4.cell 1; have c0 := hC4.cell 0; have c1 := hC4.cell 1
          simp only [List.getElem?_toArray, List.getElem?_cons_zero, List.getElem?_cons_succ] at a0 a1 c0 c1
          have r0 := hR4.cell 0; have r1 := hR4.cell 1; have f0 := hR4.frozen 0; have f1 := hR4.frozen 1
          simp only [List.getElem?_toArray, List.getElem?_cons_zero, List.getElem?_cons_succ] at r0 r1
          have s0 := hS4.cell 0; have s1' := hS4.cell 1
          simp only [List.getElem?_toArray, List.getElem?_cons_zero, List.getElem?_cons_succ] at s0 s1'
          go_wp2_with (refine stop_store 50 _ _ rfl ?_; refine wpList_store_blk rfl 50 _ _ rfl #[.string (Mon.mk m.cur (-(Q2 : Int))).cur, .int .i64 (Mon.mk m.cur (-(Q2 : Int))).amt] rfl rfl hR4 (by kernel_rfl) rfl rfl ?_; intro w9 hR9 hk9 hb9)
          have hB9 := hb9 _ _ hB4 (by omega)
          clear r0 r1 f0 f1
          have r0 := hR9.cell 0; have r1 := hR9.cell 1; have f0 := hR9.frozen 0; have f1 := hR9.frozen 1
          simp only [List.getElem?_toArray, List.getElem?_cons_zero, List.getElem?_cons_succ] at r0 r1
          refine bodyPost_ret (v := .tuple #[.agg #[.string (Mon.mk m.cur (-(Q2 : Int))).cur, .int .i64 (Mon.mk m.cur (-(Q2 : Int))).amt], .bool true]) (by simp [results, Tryz.results32, go_sem, r0, r1]) rfl ⟨ret_sb e1.out, hB9⟩
        · have e1 : Hid (scaleV m N D 1 = (noM, false)) := Lib.hid (by rw [HV, if_neg hq2])
          have hm : mayM ⟨m.cur, (-(Q2 : Int))⟩ = false := by
            cases e : mayM ⟨m.cur, (-(Q2 : Int))⟩
            · rfl
            · have := (may_iff.1 e).2; simp only [] at this; omega
          rw [hm] at HO
          clear HV hm hcu
          have hA0 : Blk (((w.alloc (.cells #[.string m.cur, .int .i64 m.amt] 50)).alloc (.cells #[.int .i64 (N : Int), .int .i64 (D : Int)] 105)).alloc (.cells #[.string ⟨#[]⟩, .int .i64 0] 50)) w.heap.size 50 #[.string m.cur, .int .i64 m.amt] := Blk.more (Blk.more (Blk.new _ _ _) _) _
          have hC0 : Blk (((w.alloc (.cells #[.string m.cur, .int .i64 m.amt] 50)).alloc (.cells #[.int .i64 (N : Int), .int .i64 (D : Int)] 105)).alloc (.cells #[.string ⟨#[]⟩, .int .i64 0] 50)) (w.heap.size + 1) 105 #[.int .i64 (N : Int), .int .i64 (D : Int)] := Blk.more (Blk.newAt _ _ (by simp only [size_alloc])) _
          have hR0 : Blk (((w.alloc (.cells #[.string m.cur, .int .i64 m.amt] 50)).alloc (.cells #[.int .i64 (N : Int), .int .i64 (D : Int)] 105)).alloc (.cells #[.string ⟨#[]⟩, .int .i64 0] 50)) (w.heap.size + 1 + 1) 50 #[.string ⟨#[]⟩, .int .i64 0] := Blk.newAt _ _ (by simp only [size_alloc])
          have hB0 : Below w.heap.size w (((w.alloc (.cells #[.string m.cur, .int .i64 m.amt] 50)).alloc (.cells #[.int .i64 (N : Int), .int .i64 (D : Int)] 105)).alloc (.cells #[.string ⟨#[]⟩, .int .i64 0] 50)) := by
            refine Below.alloc (Below.alloc (Below.alloc (Below.refl _ _) ?_ _) ?_ _) ?_ _
            all_goals (try simp only [size_alloc]); omega
          have a0 := hA0.cell 0; have a1 := hA0.cell 1; have c0 := hC0.cell 0; have c1 := hC0.cell 1
          simp only [List.getElem?_toArray, List.getElem?_cons_zero, List.getElem?_cons_succ] at a0 a1 c0 c1
          have r0 := hR0.cell 0; have r1 := hR0.cell 1; have f0 := hR0.frozen 0; have f1 := hR0.frozen 1
          simp only [List.getElem?_toArray, List.getElem?_cons_zero, List.getElem?_cons_succ] at r0 r1
          go_enter Tryz.func32, Tryz.ntmps32
          go_wp2_with fail
          refine (HM.out _).mono ?_
          rintro e w1 ⟨rfl, hb1⟩
          have hR1 := hR0.below hb1 hR0.lt
          clear r0 r1 f0 f1 hR0
          have hB1 := hB0.trans (hb1.mono hB0.size)
          have hA1 := hA0.below hb1 hA0.lt
          have hC1 := hC0.below hb1 hC0.lt
          clear a0 a1 c0 c1 hB0 hA0 hC0 hb1
          have a0 := hA1.cell 0; have a1 := hA1.cell 1; have c0 := hC1.cell 0; have c1 := hC1.cell 1
          simp only [List.getElem?_toArray, List.getElem?_cons_zero, List.getElem?_cons_succ] at a0 a1 c0 c1
          have r0 := hR1.cell 0; have r1 := hR1.cell 1; have f0 := hR1.frozen 0; have f1 := hR1.frozen 1
          simp only [List.getElem?_toArray, List.getElem?_cons_zero, List.getElem?_cons_succ] at r0 r1
          go_wp2_with fail
          refine (HQ.out _).mono ?_
          rintro e w2 ⟨rfl, hb2⟩
          have hR2 := hR1.below hb2 hR1.lt
          clear r0 r1 f0 f1 hR1
          have hB2 := hB1.trans (hb2.mono hB1.size)
          have hA2 := hA1.below hb2 hA1.lt
          have hC2 := hC1.below hb2 hC1.lt
          clear a0 a1 c0 c1 hB1 hA1 hC1 hb2
          have a0 := hA2.cell 0; have a1 := hA2.cell 1; have c0 := hC2.cell 0; have c1 := hC2.cell 1
          simp only [List.getElem?_toArray, List.getElem?_cons_zero, List.getElem?_cons_succ] at a0 a1 c0 c1
          have r0 := hR2.cell 0; have r1 := hR2.cell 1; have f0 := hR2.frozen 0; have f1 := hR2.frozen 1
          simp only [List.getElem?_toArray, List.getElem?_cons_zero, List.getElem?_cons_succ] at r0 r1
          go_wp2_with fail
          refine (HP.out _).mono ?_
          rintro e w' ⟨rfl, rfl⟩
          go_wp2_with fail
          have hB3 : Below w.heap.size w (w2.alloc (.cells #[.string m.cur, .int .i64 (-(Q2 : Int))] 50)) := hB2.alloc hB2.size _
          have hA3 := hA2.alloc (.cells #[.string m.cur, .int .i64 (-(Q2 : Int))] 50)
          have hC3 := hC2.alloc (.cells #[.string m.cur, .int .i64 (-(Q2 : Int))] 50)
          have hR3 := hR2.alloc (.cells #[.string m.cur, .int .i64 (-(Q2 : Int))] 50)
          have hS3 : Blk (w2.alloc (.cells #[.string m.cur, .int .i64 (-(Q2 : Int))] 50)) w2.heap.size 50 #[.string m.cur, .int .i64 (-(Q2 : Int))] := Blk.new _ _ _
          refine (HO.out _).mono ?_
          rintro e w4 ⟨rfl, hb4⟩
          have hR4 := hR3.below hb4 hR3.lt
          have hS4 := hS3.below hb4 hS3.lt
          clear r0 r1 f0 f1 hR3 hS3
          have hB4 := hB3.trans (hb4.mono hB3.size)
          have hA4 := hA3.below hb4 hA3.lt
          have hC4 := hC3.below hb4 hC3.lt
          clear a0 a1 c0 c1 hB3 hA3 hC3 hb4
          have a0 := hA4.cell 0; have a1 := hA4.cell 1; have c0 := hC4.cell 0; have c1 := hC4.cell 1
          simp only [List.getElem?_toArray, List.getElem?_cons_zero, List.getElem?_cons_succ] at a0 a1 c0 c1
          have r0 := hR4.cell 0; have r1 := hR4.cell 1; have f0 := hR4.frozen 0; have f1 := hR4.frozen 1
          simp only [List.getElem?_toArray, List.getElem?_cons_zero, List.getElem?_cons_succ] at r0 r1
          have s0 := hS4.cell 0; have s1' := hS4.cell 1
          simp only [List.getElem?_toArray, List.getElem?_cons_zero, List.getElem?_cons_succ] at s0 s1'
          go_wp2_with (refine stop_store 50 _ _ rfl ?_; refine wpList_store_blk rfl 50 _ _ rfl #[.string noM.cur, .int .i64 noM.amt] rfl rfl hR4 (by kernel_rfl) rfl rfl ?_; intro w9 hR9 hk9 hb9)
          have hB9 := hb9 _ _ hB4 (by omega)
          clear r0 r1 f0 f1
          have r0 := hR9.cell 0; have r1 := hR9.cell 1; have f0 := hR9.frozen 0; have f1 := hR9.frozen 1
          simp only [List.getElem?_toArray, List.getElem?_cons_zero, List.getElem?_cons_succ] at r0 r1
          refine bodyPost_ret (v := .tuple #[.agg #[.string noM.cur, .int .i64 noM.amt], .bool false]) (by simp [results, Tryz.results32, go_sem, r0, r1]) rfl ⟨ret_sb e1.out, hB9⟩
      · have d0 : decide ((0 : Int) < (R : Int)) = false := decide_eq_false (by omega)
        have d0n : decide (0 < R) = false := decide_eq_false hR0
        have hX : moreB 1 R D = false := d0n
        obtain ⟨Q2, hQ2⟩ : ∃ Q2, Q + 0 = Q2 := ⟨_, rfl⟩
        have hQ2i : (Q : Int) = (Q2 : Int) := by omega
        have hs : scQ 1 A N D = Q2 := by rw [HSC.out, hX, ← hQ2]; simp
        rw [hs] at HV
        have hQ2b : Q2 ≤ 9000000000000000000 := by omega
        have w2 : wrap64 (-(Q2 : Int)) = -(Q2 : Int) := w64_id ⟨by omega, by omega⟩
        have HO := Lib.hid (fun w => rmay_any ⟨m.cur, (-(Q2 : Int))⟩ w hc)
        clear hQ2 hX HSC hs
        by_cases hq2 : Q2 ≤ 1099511627776
        · have e1 : Hid (scaleV m N D 1 = (⟨m.cur, (-(Q2 : Int))⟩, true)) := Lib.hid (by rw [HV, if_pos hq2, if_pos hneg])
          have hm : mayM ⟨m.cur, (-(Q2 : Int))⟩ = true := may_iff.2 ⟨hcu, by simp only []; omega⟩
          rw [hm] at HO
          clear HV hm hcu
          have hA0 : Blk (((w.alloc (.cells #[.string m.cur, .int .i64 m.amt] 50)).alloc (.cells #[.int .i64 (N : Int), .int .i64 (D : Int)] 105)).alloc (.cells #[.string ⟨#[]⟩, .int .i64 0] 50)) w.heap.size 50 #[.string m.cur, .int .i64 m.amt] := Blk.more (Blk.more (Blk.new _ _ _) _) _
          have hC0 : Blk (((w.alloc (.cells #[.string m.cur, .int .i64 m.amt] 50)).alloc (.cells #[.int .i64 (N : Int), .int .i64 (D : Int)] 105)).alloc (.cells #[.string ⟨#[]⟩, .int .i64 0] 50)) (w.heap.size + 1) 105 #[.int .i64 (N : Int), .int .i64 (D : Int)] := Blk.more (Blk.newAt _ _ (by simp only [size_alloc])) _
          have hR0 : Blk (((w.alloc (.cells #[.string m.cur, .int .i64 m.amt] 50)).alloc (.cells #[.int .i64 (N : Int), .int .i64 (D : Int)] 105)).alloc (.cells #[.string ⟨#[]⟩, .int .i64 0] 50)) (w.heap.size + 1 + 1) 50 #[.string ⟨#[]⟩, .int .i64 0] := Blk.newAt _ _ (by simp only [size_alloc])
          have hB0 : Below w.heap.size w (((w.alloc (.cells #[.string m.cur, .int .i64 m.amt] 50)).alloc (.cells #[.int .i64 (N : Int), .int .i64 (D : Int)] 105)).alloc (.cells #[.string ⟨#[]⟩, .int .i64 0] 50)) := by
            refine Below.alloc (Below.alloc (Below.alloc (Below.refl _ _) ?_ _) ?_ _) ?_ _
            all_goals (try simp only [size_alloc]); omega
          have a0 := hA0.cell 0; have a1 := hA0.cell 1; have c0 := hC0.cell 0; have c1 := hC0.cell 1
          simp only [List.getElem?_toArray, List.getElem?_cons_zero, List.getElem?_cons_succ] at a0 a1 c0 c1
          have r0 := hR0.cell 0; have r1 := hR0.cell 1; have f0 := hR0.frozen 0; have f1 := hR0.frozen 1
          simp only [List.getElem?_toArray, List.getElem?_cons_zero, List.getElem?_cons_succ] at r0 r1
          go_enter Tryz.func32, Tryz.ntmps32
          go_wp2_with fail
          refine (HM.out _).mono ?_
          rintro e w1 ⟨rfl, hb1⟩
          have hR1 := hR0.below hb1 hR0.lt
          clear r0 r1 f0 f1 hR0
          have hB1 := hB0.trans (hb1.mono hB0.size)
          have hA1 := hA0.below hb1 hA0.lt
          have hC1 := hC0.below hb1 hC0.lt
          clear a0 a1 c0 c1 hB0 hA0 hC0 hb1
          have a0 := hA1.cell 0; have a1 := hA1.cell 1; have c0 := hC1.cell 0; have c1 := hC1.cell 1
          simp only [List.getElem?_toArray, List.getElem?_cons_zero, List.getElem?_cons_succ] at a0 a1 c0 c1
          have r0 := hR1.cell 0; have r1 := hR1.cell 1; have f0 := hR1.frozen 0; have f1 := hR1.frozen 1
          simp only [List.getElem?_toArray, List.getElem?_cons_zero, List.getElem?_cons_succ] at r0 r1
          go_wp2_with fail
          refine (HQ.out _).mono ?_
          rintro e w2 ⟨rfl, hb2⟩
          have hR2 := hR1.below hb2 hR1.lt
          clear r0 r1 f0 f1 hR1
          have hB2 := hB1.trans (hb2.mono hB1.size)
          have hA2 := hA1.below hb2 hA1.lt
          have hC2 := hC1.below hb2 hC1.lt
          clear a0 a1 c0 c1 hB1 hA1 hC1 hb2
          have a0 := hA2.cell 0; have a1 := hA2.cell 1; have c0 := hC2.cell 0; have c1 := hC2.cell 1
          simp only [List.getElem?_toArray, List.getElem?_cons_zero, List.getElem?_cons_succ] at a0 a1 c0 c1
          have r0 := hR2.cell 0; have r1 := hR2.cell 1; have f0 := hR2.frozen 0; have f1 := hR2.frozen 1
          simp only [List.getElem?_toArray, List.getElem?_cons_zero, List.getElem?_cons_succ] at r0 r1
          go_wp2_with fail
          refine (HP.out _).mono ?_
          rintro e w' ⟨rfl, rfl⟩
          go_wp2_with fail
          have hB3 : Below w.heap.size w (w2.alloc (.cells #[.string m.cur, .int .i64 (-(Q2 : Int))] 50)) := hB2.alloc hB2.size _
          have hA3 := hA2.alloc (.cells #[.string m.cur, .int .i64 (-(Q2 : Int))] 50)
          have hC3 := hC2.alloc (.cells #[.string m.cur, .int .i64 (-(Q2 : Int))] 50)
          have hR3 := hR2.alloc (.cells #[.string m.cur, .int .i64 (-(Q2 : Int))] 50)
          have hS3 : Blk (w2.alloc (.cells #[.string m.cur, .int .i64 (-(Q2 : Int))] 50)) w2.heap.size 50 #[.string m.cur, .int .i64 (-(Q2 : Int))] := Blk.new _ _ _
          refine (HO.out _).mono ?_
          rintro e w4 ⟨rfl, hb4⟩
          have hR4 := hR3.below hb4 hR3.lt
          have hS4 := hS3.below hb4 hS3.lt
          clear r0 r1 f0 f1 hR3 hS3
          have hB4 := hB3.trans (hb4.mono hB3.size)
          have hA4 := hA3.below hb4 hA3.lt
          have hC4 := hC3.below hb4 hC3.lt
          clear a0 a1 c0 c1 hB3 hA3 hC3 hb4
          have a0 := hA4.cell 0; have a1 := hA4.cell 1; have c0 := hC4.cell 0; have c1 := hC4.cell 1
          simp only [List.getElem?_toArray, List.getElem?_cons_zero, List.getElem?_cons_succ] at a0 a1 c0 c1
          have r0 := hR4.cell 0; have r1 := hR4.cell 1; have f0 := hR4.frozen 0; have f1 := hR4.frozen 1
          simp only [List.getElem?_toArray, List.getElem?_cons_zero, List.getElem?_cons_succ] at r0 r1
          have s0 := hS4.cell 0; have s1' := hS4.cell 1
          simp only [List.getElem?_toArray, List.getElem?_cons_zero, List.getElem?_cons_succ] at s0 s1'
          go_wp2_with (refine stop_store 50 _ _ rfl ?_; refine wpList_store_blk rfl 50 _ _ rfl #[.string (Mon.mk m.cur (-(Q2 : Int))).cur, .int .i64 (Mon.mk m.cur (-(Q2 : Int))).amt] rfl rfl hR4 (by kernel_rfl) rfl rfl ?_; intro w9 hR9 hk9 hb9)
          have hB9 := hb9 _ _ hB4 (by omega)
          clear r0 r1 f0 f1
          have r0 := hR9.cell 0; have r1 := hR9.cell 1; have f0 := hR9.frozen 0; have f1 := hR9.frozen 1
          simp only [List.getElem?_toArray, List.getElem?_cons_zero, List.getElem?_cons_succ] at r0 r1
          refine bodyPost_ret (v := .tuple #[.agg #[.string (Mon.mk m.cur (-(Q2 : Int))).cur, .int .i64 (Mon.mk m.cur (-(Q2 : Int))).amt], .bool true]) (by simp [results, Tryz.results32, go_sem, r0, r1]) rfl ⟨ret_sb e1.out, hB9⟩
        · have e1 : Hid (scaleV m N D 1 = (noM, false)) := Lib.hid (by rw [HV, if_neg hq2])
          have hm : mayM ⟨m.cur, (-(Q2 : Int))⟩ = false := by
            cases e : mayM ⟨m.cur, (-(Q2 : Int))⟩
            · rfl
            · have := (may_iff.1 e).2; simp only [] at this; omega
          rw [hm] at HO
          clear HV hm hcu
          have hA0 : Blk (((w.alloc (.cells #[.string m.cur, .int .i64 m.amt] 50)).alloc (.cells #[.int .i64 (N : Int), .int .i64 (D : Int)] 105)).alloc (.cells #[.string ⟨#[]⟩, .int .i64 0] 50)) w.heap.size 50 #[.string m.cur, .int .i64 m.amt] := Blk.more (Blk.more (Blk.new _ _ _) _) _
          have hC0 : Blk (((w.alloc (.cells #[.string m.cur, .int .i64 m.amt] 50)).alloc (.cells #[.int .i64 (N : Int), .int .i64 (D : Int)] 105)).alloc (.cells #[.string ⟨#[]⟩, .int .i64 0] 50)) (w.heap.size + 1) 105 #[.int .i64 (N : Int), .int .i64 (D : Int)] := Blk.more (Blk.newAt _ _ (by simp only [size_alloc])) _
          have hR0 : Blk (((w.alloc (.cells #[.string m.cur, .int .i64 m.amt] 50)).alloc (.cells #[.int .i64 (N : Int), .int .i64 (D : Int)] 105)).alloc (.cells #[.string ⟨#[]⟩, .int .i64 0] 50)) (w.heap.size + 1 + 1) 50 #[.string ⟨#[]⟩, .int .i64 0] := Blk.newAt _ _ (by simp only [size_alloc])
          have hB0 : Below w.heap.size w (((w.alloc (.cells #[.string m.cur, .int .i64 m.amt] 50)).alloc (.cells #[.int .i64 (N : Int), .int .i64 (D : Int)] 105)).alloc (.cells #[.string ⟨#[]⟩, .int .i64 0] 50)) := by
            refine Below.alloc (Below.alloc (Below.alloc (Below.refl _ _) ?_ _) ?_ _) ?_ _
            all_goals (try simp only [size_alloc]); omega
          have a0 := hA0.cell 0; have a1 := hA0.cell 1; have c0 := hC0.cell 0; have c1 := hC0.cell 1
          simp only [List.getElem?_toArray, List.getElem?_cons_zero, List.getElem?_cons_succ] at a0 a1 c0 c1
          have r0 := hR0.cell 0; have r1 := hR0.cell 1; have f0 := hR0.frozen 0; have f1 := hR0.frozen 1
          simp only [List.getElem?_toArray, List.getElem?_cons_zero, List.getElem?_cons_succ] at r0 r1
          go_enter Tryz.func32, Tryz.ntmps32
          go_wp2_with fail
          refine (HM.out _).mono ?_
          rintro e w1 ⟨rfl, hb1⟩
          have hR1 := hR0.below hb1 hR0.lt
          clear r0 r1 f0 f1 hR0
          have hB1 := hB0.trans (hb1.mono hB0.size)
          have hA1 := hA0.below hb1 hA0.lt
          have hC1 := hC0.below hb1 hC0.lt
          clear a0 a1 c0 c1 hB0 hA0 hC0 hb1
          have a0 := hA1.cell 0; have a1 := hA1.cell 1; have c0 := hC1.cell 0; have c1 := hC1.cell 1
          simp only [List.getElem?_toArray, List.getElem?_cons_zero, List.getElem?_cons_succ] at a0 a1 c0 c1
          have r0 := hR1.cell 0; have r1 := hR1.cell 1; have f0 := hR1.frozen 0; have f1 := hR1.frozen 1
          simp only [List.getElem?_toArray, List.getElem?_cons_zero, List.getElem?_cons_succ] at r0 r1
          go_wp2_with fail
          refine (HQ.out _).mono ?_
          rintro e w2 ⟨rfl, hb2⟩
          have hR2 := hR1.below hb2 hR1.lt
          clear r0 r1 f0 f1 hR1
          have hB2 := hB1.trans (hb2.mono hB1.size)
          have hA2 := hA1.below hb2 hA1.lt
          have hC2 := hC1.below hb2 hC1.lt
          clear a0 a1 c0 c1 hB1 hA1 hC1 hb2
          have a0 := hA2.cell 0; have a1 := hA2.cell 1; have c0 := hC2.cell 0; have c1 := hC2.cell 1
          simp only [List.getElem?_toArray, List.getElem?_cons_zero, List.getElem?_cons_succ] at a0 a1 c0 c1
          have r0 := hR2.cell 0; have r1 := hR2.cell 1; have f0 := hR2.frozen 0; have f1 := hR2.frozen 1
          simp only [List.getElem?_toArray, List.getElem?_cons_zero, List.getElem?_cons_succ] at r0 r1
          go_wp2_with fail
          refine (HP.out _).mono ?_
          rintro e w' ⟨rfl, rfl⟩
          go_wp2_with fail
          have hB3 : Below w.heap.size w (w2.alloc (.cells #[.string m.cur, .int .i64 (-(Q2 : Int))] 50)) := hB2.alloc hB2.size _
          have hA3 := hA2.alloc (.cells #[.string m.cur, .int .i64 (-(Q2 : Int))] 50)
          have hC3 := hC2.alloc (.cells #[.string m.cur, .int .i64 (-(Q2 : Int))] 50)
          have hR3 := hR2.alloc (.cells #[.string m.cur, .int .i64 (-(Q2 : Int))] 50)
          have hS3 : Blk (w2.alloc (.cells #[.string m.cur, .int .i64 (-(Q2 : Int))] 50)) w2.heap.size 50 #[.string m.cur, .int .i64 (-(Q2 : Int))] := Blk.new _ _ _
          refine (HO.out _).mono ?_
          rintro e w4 ⟨rfl, hb4⟩
          have hR4 := hR3.below hb4 hR3.lt
          have hS4 := hS3.below hb4 hS3.lt
          clear r0 r1 f0 f1 hR3 hS3
          have hB4 := hB3.trans (hb4.mono hB3.size)
          have hA4 := hA3.below hb4 hA3.lt
          have hC4 := hC3.below hb4 hC3.lt
          clear a0 a1 c0 c1 hB3 hA3 hC3 hb4
          have a0 := hA4.cell 0; have a1 := hA4.cell 1; have c0 := hC4.cell 0; have c1 := hC4.cell 1
          simp only [List.getElem?_toArray, List.getElem?_cons_zero, List.getElem?_cons_succ] at a0 a1 c0 c1
          have r0 := hR4.cell 0; have r1 := hR4.cell 1; have f0 := hR4.frozen 0; have f1 := hR4.frozen 1
          simp only [List.getElem?_toArray, List.getElem?_cons_zero, List.getElem?_cons_succ] at r0 r1
          have s0 := hS4.cell 0; have s1' := hS4.cell 1
          simp only [List.getElem?_toArray, List.getElem?_cons_zero, List.getElem?_cons_succ] at s0 s1'
          go_wp2_with (refine stop_store 50 _ _ rfl ?_; refine wpList_store_blk rfl 50 _ _ rfl #[.string noM.cur, .int .i64 noM.amt] rfl rfl hR4 (by kernel_rfl) rfl rfl ?_; intro w9 hR9 hk9 hb9)
          have hB9 := hb9 _ _ hB4 (by omega)
          clear r0 r1 f0 f1
          have r0 := hR9.cell 0; have r1 := hR9.cell 1; have f0 := hR9.frozen 0; have f1 := hR9.frozen 1
          simp only [List.getElem?_toArray, List.getElem?_cons_zero, List.getElem?_cons_succ] at r0 r1
          refine bodyPost_ret (v := .tuple #[.agg #[.string noM.cur, .int .i64 noM.amt], .bool false]) (by simp [results, Tryz.results32, go_sem, r0, r1]) rfl ⟨ret_sb e1.out, hB9⟩
    · rw [if_neg hq] at HP
      simp only [] at HP
      have e1 : Hid (scaleV m N D 1 = (noM, false)) := Lib.hid (by rw [HV, HSC.out, if_neg (by omega)])
      clear HV HSC hq hcu hc
      have hA0 : Blk (((w.alloc (.cells #[.string m.cur, .int .i64 m.amt] 50)).alloc (.cells #[.int .i64 (N : Int), .int .i64 (D : Int)] 105)).alloc (.cells #[.string ⟨#[]⟩, .int .i64 0] 50)) w.heap.size 50 #[.string m.cur, .int .i64 m.amt] := Blk.more (Blk.more (Blk.new _ _ _) _) _
      have hC0 : Blk (((w.alloc (.cells #[.string m.cur, .int .i64 m.amt] 50)).alloc (.cells #[.int .i64 (N : Int), .int .i64 (D : Int)] 105)).alloc (.cells #[.string ⟨#[]⟩, .int .i64 0] 50)) (w.heap.size + 1) 105 #[.int .i64 (N : Int), .int .i64 (D : Int)] := Blk.more (Blk.newAt _ _ (by simp only [size_alloc])) _
      have hR0 : Blk (((w.alloc (.cells #[.string m.cur, .int .i64 m.amt] 50)).alloc (.cells #[.int .i64 (N : Int), .int .i64 (D : Int)] 105)).alloc (.cells #[.string ⟨#[]⟩, .int .i64 0] 50)) (w.heap.size + 1 + 1) 50 #[.string ⟨#[]⟩, .int .i64 0] := Blk.newAt _ _ (by simp only [size_alloc])
      have hB0 : Below w.heap.size w (((w.alloc (.cells #[.string m.cur, .int .i64 m.amt] 50)).alloc (.cells #[.int .i64 (N : Int), .int .i64 (D : Int)] 105)).alloc (.cells #[.string ⟨#[]⟩, .int .i64 0] 50)) := by
        refine Below.alloc (Below.alloc (Below.alloc (Below.refl _ _) ?_ _) ?_ _) ?_ _
        all_goals (try simp only [size_alloc]); omega
      have a0 := hA0.cell 0; have a1 := hA0.cell 1; have c0 := hC0.cell 0; have c1 := hC0.cell 1
      simp only [List.getElem?_toArray, List.getElem?_cons_zero, List.getElem?_cons_succ] at a0 a1 c0 c1
      have r0 := hR0.cell 0; have r1 := hR0.cell 1; have f0 := hR0.frozen 0; have f1 := hR0.frozen 1
      simp only [List.getElem?_toArray, List.getElem?_cons_zero, List.getElem?_cons_succ] at r0 r1
      go_enter Tryz.func32, Tryz.ntmps32
      go_wp2_with fail
      refine (HM.out _).mono ?_
      rintro e w1 ⟨rfl, hb1⟩
      have hR1 := hR0.below hb1 hR0.lt
      clear r0 r1 f0 f1 hR0
      have hB1 := hB0.trans (hb1.mono hB0.size)
      have hA1 := hA0.below hb1 hA0.lt
      have hC1 := hC0.below hb1 hC0.lt
      clear a0 a1 c0 c1 hB0 hA0 hC0 hb1
      have a0 := hA1.cell 0; have a1 := hA1.cell 1; have c0 := hC1.cell 0; have c1 := hC1.cell 1
      simp only [List.getElem?_toArray, List.getElem?_cons_zero, List.getElem?_cons_succ] at a0 a1 c0 c1
      have r0 := hR1.cell 0; have r1 := hR1.cell 1; have f0 := hR1.frozen 0; have f1 := hR1.frozen 1
      simp only [List.getElem?_toArray, List.getElem?_cons_zero, List.getElem?_cons_succ] at r0 r1
      go_wp2_with fail
      refine (HQ.out _).mono ?_
      rintro e w2 ⟨rfl, hb2⟩
      have hR2 := hR1.below hb2 hR1.lt
      clear r0 r1 f0 f1 hR1
      have hB2 := hB1.trans (hb2.mono hB1.size)
      have hA2 := hA1.below hb2 hA1.lt
      have hC2 := hC1.below hb2 hC1.lt
      clear a0 a1 c0 c1 hB1 hA1 hC1 hb2
      have a0 := hA2.cell 0; have a1 := hA2.cell 1; have c0 := hC2.cell 0; have c1 := hC2.cell 1
      simp only [List.getElem?_toArray, List.getElem?_cons_zero, List.getElem?_cons_succ] at a0 a1 c0 c1
      have r0 := hR2.cell 0; have r1 := hR2.cell 1; have f0 := hR2.frozen 0; have f1 := hR2.frozen 1
      simp only [List.getElem?_toArray, List.getElem?_cons_zero, List.getElem?_cons_succ] at r0 r1
      go_wp2_with fail
      refine (HP.out _).mono ?_
      rintro e w' ⟨rfl, rfl⟩
      go_wp2_with (refine stop_store 50 _ _ rfl ?_; refine wpList_store_blk rfl 50 _ _ rfl #[.string noM.cur, .int .i64 noM.amt] rfl rfl hR2 (by kernel_rfl) rfl rfl ?_; intro w9 hR9 hk9 hb9)
      have hB9 := hb9 _ _ hB2 (by omega)
      clear r0 r1 f0 f1
      have r0 := hR9.cell 0; have r1 := hR9.cell 1; have f0 := hR9.frozen 0; have f1 := hR9.frozen 1
      simp only [List.getElem?_toArray, List.getElem?_cons_zero, List.getElem?_cons_succ] at r0 r1
      refine bodyPost_ret (v := .tuple #[.agg #[.string noM.cur, .int .i64 noM.amt], .bool false]) (by simp [results, Tryz.results32, go_sem, r0, r1]) rfl ⟨ret_sb e1.out, hB9⟩
  · rw [show (A : Int) = m.amt by omega] at HP
    clear hA
    by_cases hq : Q ≤ 2199023255552
    · rw [if_pos hq] at HP
      simp only [] at HP
      by_cases hR0 : 0 < R
      · have d0 : decide ((0 : Int) < (R : Int)) = true := decide_eq_true (by omega)
        have d0n : decide (0 < R) = true := decide_eq_true hR0
        have hX : moreB 1 R D = true := d0n
        obtain ⟨Q2, hQ2⟩ : ∃ Q2, Q + 1 = Q2 := ⟨_, rfl⟩
        have hQ2i : (Q : Int) + 1 = (Q2 : Int) := by omega
        have hs : scQ 1 A N D = Q2 := by rw [HSC.out, hX, ← hQ2]; simp
        rw [hs] at HV
        have hQ2b : Q2 ≤ 9000000000000000000 := by omega
        have w2 : wrap64 (-(Q2 : Int)) = -(Q2 : Int) := w64_id ⟨by omega, by omega⟩
        have HO := Lib.hid (fun w => rmay_any ⟨m.cur, (Q2 : Int)⟩ w hc)
        clear hQ2 hX HSC hs
        by_cases hq2 : Q2 ≤ 1099511627776
        · have e1 : Hid (scaleV m N D 1 = (⟨m.cur, (Q2 : Int)⟩, true)) := Lib.hid (by rw [HV, if_pos hq2, if_neg hneg])
          have hm : mayM ⟨m.cur, (Q2 : Int)⟩ = true := may_iff.2 ⟨hcu, by simp only []; omega⟩
          rw [hm] at HO
          clear HV hm hcu
          have hA0 : Blk (((w.alloc (.cells #[.string m.cur, .int .i64 m.amt] 50)).alloc (.cells #[.int .i64 (N : Int), .int .i64 (D : Int)] 105)).alloc (.cells #[.string ⟨#[]⟩, .int .i64 0] 50)) w.heap.size 50 #[.string m.cur, .int .i64 m.amt] := Blk.more (Blk.more (Blk.new _ _ _) _) _
          have hC0 : Blk (((w.alloc (.cells #[.string m.cur, .int .i64 m.amt] 50)).alloc (.cells #[.int .i64 (N : Int), .int .i64 (D : Int)] 105)).alloc (.cells #[.string ⟨#[]⟩, .int .i64 0] 50)) (w.heap.size + 1) 105 #[.int .i64 (N : Int), .int .i64 (D : Int)] := Blk.more (Blk.newAt _ _ (by simp only [size_alloc])) _
          have hR0 : Blk (((w.alloc (.cells #[.string m.cur, .int .i64 m.amt] 50)).alloc (.cells #[.int .i64 (N : Int), .int .i64 (D : Int)] 105)).alloc (.cells #[.string ⟨#[]⟩, .int .i64 0] 50)) (w.heap.size + 1 + 1) 50 #[.string ⟨#[]⟩, .int .i64 0] := Blk.newAt _ _ (by simp only [size_alloc])
          have hB0 : Below w.heap.size w (((w.alloc (.cells #[.string m.cur, .int .i64 m.amt] 50)).alloc (.cells #[.int .i64 (N : Int), .int .i64 (D : Int)] 105)).alloc (.cells #[.string ⟨#[]⟩, .int .i64 0] 50)) := by
            refine Below.alloc (Below.alloc (Below.alloc (Below.refl _ _) ?_ _) ?_ _) ?_ _
            all_goals (try simp only [size_alloc]); omega
          have a0 := hA0.cell 0; have a1 := hA0.cell 1; have c0 := hC0.cell 0; have c1 := hC0.cell 1
          simp only [List.getElem?_toArray, List.getElem?_cons_zero, List.getElem?_cons_succ] at a0 a1 c0 c1
          have r0 := hR0.cell 0; have r1 := hR0.cell 1; have f0 := hR0.frozen 0; have f1 := hR0.frozen 1
          simp only [List.getElem?_toArray, List.getElem?_cons_zero, List.getElem?_cons_succ] at r0 r1
          go_enter Tryz.func32, Tryz.ntmps32
          go_wp2_with fail
          refine (HM.out _).mono ?_
          rintro e w1 ⟨rfl, hb1⟩
          have hR1 := hR0.below hb1 hR0.lt
          clear r0 r1 f0 f1 hR0
          have hB1 := hB0.trans (hb1.mono hB0.size)
          have hA1 := hA0.below hb1 hA0.lt
          have hC1 := hC0.below hb1 hC0.lt
          clear a0 a1 c0 c1 hB0 hA0 hC0 hb1
          have a0 := hA1.cell 0; have a1 := hA1.cell 1; have c0 := hC1.cell 0; have c1 := hC1.cell 1
          simp only [List.getElem?_toArray, List.getElem?_cons_zero, List.getElem?_cons_succ] at a0 a1 c0 c1
          have r0 := hR1.cell 0; have r1 := hR1.cell 1; have f0 := hR1.frozen 0; have f1 := hR1.frozen 1
          simp only [List.getElem?_toArray, List.getElem?_cons_zero, List.getElem?_cons_succ] at r0 r1
          go_wp2_with fail
          refine (HQ.out _).mono ?_
          rintro e w2 ⟨rfl, hb2⟩
          have hR2 := hR1.below hb2 hR1.lt
          clear r0 r1 f0 f1 hR1
          have hB2 := hB1.trans (hb2.mono hB1.size)
          have hA2 := hA1.below hb2 hA1.lt
          have hC2 := hC1.below hb2 hC1.lt
          clear a0 a1 c0 c1 hB1 hA1 hC1 hb2
          have a0 := hA2.cell 0; have a1 := hA2.cell 1; have c0 := hC2.cell 0; have c1 := hC2.cell 1
          simp only [List.getElem?_toArray, List.getElem?_cons_zero, List.getElem?_cons_succ] at a0 a1 c0 c1
          have r0 := hR2.cell 0; have r1 := hR2.cell 1; have f0 := hR2.frozen 0; have f1 := hR2.frozen 1
          simp only [List.getElem?_toArray, List.getElem?_cons_zero, List.getElem?_cons_succ] at r0 r1
          go_wp2_with fail
          refine (HP.out _).mono ?_
          rintro e w' ⟨rfl, rfl⟩
          go_wp2_with fail
          have hB3 : Below w.heap.size w (w2.alloc (.cells #[.string m.cur, .int .i64 (Q2 : Int)] 50)) := hB2.alloc hB2.size _
          have hA3 := hA2.alloc (.cells #[.string m.cur, .int .i64 (Q2 : Int)] 50)
          have hC3 := hC2.alloc (.cells #[.string m.cur, .int .i64 (Q2 : Int)] 50)
          have hR3 := hR2.alloc (.cells #[.string m.cur, .int .i64 (Q2 : Int)] 50)
          have hS3 : Blk (w2.alloc (.cells #[.string m.cur, .int .i64 (Q2 : Int)] 50)) w2.heap.size 50 #[.string m.cur, .int .i64 (Q2 : Int)] := Blk.new _ _ _
          refine (HO.out _).mono ?_
          rintro e w4 ⟨rfl, hb4⟩
          have hR4 := hR3.below hb4 hR3.lt
          have hS4 := hS3.below hb4 hS3.lt
          clear r0 r1 f0 f1 hR3 hS3
          have hB4 := hB3.trans (hb4.mono hB3.size)
          have hA4 := hA3.below hb4 hA3.lt
          have hC4 := hC3.below hb4 hC3.lt
          clear a0 a1 c0 c1 hB3 hA3 hC3 hb4
          have a0 := hA4.cell 0; have a1 := hA4.cell 1; have c0 := hC4.cell 0; have c1 := hC4.cell 1
          simp only [List.getElem?_toArray, List.getElem?_cons_zero, List.getElem?_cons_succ] at a0 a1 c0 c1
          have r0 := hR4.cell 0; have r1 := hR4.cell 1; have f0 := hR4.frozen 0; have f1 := hR4.frozen 1
          simp only [List.getElem?_toArray, List.getElem?_cons_zero, List.getElem?_cons_succ] at r0 r1
          have s0 := hS4.cell 0; have s1' := hS4.cell 1
          simp only [List.getElem?_toArray, List.getElem?_cons_zero, List.getElem?_cons_succ] at s0 s1'
          go_wp2_with (refine stop_store 50 _ _ rfl ?_; refine wpList_store_blk rfl 50 _ _ rfl #[.string (Mon.mk m.cur (Q2 : Int)).cur, .int .i64 (Mon.mk m.cur (Q2 : Int)).amt] rfl rfl hR4 (by kernel_rfl) rfl rfl ?_; intro w9 hR9 hk9 hb9)
          have hB9 := hb9 _ _ hB4 (by omega)
          clear r0 r1 f0 f1
          have r0 := hR9.cell 0; have r1 := hR9.cell 1; have f0 := hR9.frozen 0; have f1 := hR9.frozen 1
          simp only [List.getElem?_toArray, List.getElem?_cons_zero, List.getElem?_cons_succ] at r0 r1
          refine bodyPost_ret (v := .tuple #[.agg #[.string (Mon.mk m.cur (Q2 : Int)).cur, .int .i64 (Mon.mk m.cur (Q2 : Int)).amt], .bool true]) (by simp [results, Tryz.results32, go_sem, r0, r1]) rfl ⟨ret_sb e1.out, hB9⟩
        · have e1 : Hid (scaleV m N D 1 = (noM, false)) := Lib.hid (by rw [HV, if_neg hq2])
          have hm : mayM ⟨m.cur, (Q2 : Int)⟩ = false := by
            cases e : mayM ⟨m.cur, (Q2 : Int)⟩
            · rfl
            · have := (may_iff.1 e).2; simp only [] at this; omega
          rw [hm] at HO
          clear HV hm hcu
          have hA0 : Blk (((w.alloc (.cells #[.string m.cur, .int .i64 m.amt] 50)).alloc (.cells #[.int .i64 (N : Int), .int .i64 (D : Int)] 105)).alloc (.cells #[.string ⟨#[]⟩, .int .i64 0] 50)) w.heap.size 50 #[.string m.cur, .int .i64 m.amt] := Blk.more (Blk.more (Blk.new _ _ _) _) _
          have hC0 : Blk (((w.alloc (.cells #[.string m.cur, .int .i64 m.amt] 50)).alloc (.cells #[.int .i64 (N : Int), .int .i64 (D : Int)] 105)).alloc (.cells #[.string ⟨#[]⟩, .int .i64 0] 50)) (w.heap.size + 1) 105 #[.int .i64 (N : Int), .int .i64 (D : Int)] := Blk.more (Blk.newAt _ _ (by simp only [size_alloc])) _
          have hR0 : Blk (((w.alloc (.cells #[.string m.cur, .int .i64 m.amt] 50)).alloc (.cells #[.int .i64 (N : Int), .int .i64 (D : Int)] 105)).alloc (.cells #[.string ⟨#[]⟩, .int .i64 0] 50)) (w.heap.size + 1 + 1) 50 #[.string ⟨#[]⟩, .int .i64 0] := Blk.newAt _ _ (by simp only [size_alloc])
          have hB0 : Below w.heap.size w (((w.alloc (.cells #[.string m.cur, .int .i64 m.amt] 50)).alloc (.cells #[.int .i64 (N : Int), .int .i64 (D : Int)] 105)).alloc (.cells #[.string ⟨#[]⟩, .int .i64 0] 50)) := by
            refine Below.alloc (Below.alloc (Below.alloc (Below.refl _ _) ?_ _) ?_ _) ?_ _
            all_goals (try simp only [size_alloc]); omega
          have a0 := hA0.cell 0; have a1 := hA0.cell 1; have c0 := hC0.cell 0; have c1 := hC0.cell 1
          simp only [List.getElem?_toArray, List.getElem?_cons_zero, List.getElem?_cons_succ] at a0 a1 c0 c1
          have r0 := hR0.cell 0; have r1 := hR0.cell 1; have f0 := hR0.frozen 0; have f1 := hR0.frozen 1
          simp only [List.getElem?_toArray, List.getElem?_cons_zero, List.getElem?_cons_succ] at r0 r1
          go_enter Tryz.func32, Tryz.ntmps32
          go_wp2_with fail
          refine (HM.out _).mono ?_
          rintro e w1 ⟨rfl, hb1⟩
          have hR1 := hR0.below hb1 hR0.lt
          clear r0 r1 f0 f1 hR0
          have hB1 := hB0.trans (hb1.mono hB0.size)
          have hA1 := hA0.below hb1 hA0.lt
          have hC1 := hC0.below hb1 hC0.lt
          clear a0 a1 c0 c1 hB0 hA0 hC0 hb1
          have a0 := hA1.cell 0; have a1 := hA1.cell 1; have c0 := hC1.cell 0; have c1 := hC1.cell 1
          simp only [List.getElem?_toArray, List.getElem?_cons_zero, List.getElem?_cons_succ] at a0 a1 c0 c1
          have r0 := hR1.cell 0; have r1 := hR1.cell 1; have f0 := hR1.frozen 0; have f1 := hR1.frozen 1
          simp only [List.getElem?_toArray, List.getElem?_cons_zero, List.getElem?_cons_succ] at r0 r1
          go_wp2_with fail
          refine (HQ.out _).mono ?_
          rintro e w2 ⟨rfl, hb2⟩
          have hR2 := hR1.below hb2 hR1.lt
          clear r0 r1 f0 f1 hR1
          have hB2 := hB1.trans (hb2.mono hB1.size)
          have hA2 := hA1.below hb2 hA1.lt
          have hC2 := hC1.below hb2 hC1.lt
          clear a0 a1 c0 c1 hB1 hA1 hC1 hb2
          have a0 := hA2.cell 0; have a1 := hA2.cell 1; have c0 := hC2.cell 0; have c1 := hC2.cell 1
          simp only [List.getElem?_toArray, List.getElem?_cons_zero, List.getElem?_cons_succ] at a0 a1 c0 c1
          have r0 := hR2.cell 0; have r1 := hR2.cell 1; have f0 := hR2.frozen 0; have f1 := hR2.frozen 1
          simp only [List.getElem?_toArray, List.getElem?_cons_zero, List.getElem?_cons_succ] at r0 r1
          go_wp2_with fail
          refine (HP.out _).mono ?_
          rintro e w' ⟨rfl, rfl⟩
          go_wp2_with fail
          have hB3 : Below w.heap.size w (w2.alloc (.cells #[.string m.cur, .int .i64 (Q2 : Int)] 50)) := hB2.alloc hB2.size _
          have hA3 := hA2.alloc (.cells #[.string m.cur, .int .i64 (Q2 : Int)] 50)
          have hC3 := hC2.alloc (.cells #[.string m.cur, .int .i64 (Q2 : Int)] 50)
          have hR3 := hR2.alloc (.cells #[.string m.cur, .int .i64 (Q2 : Int)] 50)
          have hS3 : Blk (w2.alloc (.cells #[.string m.cur, .int .i64 (Q2 : Int)] 50)) w2.heap.size 50 #[.string m.cur, .int .i64 (Q2 : Int)] := Blk.new _ _ _
          refine (HO.out _).mono ?_
          rintro e w4 ⟨rfl, hb4⟩
          have hR4 := hR3.below hb4 hR3.lt
          have hS4 := hS3.below hb4 hS3.lt
          clear r0 r1 f0 f1 hR3 hS3
          have hB4 := hB3.trans (hb4.mono hB3.size)
          have hA4 := hA3.below hb4 hA3.lt
          have hC4 := hC3.below hb4 hC3.lt
          clear a0 a1 c0 c1 hB3 hA3 hC3 hb4
          have a0 := hA4.cell 0; have a1 := hA4.cell 1; have c0 := hC4.cell 0; have c1 := hC4.cell 1
          simp only [List.getElem?_toArray, List.getElem?_cons_zero, List.getElem?_cons_succ] at a0 a1 c0 c1
          have r0 := hR4.cell 0; have r1 := hR4.cell 1; have f0 := hR4.frozen 0; have f1 := hR4.frozen 1
          simp only [List.getElem?_toArray, List.getElem?_cons_zero, List.getElem?_cons_succ] at r0 r1
          have s0 := hS4.cell 0; have s1' := hS4.cell 1
          simp only [List.getElem?_toArray, List.getElem?_cons_zero, List.getElem?_cons_succ] at s0 s1'
          go_wp2_with (refine stop_store 50 _ _ rfl ?_; refine wpList_store_blk rfl 50 _ _ rfl #[.string noM.cur, .int .i64 noM.amt] rfl rfl hR4 (by kernel_rfl) rfl rfl ?_; intro w9 hR9 hk9 hb9)
          have hB9 := hb9 _ _ hB4 (by omega)
          clear r0 r1 f0 f1
          have r0 := hR9.cell 0; have r1 := hR9.cell 1; have f0 := hR9.frozen 0; have f1 := hR9.frozen 1
          simp only [List.getElem?_toArray, List.getElem?_cons_zero, List.getElem?_cons_succ] at r0 r1
          refine bodyPost_ret (v := .tuple #[.agg #[.string noM.cur, .int .i64 noM.amt], .bool false]) (by simp [results, Tryz.results32, go_sem, r0, r1]) rfl ⟨ret_sb e1.out, hB9⟩
      · have d0 : decide ((0 : Int) < (R : Int)) = false := decide_eq_false (by omega)
        have d0n : decide (0 < R) = false := decide_eq_false hR0
        have hX : moreB 1 R D = false := d0n
        obtain ⟨Q2, hQ2⟩ : ∃ Q2, Q + 0 = Q2 := ⟨_, rfl⟩
        have hQ2i : (Q : Int) = (Q2 : Int) := by omega
        have hs : scQ 1 A N D = Q2 := by rw [HSC.out, hX, ← hQ2]; simp
        rw [hs] at HV
        have hQ2b : Q2 ≤ 9000000000000000000 := by omega
        have w2 : wrap64 (-(Q2 : Int)) = -(Q2 : Int) := w64_id ⟨by omega, by omega⟩
        have HO := Lib.hid (fun w => rmay_any ⟨m.cur, (Q2 : Int)⟩ w hc)
        clear hQ2 hX HSC hs
        by_cases hq2 : Q2 ≤ 1099511627776
        · have e1 : Hid (scaleV m N D 1 = (⟨m.cur, (Q2 : Int)⟩, true)) := Lib.hid (by rw [HV, if_pos hq2, if_neg hneg])
          have hm : mayM ⟨m.cur, (Q2 : Int)⟩ = true := may_iff.2 ⟨hcu, by simp only []; omega⟩
          rw [hm] at HO
          clear HV hm hcu
          have hA0 : Blk (((w.alloc (.cells #[.string m.cur, .int .i64 m.amt] 50)).alloc (.cells #[.int .i64 (N : Int), .int .i64 (D : Int)] 105)).alloc (.cells #[.string ⟨#[]⟩, .int .i64 0] 50)) w.heap.size 50 #[.string m.cur, .int .i64 m.amt] := Blk.more (Blk.more (Blk.new _ _ _) _) _
          have hC0 : Blk (((w.alloc (.cells #[.string m.cur, .int .i64 m.amt] 50)).alloc (.cells #[.int .i64 (N : Int), .int .i64 (D : Int)] 105)).alloc (.cells #[.string ⟨#[]⟩, .int .i64 0] 50)) (w.heap.size + 1) 105 #[.int .i64 (N : Int), .int .i64 (D : Int)] := Blk.more (Blk.newAt _ _ (by simp only [size_alloc])) _
          have hR0 : Blk (((w.alloc (.cells #[.string m.cur, .int .i64 m.amt] 50)).alloc (.cells #[.int .i64 (N : Int), .int .i64 (D : Int)] 105)).alloc (.cells #[.string ⟨#[]⟩, .int .i64 0] 50)) (w.heap.size + 1 + 1) 50 #[.string ⟨#[]⟩, .int .i64 0] := Blk.newAt _ _ (by simp only [size_alloc])
          have hB0 : Below w.heap.size w (((w.alloc (.cells #[.string m.cur, .int .i64 m.amt] 50)).alloc (.cells #[.int .i64 (N : Int), .int .i64 (D : Int)] 105)).alloc (.cells #[.string ⟨#[]⟩, .int .i64 0] 50)) := by
            refine Below.alloc (Below.alloc (Below.alloc (Below.refl _ _) ?_ _) ?_ _) ?_ _
            all_goals (try simp only [size_alloc]); omega
          have a0 := hA0.cell 0; have a1 := hA0.cell 1; have c0 := hC0.cell 0; have c1 := hC0.cell 1
          simp only [List.getElem?_toArray, List.getElem?_cons_zero, List.getElem?_cons_succ] at a0 a1 c0 c1
          have r0 := hR0.cell 0; have r1 := hR0.cell 1; have f0 := hR0.frozen 0; have f1 := hR0.frozen 1
          simp only [List.getElem?_toArray, List.getElem?_cons_zero, List.getElem?_cons_succ] at r0 r1
          go_enter Tryz.func32, Tryz.ntmps32
          go_wp2_with fail
          refine (HM.out _).mono ?_
          rintro e w1 ⟨rfl, hb1⟩
          have hR1 := hR0.below hb1 hR0.lt
          clear r0 r1 f0 f1 hR0
          have hB1 := hB0.trans (hb1.mono hB0.size)
          have hA1 := hA0.below hb1 hA0.lt
          have hC1 := hC0.below hb1 hC0.lt
          clear a0 a1 c0 c1 hB0 hA0 hC0 hb1
          have a0 := hA1.cell 0; have a1 := hA1.cell 1; have c0 := hC1.cell 0; have c1 := hC1.cell 1
          simp only [List.getElem?_toArray, List.getElem?_cons_zero, List.getElem?_cons_succ] at a0 a1 c0 c1
          have r0 := hR1.cell 0; have r1 := hR1.cell 1; have f0 := hR1.frozen 0; have f1 := hR1.frozen 1
          simp only [List.getElem?_toArray, List.getElem?_cons_zero, List.getElem?_cons_succ] at r0 r1
          go_wp2_with fail
          refine (HQ.out _).mono ?_
          rintro e w2 ⟨rfl, hb2⟩
          have hR2 := hR1.below hb2 hR1.lt
          clear r0 r1 f0 f1 hR1
          have hB2 := hB1.trans (hb2.mono hB1.size)
          have hA2 := hA1.below hb2 hA1.lt
          have hC2 := hC1.below hb2 hC1.lt
          clear a0 a1 c0 c1 hB1 hA1 hC1 hb2
          have a0 := hA2.cell 0; have a1 := hA2.cell 1; have c0 := hC2.cell 0; have c1 := hC2.cell 1
          simp only [List.getElem?_toArray, List.getElem?_cons_zero, List.getElem?_cons_succ] at a0 a1 c0 c1
          have r0 := hR2.cell 0; have r1 := hR2.cell 1; have f0 := hR2.frozen 0; have f1 := hR2.frozen 1
          simp only [List.getElem?_toArray, List.getElem?_cons_zero, List.getElem?_cons_succ] at r0 r1
          go_wp2_with fail
          refine (HP.out _).mono ?_
          rintro e w' ⟨rfl, rfl⟩
          go_wp2_with fail
          have hB3 : Below w.heap.size w (w2.alloc (.cells #[.string m.cur, .int .i64 (Q2 : Int)] 50)) := hB2.alloc hB2.size _
          have hA3 := hA2.alloc (.cells #[.string m.cur, .int .i64 (Q2 : Int)] 50)
          have hC3 := hC2.alloc (.cells #[.string m.cur, .int .i64 (Q2 : Int)] 50)
          have hR3 := hR2.alloc (.cells #[.string m.cur, .int .i64 (Q2 : Int)] 50)
          have hS3 : Blk (w2.alloc (.cells #[.string m.cur, .int .i64 (Q2 : Int)] 50)) w2.heap.size 50 #[.string m.cur, .int .i64 (Q2 : Int)] := Blk.new _ _ _
          refine (HO.out _).mono ?_
          rintro e w4 ⟨rfl, hb4⟩
          have hR4 := hR3.below hb4 hR3.lt
          have hS4 := hS3.below hb4 hS3.lt
          clear r0 r1 f0 f1 hR3 hS3
          have hB4 := hB3.trans (hb4.mono hB3.size)
          have hA4 := hA3.below hb4 hA3.lt
          have hC4 := hC3.below hb4 hC3.lt
          clear a0 a1 c0 c1 hB3 hA3 hC3 hb4
          have a0 := hA4.cell 0; have a1 := hA4.cell 1; have c0 := hC4.cell 0; have c1 := hC4.cell 1
          simp only [List.getElem?_toArray, List.getElem?_cons_zero, List.getElem?_cons_succ] at a0 a1 c0 c1
          have r0 := hR4.cell 0; have r1 := hR4.cell 1; have f0 := hR4.frozen 0; have f1 := hR4.frozen 1
          simp only [List.getElem?_toArray, List.getElem?_cons_zero, List.getElem?_cons_succ] at r0 r1
          have s0 := hS4.cell 0; have s1' := hS4.cell 1
          simp only [List.getElem?_toArray, List.getElem?_cons_zero, List.getElem?_cons_succ] at s0 s1'
          go_wp2_with (refine stop_store 50 _ _ rfl ?_; refine wpList_store_blk rfl 50 _ _ rfl #[.string (Mon.mk m.cur (Q2 : Int)).cur, .int .i64 (Mon.mk m.cur (Q2 : Int)).amt] rfl rfl hR4 (by kernel_rfl) rfl rfl ?_; intro w9 hR9 hk9 hb9)
          have hB9 := hb9 _ _ hB4 (by omega)
          clear r0 r1 f0 f1
          have r0 := hR9.cell 0; have r1 := hR9.cell 1; have f0 := hR9.frozen 0; have f1 := hR9.frozen 1
          simp only [List.getElem?_toArray, List.getElem?_cons_zero, List.getElem?_cons_succ] at r0 r1
          refine bodyPost_ret (v := .tuple #[.agg #[.string (Mon.mk m.cur (Q2 : Int)).cur, .int .i64 (Mon.mk m.cur (Q2 : Int)).amt], .bool true]) (by simp [results, Tryz.results32, go_sem, r0, r1]) rfl ⟨ret_sb e1.out, hB9⟩
        · have e1 : Hid (scaleV m N D 1 = (noM, false)) := Lib.hid (by rw [HV, if_neg hq2])
          have hm : mayM ⟨m.cur, (Q2 : Int)⟩ = false := by
            cases e : mayM ⟨m.cur, (Q2 : Int)⟩
            · rfl
            · have := (may_iff.1 e).2; simp only [] at this; omega
          rw [hm] at HO
          clear HV hm hcu
          have hA0 : Blk (((w.alloc (.cells #[.string m.cur, .int .i64 m.amt] 50)).alloc (.cells #[.int .i64 (N : Int), .int .i64 (D : Int)] 105)).alloc (.cells #[.string ⟨#[]⟩, .int .i64 0] 50)) w.heap.size 50 #[.string m.cur, .int .i64 m.amt] := Blk.more (Blk.more (Blk.new _ _ _) _) _
          have hC0 : Blk (((w.alloc (.cells #[.string m.cur, .int .i64 m.amt] 50)).alloc (.cells #[.int .i64 (N : Int), .int .i64 (D : Int)] 105)).alloc (.cells #[.string ⟨#[]⟩, .int .i64 0] 50)) (w.heap.size + 1) 105 #[.int .i64 (N : Int), .int .i64 (D : Int)] := Blk.more (Blk.newAt _ _ (by simp only [size_alloc])) _
          have hR0 : Blk (((w.alloc (.cells #[.string m.cur, .int .i64 m.amt] 50)).alloc (.cells #[.int .i64 (N : Int), .int .i64 (D : Int)] 105)).alloc (.cells #[.string ⟨#[]⟩, .int .i64 0] 50)) (w.heap.size + 1 + 1) 50 #[.string ⟨#[]⟩, .int .i64 0] := Blk.newAt _ _ (by simp only [size_alloc])
          have hB0 : Below w.heap.size w (((w.alloc (.cells #[.string m.cur, .int .i64 m.amt] 50)).alloc (.cells #[.int .i64 (N : Int), .int .i64 (D : Int)] 105)).alloc (.cells #[.string ⟨#[]⟩, .int .i64 0] 50)) := by
            refine Below.alloc (Below.alloc (Below.alloc (Below.refl _ _) ?_ _) ?_ _) ?_ _
            all_goals (try simp only [size_alloc]); omega
          have a0 := hA0.cell 0; have a1 := hA0.cell 1; have c0 := hC0.cell 0; have c1 := hC0.cell 1
          simp only [List.getElem?_toArray, List.getElem?_cons_zero, List.getElem?_cons_succ] at a0 a1 c0 c1
          have r0 := hR0.cell 0; have r1 := hR0.cell 1; have f0 := hR0.frozen 0; have f1 := hR0.frozen 1
          simp only [List.getElem?_toArray, List.getElem?_cons_zero, List.getElem?_cons_succ] at r0 r1
          go_enter Tryz.func32, Tryz.ntmps32
          go_wp2_with fail
          refine (HM.out _).mono ?_
          rintro e w1 ⟨rfl, hb1⟩
          have hR1 := hR0.below hb1 hR0.lt
          clear r0 r1 f0 f1 hR0
          have hB1 := hB0.trans (hb1.mono hB0.size)
          have hA1 := hA0.below hb1 hA0.lt
          have hC1 := hC0.below hb1 hC0.lt
          clear a0 a1 c0 c1 hB0 hA0 hC0 hb1
          have a0 := hA1.cell 0; have a1 := hA1.cell 1; have c0 := hC1.cell 0; have c1 := hC1.cell 1
          simp only [List.getElem?_toArray, List.getElem?_cons_zero, List.getElem?_cons_succ] at a0 a1 c0 c1
          have r0 := hR1.cell 0; have r1 := hR1.cell 1; have f0 := hR1.frozen 0; have f1 := hR1.frozen 1
          simp only [List.getElem?_toArray, List.getElem?_cons_zero, List.getElem?_cons_succ] at r0 r1
          go_wp2_with fail
          refine (HQ.out _).mono ?_
          rintro e w2 ⟨rfl, hb2⟩
          have hR2 := hR1.below hb2 hR1.lt
          clear r0 r1 f0 f1 hR1
          have hB2 := hB1.trans (hb2.mono hB1.size)
          have hA2 := hA1.below hb2 hA1.lt
          have hC2 := hC1.below hb2 hC1.lt
          clear a0 a1 c0 c1 hB1 hA1 hC1 hb2
          have a0 := hA2.cell 0; have a1 := hA2.cell 1; have c0 := hC2.cell 0; have c1 := hC2.cell 1
          simp only [List.getElem?_toArray, List.getElem?_cons_zero, List.getElem?_cons_succ] at a0 a1 c0 c1
          have r0 := hR2.cell 0; have r1 := hR2.cell 1; have f0 := hR2.frozen 0; have f1 := hR2.frozen 1
          simp only [List.getElem?_toArray, List.getElem?_cons_zero, List.getElem?_cons_succ] at r0 r1
          go_wp2_with fail
          refine (HP.out _).mono ?_
          rintro e w' ⟨rfl, rfl⟩
          go_wp2_with fail
          have hB3 : Below w.heap.size w (w2.alloc (.cells #[.string m.cur, .int .i64 (Q2 : Int)] 50)) := hB2.alloc hB2.size _
          have hA3 := hA2.alloc (.cells #[.string m.cur, .int .i64 (Q2 : Int)] 50)
          have hC3 := hC2.alloc (.cells #[.string m.cur, .int .i64 (Q2 : Int)] 50)
          have hR3 := hR2.alloc (.cells #[.string m.cur, .int .i64 (Q2 : Int)] 50)
          have hS3 : Blk (w2.alloc (.cells #[.string m.cur, .int .i64 (Q2 : Int)] 50)) w2.heap.size 50 #[.string m.cur, .int .i64 (Q2 : Int)] := Blk.new _ _ _
          refine (HO.out _).mono ?_
          rintro e w4 ⟨rfl, hb4⟩
          have hR4 := hR3.below hb4 hR3.lt
          have hS4 := hS3.below hb4 hS3.lt
          clear r0 r1 f0 f1 hR3 hS3
          have hB4 := hB3.trans (hb4.mono hB3.size)
          have hA4 := hA3.below hb4 hA3.lt
          have hC4 := hC3.below hb4 hC3.lt
          clear a0 a1 c0 c1 hB3 hA3 hC3 hb4
          have a0 := hA4.cell 0; have a1 := hA4.cell 1; have c0 := hC4.cell 0; have c1 := hC4.cell 1
          simp only [List.getElem?_toArray, List.getElem?_cons_zero, List.getElem?_cons_succ] at a0 a1 c0 c1
          have r0 := hR4.cell 0; have r1 := hR4.cell 1; have f0 := hR4.frozen 0; have f1 := hR4.frozen 1
          simp only [List.getElem?_toArray, List.getElem?_cons_zero, List.getElem?_cons_succ] at r0 r1
          have s0 := hS4.cell 0; have s1' := hS4.cell 1
          simp only [List.getElem?_toArray, List.getElem?_cons_zero, List.getElem?_cons_succ] at s0 s1'
          go_wp2_with (refine stop_store 50 _ _ rfl ?_; refine wpList_store_blk rfl 50 _ _ rfl #[.string noM.cur, .int .i64 noM.amt] rfl rfl hR4 (by kernel_rfl) rfl rfl ?_; intro w9 hR9 hk9 hb9)
          have hB9 := hb9 _ _ hB4 (by omega)
          clear r0 r1 f0 f1
          have r0 := hR9.cell 0; have r1 := hR9.cell 1; have f0 := hR9.frozen 0; have f1 := hR9.frozen 1
          simp only [List.getElem?_toArray, List.getElem?_cons_zero, List.getElem?_cons_succ] at r0 r1
          refine bodyPost_ret (v := .tuple #[.agg #[.string noM.cur, .int .i64 noM.amt], .bool false]) (by simp [results, Tryz.results32, go_sem, r0, r1]) rfl ⟨ret_sb e1.out, hB9⟩
    · rw [if_neg hq] at HP
      simp only [] at HP
      have e1 : Hid (scaleV m N D 1 = (noM, false)) := Lib.hid (by rw [HV, HSC.out, if_neg (by omega)])
      clear HV HSC hq hcu hc
      have hA0 : Blk (((w.alloc (.cells #[.string m.cur, .int .i64 m.amt] 50)).alloc (.cells #[.int .i64 (N : Int), .int .i64 (D : Int)] 105)).alloc (.cells #[.string ⟨#[]⟩, .int .i64 0] 50)) w.heap.size 50 #[.string m.cur, .int .i64 m.amt] := Blk.more (Blk.more (Blk.new _ _ _) _) _
      have hC0 : Blk (((w.alloc (.cells #[.string m.cur, .int .i64 m.amt] 50)).alloc (.cells #[.int .i64 (N : Int), .int .i64 (D : Int)] 105)).alloc (.cells #[.string ⟨#[]⟩, .int .i64 0] 50)) (w.heap.size + 1) 105 #[.int .i64 (N : Int), .int .i64 (D : Int)] := Blk.more (Blk.newAt _ _ (by simp only [size_alloc])) _
      have hR0 : Blk (((w.alloc (.cells #[.string m.cur, .int .i64 m.amt] 50)).alloc (.cells #[.int .i64 (N : Int), .int .i64 (D : Int)] 105)).alloc (.cells #[.string ⟨#[]⟩, .int .i64 0] 50)) (w.heap.size + 1 + 1) 50 #[.string ⟨#[]⟩, .int .i64 0] := Blk.newAt _ _ (by simp only [size_alloc])
      have hB0 : Below w.heap.size w (((w.alloc (.cells #[.string m.cur, .int .i64 m.amt] 50)).alloc (.cells #[.int .i64 (N : Int), .int .i64 (D : Int)] 105)).alloc (.cells #[.string ⟨#[]⟩, .int .i64 0] 50)) := by
        refine Below.alloc (Below.alloc (Below.alloc (Below.refl _ _) ?_ _) ?_ _) ?_ _
        all_goals (try simp only [size_alloc]); omega
      have a0 := hA0.cell 0; have a1 := hA0.cell 1; have c0 := hC0.cell 0; have c1 := hC0.cell 1
      simp only [List.getElem?_toArray, List.getElem?_cons_zero, List.getElem?_cons_succ] at a0 a1 c0 c1
      have r0 := hR0.cell 0; have r1 := hR0.cell 1; have f0 := hR0.frozen 0; have f1 := hR0.frozen 1
      simp only [List.getElem?_toArray, List.getElem?_cons_zero, List.getElem?_cons_succ] at r0 r1
      go_enter Tryz.func32, Tryz.ntmps32
      go_wp2_with fail
      refine (HM.out _).mono ?_
      rintro e w1 ⟨rfl, hb1⟩
      have hR1 := hR0.below hb1 hR0.lt
      clear r0 r1 f0 f1 hR0
      have hB1 := hB0.trans (hb1.mono hB0.size)
      have hA1 := hA0.below hb1 hA0.lt
      have hC1 := hC0.below hb1 hC0.lt
      clear a0 a1 c0 c1 hB0 hA0 hC0 hb1
      have a0 := hA1.cell 0; have a1 := hA1.cell 1; have c0 := hC1.cell 0; have c1 := hC1.cell 1
      simp only [List.getElem?_toArray, List.getElem?_cons_zero, List.getElem?_cons_succ] at a0 a1 c0 c1
      have r0 := hR1.cell 0; have r1 := hR1.cell 1; have f0 := hR1.frozen 0; have f1 := hR1.frozen 1
      simp only [List.getElem?_toArray, List.getElem?_cons_zero, List.getElem?_cons_succ] at r0 r1
      go_wp2_with fail
      refine (HQ.out _).mono ?_
      rintro e w2 ⟨rfl, hb2⟩
      have hR2 := hR1.below hb2 hR1.lt
      clear r0 r1 f0 f1 hR1
      have hB2 := hB1.trans (hb2.mono hB1.size)
      have hA2 := hA1.below hb2 hA1.lt
      have hC2 := hC1.below hb2 hC1.lt
      clear a0 a1 c0 c1 hB1 hA1 hC1 hb2
      have a0 := hA2.cell 0; have a1 := hA2.cell 1; have c0 := hC2.cell 0; have c1 := hC2.cell 1
      simp only [List.getElem?_toArray, List.getElem?_cons_zero, List.getElem?_cons_succ] at a0 a1 c0 c1
      have r0 := hR2.cell 0; have r1 := hR2.cell 1; have f0 := hR2.frozen 0; have f1 := hR2.frozen 1
      simp only [List.getElem?_toArray, List.getElem?_cons_zero, List.getElem?_cons_succ] at r0 r1
      go_wp2_with fail
      refine (HP.out _).mono ?_
      rintro e w' ⟨rfl, rfl⟩
      go_wp2_with (refine stop_store 50 _ _ rfl ?_; refine wpList_store_blk rfl 50 _ _ rfl #[.string noM.cur, .int .i64 noM.amt] rfl rfl hR2 (by kernel_rfl) rfl rfl ?_; intro w9 hR9 hk9 hb9)
      have hB9 := hb9 _ _ hB2 (by omega)
      clear r0 r1 f0 f1
      have r0 := hR9.cell 0; have r1 := hR9.cell 1; have f0 := hR9.frozen 0; have f1 := hR9.frozen 1
      simp only [List.getElem?_toArray, List.getElem?_cons_zero, List.getElem?_cons_succ] at r0 r1
      refine bodyPost_ret (v := .tuple #[.agg #[.string noM.cur, .int .i64 noM.amt], .bool false]) (by simp [results, Tryz.results32, go_sem, r0, r1]) rfl ⟨ret_sb e1.out, hB9⟩
end Go.Proofs.YtdanjegnhdpnlaaGreatDoor.kit
