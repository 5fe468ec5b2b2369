/- An amount taken by a fraction: the program. No condition. -/
import Derived.Test.YtdanjegnhdpnlaaGreatDoorMyR
namespace Go.Proofs.YtdanjegnhdpnlaaGreatDoor.kit
open Go.RowKit Go.PlainAid
set_option linter.unusedVariables false

theorem w64_id {x : Int} (h : -9223372036854775808 ≤ x ∧ x ≤ 9223372036854775807) : wrap64 x = x := by unfold wrap64; omega
theorem u64_id {x : Int} (h : 0 ≤ x ∧ x ≤ 18446744073709551615) : IntKind.u64.wrap x = x := by rw [IntKind.wrap_u64]; omega
theorem i64_id {x : Int} (h : -9223372036854775808 ≤ x ∧ x ≤ 9223372036854775807) : IntKind.i64.wrap x = x := by rw [IntKind.wrap_i64]; omega
theorem nil_nil (w : World) : (binOp .eql 157 .nilFunc .nilFunc).run Tryz.prog w = .ok (.bool true) w := by kernel_rfl
theorem nil_f (f : FuncId) (w : World) : (binOp .eql 157 (.func (.func f) #[] #[]) .nilFunc).run Tryz.prog w = .ok (.bool false) w := by kernel_rfl
def scQ (way : Int) (A n d : Nat) : Nat := A * n / d + (if moreB way (A * n % d) d = true then 1 else 0)
def scaleV (m : Mon) (n d way : Int) : Mon × Bool :=
  if (mayM m && (ratB n d && decide (0 ≤ way ∧ way ≤ 2))) = true then
    (if scQ way m.amt.natAbs n.toNat d.toNat ≤ 1099511627776 then (⟨m.cur, if m.amt < 0 then -(scQ way m.amt.natAbs n.toNat d.toNat : Int) else (scQ way m.amt.natAbs n.toNat d.toNat : Int)⟩, true) else (noM, false))
  else (noM, false)
theorem scale_bad {m : Mon} {n d way : Int} (h : (mayM m && (ratB n d && decide (0 ≤ way ∧ way ≤ 2))) = false) : scaleV m n d way = (noM, false) := by unfold scaleV; rw [h, if_neg (by simp)]
set_option maxRecDepth 100000 in
set_option maxHeartbeats 1600000 in
theorem scale_way (m : Mon) (n d way : Int) (w : World) (hc : m.cur.size ≤ maxLen) (hw : ¬ (0 ≤ way ∧ way ≤ 2)) : Calls Tryz.prog 63 #[.agg #[.string m.cur, .int .i64 m.amt], .agg #[.int .i64 n, .int .i64 d], .int .i64 way] w fun e w' => e = .returned (.tuple #[.agg #[.string (scaleV m n d way).1.cur, .int .i64 (scaleV m n d way).1.amt], .bool (scaleV m n d way).2]) ∧ Below w.heap.size w w' := by
  have HM := Lib.hid (fun w => may_any m w hc)
  have HQ := Lib.hid (fun w => isRatio_any n d w)
  have HN := Lib.hid (fun w => roundN way w hw)
  have hE1 := nil_nil
  have e1 : Hid (scaleV m n d way = (noM, false)) := Lib.hid (scale_bad (by rw [decide_eq_false hw, Bool.and_false, Bool.and_false]))
  have hA0 : Blk (((w.alloc (.cells #[.string m.cur, .int .i64 m.amt] 50)).alloc (.cells #[.int .i64 n, .int .i64 d] 105)).alloc (.cells #[.string ⟨#[]⟩, .int .i64 0] 50)) w.heap.size 50 #[.string m.cur, .int .i64 m.amt] := Blk.more (Blk.more (Blk.new _ _ _) _) _
  have hC0 : Blk (((w.alloc (.cells #[.string m.cur, .int .i64 m.amt] 50)).alloc (.cells #[.int .i64 n, .int .i64 d] 105)).alloc (.cells #[.string ⟨#[]⟩, .int .i64 0] 50)) (w.heap.size + 1) 105 #[.int .i64 n, .int .i64 d] := Blk.more (Blk.newAt _ _ (by simp only [size_alloc])) _
  have hR0 : Blk (((w.alloc (.cells #[.string m.cur, .int .i64 m.amt] 50)).alloc (.cells #[.int .i64 n, .int .i64 d] 105)).alloc (.cells #[.string ⟨#[]⟩, .int .i64 0] 50)) (w.heap.size + 1 + 1) 50 #[.string ⟨#[]⟩, .int .i64 0] := Blk.newAt _ _ (by simp only [size_alloc])
  have hB0 : Below w.heap.size w (((w.alloc (.cells #[.string m.cur, .int .i64 m.amt] 50)).alloc (.cells #[.int .i64 n, .int .i64 d] 105)).alloc (.cells #[.string ⟨#[]⟩, .int .i64 0] 50)) := by
    refine Below.alloc (Below.alloc (Below.alloc (Below.refl _ _) ?_ _) ?_ _) ?_ _
    all_goals (try simp only [size_alloc]); omega
  have a0 := hA0.cell 0; have a1 := hA0.cell 1; have c0 := hC0.cell 0; have c1 := hC0.cell 1
  simp only [List.getElem?_toArray, List.getElem?_cons_zero, List.getElem?_cons_succ] at a0 a1 c0 c1
  have r0 := hR0.cell 0; have r1 := hR0.cell 1; have f0 := hR0.frozen 0; have f1 := hR0.frozen 1
  simp only [List.getElem?_toArray, List.getElem?_cons_zero, List.getElem?_cons_succ] at r0 r1
  clear hw hc
  obtain ⟨X, hX⟩ : ∃ X, mayM m = X := ⟨_, rfl⟩
  obtain ⟨Y, hY⟩ : ∃ X, ratB n d = X := ⟨_, rfl⟩
  rw [hX] at HM
  rw [hY] at HQ
  cases X
  · go_enter Tryz.func63, Tryz.ntmps63
    go_wp2_with fail
    refine (HN.out _).mono ?_
    rintro e w' ⟨rfl, rfl⟩
    go_wp2_with fail
    refine (HM.out _).mono ?_
    rintro e w1 ⟨rfl, hb1⟩
    have hR1 := hR0.below hb1 hR0.lt
    clear r0 r1 f0 f1 hR0
    have hB1 := hB0.trans (hb1.mono hB0.size)
    have hA1 := hA0.below hb1 hA0.lt
    have hC1 := hC0.below hb1 hC0.lt
    clear a0 a1 c0 c1 hB0 hA0 hC0 hb1
    have a0 := hA1.cell 0; have a1 := hA1.cell 1; have c0 := hC1.cell 0; have c1 := hC1.cell 1
    simp only [List.getElem?_toArray, List.getElem?_cons_zero, List.getElem?_cons_succ] at a0 a1 c0 c1
    have r0 := hR1.cell 0; have r1 := hR1.cell 1; have f0 := hR1.frozen 0; have f1 := hR1.frozen 1
    simp only [List.getElem?_toArray, List.getElem?_cons_zero, List.getElem?_cons_succ] at r0 r1
    go_wp2_with (refine stop_store 50 _ _ rfl ?_; refine wpList_store_blk rfl 50 _ _ rfl #[.string noM.cur, .int .i64 noM.amt] rfl rfl hR1 (by kernel_rfl) rfl rfl ?_; intro w9 hR9 hk9 hb9)
    have hB9 := hb9 _ _ hB1 (by omega)
    clear r0 r1 f0 f1
    have r0 := hR9.cell 0; have r1 := hR9.cell 1; have f0 := hR9.frozen 0; have f1 := hR9.frozen 1
    simp only [List.getElem?_toArray, List.getElem?_cons_zero, List.getElem?_cons_succ] at r0 r1
    refine bodyPost_ret (v := .tuple #[.agg #[.string noM.cur, .int .i64 noM.amt], .bool false]) (by simp [results, Tryz.results63, go_sem, r0, r1]) rfl ⟨ret_sb e1.out, hB9⟩
  cases Y
  · go_enter Tryz.func63, Tryz.ntmps63
    go_wp2_with fail
    refine (HN.out _).mono ?_
    rintro e w' ⟨rfl, rfl⟩
    go_wp2_with fail
    refine (HM.out _).mono ?_
    rintro e w1 ⟨rfl, hb1⟩
    have hR1 := hR0.below hb1 hR0.lt
    clear r0 r1 f0 f1 hR0
    have hB1 := hB0.trans (hb1.mono hB0.size)
    have hA1 := hA0.below hb1 hA0.lt
    have hC1 := hC0.below hb1 hC0.lt
    clear a0 a1 c0 c1 hB0 hA0 hC0 hb1
    have a0 := hA1.cell 0; have a1 := hA1.cell 1; have c0 := hC1.cell 0; have c1 := hC1.cell 1
    simp only [List.getElem?_toArray, List.getElem?_cons_zero, List.getElem?_cons_succ] at a0 a1 c0 c1
    have r0 := hR1.cell 0; have r1 := hR1.cell 1; have f0 := hR1.frozen 0; have f1 := hR1.frozen 1
    simp only [List.getElem?_toArray, List.getElem?_cons_zero, List.getElem?_cons_succ] at r0 r1
    go_wp2_with fail
    refine (HQ.out _).mono ?_
    rintro e w2 ⟨rfl, hb2⟩
    have hR2 := hR1.below hb2 hR1.lt
    clear r0 r1 f0 f1 hR1
    have hB2 := hB1.trans (hb2.mono hB1.size)
    have hA2 := hA1.below hb2 hA1.lt
    have hC2 := hC1.below hb2 hC1.lt
    clear a0 a1 c0 c1 hB1 hA1 hC1 hb2
    have a0 := hA2.cell 0; have a1 := hA2.cell 1; have c0 := hC2.cell 0; have c1 := hC2.cell 1
    simp only [List.getElem?_toArray, List.getElem?_cons_zero, List.getElem?_cons_succ] at a0 a1 c0 c1
    have r0 := hR2.cell 0; have r1 := hR2.cell 1; have f0 := hR2.frozen 0; have f1 := hR2.frozen 1
    simp only [List.getElem?_toArray, List.getElem?_cons_zero, List.getElem?_cons_succ] at r0 r1
    go_wp2_with (refine stop_store 50 _ _ rfl ?_; refine wpList_store_blk rfl 50 _ _ rfl #[.string noM.cur, .int .i64 noM.amt] rfl rfl hR2 (by kernel_rfl) rfl rfl ?_; intro w9 hR9 hk9 hb9)
    have hB9 := hb9 _ _ hB2 (by omega)
    clear r0 r1 f0 f1
    have r0 := hR9.cell 0; have r1 := hR9.cell 1; have f0 := hR9.frozen 0; have f1 := hR9.frozen 1
    simp only [List.getElem?_toArray, List.getElem?_cons_zero, List.getElem?_cons_succ] at r0 r1
    refine bodyPost_ret (v := .tuple #[.agg #[.string noM.cur, .int .i64 noM.amt], .bool false]) (by simp [results, Tryz.results63, go_sem, r0, r1]) rfl ⟨ret_sb e1.out, hB9⟩
  · go_enter Tryz.func63, Tryz.ntmps63
    go_wp2_with fail
    refine (HN.out _).mono ?_
    rintro e w' ⟨rfl, rfl⟩
    go_wp2_with fail
    refine (HM.out _).mono ?_
    rintro e w1 ⟨rfl, hb1⟩
    have hR1 := hR0.below hb1 hR0.lt
    clear r0 r1 f0 f1 hR0
    have hB1 := hB0.trans (hb1.mono hB0.size)
    have hA1 := hA0.below hb1 hA0.lt
    have hC1 := hC0.below hb1 hC0.lt
    clear a0 a1 c0 c1 hB0 hA0 hC0 hb1
    have a0 := hA1.cell 0; have a1 := hA1.cell 1; have c0 := hC1.cell 0; have c1 := hC1.cell 1
    simp only [List.getElem?_toArray, List.getElem?_cons_zero, List.getElem?_cons_succ] at a0 a1 c0 c1
    have r0 := hR1.cell 0; have r1 := hR1.cell 1; have f0 := hR1.frozen 0; have f1 := hR1.frozen 1
    simp only [List.getElem?_toArray, List.getElem?_cons_zero, List.getElem?_cons_succ] at r0 r1
    go_wp2_with fail
    refine (HQ.out _).mono ?_
    rintro e w2 ⟨rfl, hb2⟩
    have hR2 := hR1.below hb2 hR1.lt
    clear r0 r1 f0 f1 hR1
    have hB2 := hB1.trans (hb2.mono hB1.size)
    have hA2 := hA1.below hb2 hA1.lt
    have hC2 := hC1.below hb2 hC1.lt
    clear a0 a1 c0 c1 hB1 hA1 hC1 hb2
    have a0 := hA2.cell 0; have a1 := hA2.cell 1; have c0 := hC2.cell 0; have c1 := hC2.cell 1
    simp only [List.getElem?_toArray, List.getElem?_cons_zero, List.getElem?_cons_succ] at a0 a1 c0 c1
    have r0 := hR2.cell 0; have r1 := hR2.cell 1; have f0 := hR2.frozen 0; have f1 := hR2.frozen 1
    simp only [List.getElem?_toArray, List.getElem?_cons_zero, List.getElem?_cons_succ] at r0 r1
    go_wp2_with (refine stop_store 50 _ _ rfl ?_; refine wpList_store_blk rfl 50 _ _ rfl #[.string noM.cur, .int .i64 noM.amt] rfl rfl hR2 (by kernel_rfl) rfl rfl ?_; intro w9 hR9 hk9 hb9)
    have hB9 := hb9 _ _ hB2 (by omega)
    clear r0 r1 f0 f1
    have r0 := hR9.cell 0; have r1 := hR9.cell 1; have f0 := hR9.frozen 0; have f1 := hR9.frozen 1
    simp only [List.getElem?_toArray, List.getElem?_cons_zero, List.getElem?_cons_succ] at r0 r1
    refine bodyPost_ret (v := .tuple #[.agg #[.string noM.cur, .int .i64 noM.amt], .bool false]) (by simp [results, Tryz.results63, go_sem, r0, r1]) rfl ⟨ret_sb e1.out, hB9⟩
end Go.Proofs.YtdanjegnhdpnlaaGreatDoor.kit
