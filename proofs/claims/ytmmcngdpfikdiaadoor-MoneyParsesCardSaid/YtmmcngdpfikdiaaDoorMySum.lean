/- Both together; which is less: the program and the document. No condition. -/
import Derived.Test.YtmmcngdpfikdiaaDoorMyA
import Derived.Test.YtmmcngdpfikdiaaDoorStep
namespace Go.Proofs.YtmmcngdpfikdiaaDoor.kit
open Go.RowKit Go.PlainAid
set_option linter.unusedVariables false

theorem size_alloc (w : World) (o : Obj) : (w.alloc o).heap.size = w.heap.size + 1 := Array.size_push _
theorem Blk.newAt {w : World} {g : Nat} (t : TypeId) (cs : Array Value) (h : g = w.heap.size) : Blk (w.alloc (.cells cs t)) g t cs := h ▸ Blk.new _ _ _
theorem Blk.more {w : World} {g : Nat} {t : TypeId} {cs : Array Value} (h : Blk w g t cs) (o : Obj) : Blk (w.alloc o) g t cs := h.below ((Below.refl _ _).alloc (Nat.le_refl _) o) h.lt
theorem ret_bb {a b c d : Bool} (h : a = c) (h2 : b = d) : Ending.returned (.tuple #[.bool a, .bool b]) = .returned (.tuple #[.bool c, .bool d]) := by rw [h, h2]
theorem ret_sb {r : Mon × Bool} {a : Mon} {b : Bool} (h : r = (a, b)) : Ending.returned (.tuple #[.agg #[.string a.cur, .int .i64 a.amt], .bool b]) = .returned (.tuple #[.agg #[.string r.1.cur, .int .i64 r.1.amt], .bool r.2]) := by rw [h]

set_option maxHeartbeats 1600000 in
theorem less_any (a b : Mon) (w : World) (ha : a.cur.size ≤ maxLen) (hb : b.cur.size ≤ maxLen) :
    Calls Tryd.prog 21 #[.agg #[.string a.cur, .int .i64 a.amt], .agg #[.string b.cur, .int .i64 b.amt]] w fun e w' => e = .returned (.tuple #[.bool (lessV a b), .bool (bothB a b)]) ∧ Below w.heap.size w w' := by
  have HA := Lib.hid (fun w => may_any a w ha)
  have HC := Lib.hid (fun w => may_any b w hb)
  have hA0 : Blk ((w.alloc (.cells #[.string a.cur, .int .i64 a.amt] 23)).alloc (.cells #[.string b.cur, .int .i64 b.amt] 23)) w.heap.size 23 #[.string a.cur, .int .i64 a.amt] := by first | exact Blk.more (Blk.new _ _ _) _ | exact Blk.more (Blk.more (Blk.new _ _ _) _) _
  have hC0 : Blk ((w.alloc (.cells #[.string a.cur, .int .i64 a.amt] 23)).alloc (.cells #[.string b.cur, .int .i64 b.amt] 23)) (w.heap.size + 1) 23 #[.string b.cur, .int .i64 b.amt] := by first | exact Blk.newAt _ _ (by simp only [size_alloc]) | exact Blk.more (Blk.newAt _ _ (by simp only [size_alloc])) _
  have hB0 : Below w.heap.size w ((w.alloc (.cells #[.string a.cur, .int .i64 a.amt] 23)).alloc (.cells #[.string b.cur, .int .i64 b.amt] 23)) := by
    first | (refine Below.alloc (Below.alloc (Below.refl _ _) ?_ _) ?_ _; all_goals (try simp only [size_alloc]); omega) | (refine Below.alloc (Below.alloc (Below.alloc (Below.refl _ _) ?_ _) ?_ _) ?_ _; all_goals (try simp only [size_alloc]); omega)
  have a0 := hA0.cell 0; have a1 := hA0.cell 1; have c0 := hC0.cell 0; have c1 := hC0.cell 1
  simp only [List.getElem?_toArray, List.getElem?_cons_zero, List.getElem?_cons_succ] at a0 a1 c0 c1
  clear ha hb
  cases q0 : mayM a
  · have e1 : Hid (false = bothB a b) := Lib.hid (by unfold bothB; rw [q0]; rfl)
    have e2 : Hid (false = lessV a b) := Lib.hid (by unfold lessV; rw [← e1.out]; rfl)
    rw [q0] at HA
    clear q0
    go_enter Tryd.func21, Tryd.ntmps21
    go_wp2_with fail
    refine (HA.out _).mono ?_
    rintro e w1 ⟨rfl, hb1⟩
    have hB1 := hB0.trans (hb1.mono hB0.size)
    have hA1 := hA0.below hb1 hA0.lt
    have hC1 := hC0.below hb1 hC0.lt
    clear a0 a1 c0 c1 hB0 hA0 hC0 hb1
    have a0 := hA1.cell 0; have a1 := hA1.cell 1; have c0 := hC1.cell 0; have c1 := hC1.cell 1
    simp only [List.getElem?_toArray, List.getElem?_cons_zero, List.getElem?_cons_succ] at a0 a1 c0 c1
    go_wp2_with fail
    go_ret2
    exact ⟨ret_bb e2.out e1.out, hB1⟩
  rw [q0] at HA
  cases q1 : mayM b
  · have e1 : Hid (false = bothB a b) := Lib.hid (by unfold bothB; rw [q0, q1]; rfl)
    have e2 : Hid (false = lessV a b) := Lib.hid (by unfold lessV; rw [← e1.out]; rfl)
    rw [q1] at HC
    clear q0 q1
    go_enter Tryd.func21, Tryd.ntmps21
    go_wp2_with fail
    refine (HA.out _).mono ?_
    rintro e w1 ⟨rfl, hb1⟩
    have hB1 := hB0.trans (hb1.mono hB0.size)
    have hA1 := hA0.below hb1 hA0.lt
    have hC1 := hC0.below hb1 hC0.lt
    clear a0 a1 c0 c1 hB0 hA0 hC0 hb1
    have a0 := hA1.cell 0; have a1 := hA1.cell 1; have c0 := hC1.cell 0; have c1 := hC1.cell 1
    simp only [List.getElem?_toArray, List.getElem?_cons_zero, List.getElem?_cons_succ] at a0 a1 c0 c1
    go_wp2_with fail
    refine (HC.out _).mono ?_
    rintro e w2 ⟨rfl, hb2⟩
    have hB2 := hB1.trans (hb2.mono hB1.size)
    have hA2 := hA1.below hb2 hA1.lt
    have hC2 := hC1.below hb2 hC1.lt
    clear a0 a1 c0 c1 hB1 hA1 hC1 hb2
    have a0 := hA2.cell 0; have a1 := hA2.cell 1; have c0 := hC2.cell 0; have c1 := hC2.cell 1
    simp only [List.getElem?_toArray, List.getElem?_cons_zero, List.getElem?_cons_succ] at a0 a1 c0 c1
    go_wp2_with fail
    go_ret2
    exact ⟨ret_bb e2.out e1.out, hB2⟩
  rw [q1] at HC
  have s1 := eq_str a.cur b.cur
  obtain ⟨X, hX⟩ : ∃ X, decide (a.cur = b.cur) = X := ⟨_, rfl⟩
  rw [hX] at s1
  have e1 : Hid (X = bothB a b) := Lib.hid (by unfold bothB; rw [q0, q1, hX]; rfl)
  have e2 : Hid ((X && decide (a.amt < b.amt)) = lessV a b) := Lib.hid (by unfold lessV; rw [← e1.out])
  clear q0 q1 hX
  cases X
  all_goals
    go_enter Tryd.func21, Tryd.ntmps21
    go_wp2_with fail
    refine (HA.out _).mono ?_
    rintro e w1 ⟨rfl, hb1⟩
    have hB1 := hB0.trans (hb1.mono hB0.size)
    have hA1 := hA0.below hb1 hA0.lt
    have hC1 := hC0.below hb1 hC0.lt
    clear a0 a1 c0 c1 hB0 hA0 hC0 hb1
    have a0 := hA1.cell 0; have a1 := hA1.cell 1; have c0 := hC1.cell 0; have c1 := hC1.cell 1
    simp only [List.getElem?_toArray, List.getElem?_cons_zero, List.getElem?_cons_succ] at a0 a1 c0 c1
    go_wp2_with fail
    refine (HC.out _).mono ?_
    rintro e w2 ⟨rfl, hb2⟩
    have hB2 := hB1.trans (hb2.mono hB1.size)
    have hA2 := hA1.below hb2 hA1.lt
    have hC2 := hC1.below hb2 hC1.lt
    clear a0 a1 c0 c1 hB1 hA1 hC1 hb2
    have a0 := hA2.cell 0; have a1 := hA2.cell 1; have c0 := hC2.cell 0; have c1 := hC2.cell 1
    simp only [List.getElem?_toArray, List.getElem?_cons_zero, List.getElem?_cons_succ] at a0 a1 c0 c1
    go_wp2_with fail
    go_ret2
    exact ⟨ret_bb (by first | exact e2.out | simpa using e2.out) e1.out, hB2⟩
set_option maxHeartbeats 1600000 in
theorem sum_any (a b : Mon) (w : World) (ha : a.ok) (hb : b.ok) :
    Calls Tryd.prog 19 #[.agg #[.string a.cur, .int .i64 a.amt], .agg #[.string b.cur, .int .i64 b.amt]] w fun e w' => e = .returned (.tuple #[.agg #[.string (sumV a b).1.cur, .int .i64 (sumV a b).1.amt], .bool (sumV a b).2]) ∧ Below w.heap.size w w' := by
  have HA := Lib.hid (fun w => may_any a w ha.c)
  have HC := Lib.hid (fun w => may_any b w hb.c)
  have HM := Lib.hid (fun w => may_any ⟨a.cur, a.amt + b.amt⟩ w ha.c)
  have hA0 : Blk (((w.alloc (.cells #[.string a.cur, .int .i64 a.amt] 23)).alloc (.cells #[.string b.cur, .int .i64 b.amt] 23)).alloc (.cells #[.string ⟨#[]⟩, .int .i64 0] 23)) w.heap.size 23 #[.string a.cur, .int .i64 a.amt] := by first | exact Blk.more (Blk.new _ _ _) _ | exact Blk.more (Blk.more (Blk.new _ _ _) _) _
  have hC0 : Blk (((w.alloc (.cells #[.string a.cur, .int .i64 a.amt] 23)).alloc (.cells #[.string b.cur, .int .i64 b.amt] 23)).alloc (.cells #[.string ⟨#[]⟩, .int .i64 0] 23)) (w.heap.size + 1) 23 #[.string b.cur, .int .i64 b.amt] := by first | exact Blk.newAt _ _ (by simp only [size_alloc]) | exact Blk.more (Blk.newAt _ _ (by simp only [size_alloc])) _
  have hB0 : Below w.heap.size w (((w.alloc (.cells #[.string a.cur, .int .i64 a.amt] 23)).alloc (.cells #[.string b.cur, .int .i64 b.amt] 23)).alloc (.cells #[.string ⟨#[]⟩, .int .i64 0] 23)) := by
    first | (refine Below.alloc (Below.alloc (Below.refl _ _) ?_ _) ?_ _; all_goals (try simp only [size_alloc]); omega) | (refine Below.alloc (Below.alloc (Below.alloc (Below.refl _ _) ?_ _) ?_ _) ?_ _; all_goals (try simp only [size_alloc]); omega)
  have hR0 : Blk (((w.alloc (.cells #[.string a.cur, .int .i64 a.amt] 23)).alloc (.cells #[.string b.cur, .int .i64 b.amt] 23)).alloc (.cells #[.string ⟨#[]⟩, .int .i64 0] 23)) (w.heap.size + 1 + 1) 23 #[.string ⟨#[]⟩, .int .i64 0] := Blk.newAt _ _ (by simp only [size_alloc])
  have a0 := hA0.cell 0; have a1 := hA0.cell 1; have c0 := hC0.cell 0; have c1 := hC0.cell 1
  simp only [List.getElem?_toArray, List.getElem?_cons_zero, List.getElem?_cons_succ] at a0 a1 c0 c1
  have r0 := hR0.cell 0; have r1 := hR0.cell 1; have f0 := hR0.frozen 0; have f1 := hR0.frozen 1
  simp only [List.getElem?_toArray, List.getElem?_cons_zero, List.getElem?_cons_succ] at r0 r1
  clear ha hb
  cases q0 : mayM a
  · have e1 : Hid (sumV a b = (noM, false)) := Lib.hid (by unfold sumV bothB; rw [q0, if_neg (by simp)])
    rw [q0] at HA
    clear q0
    go_enter Tryd.func19, Tryd.ntmps19
    go_wp2_with fail
    refine (HA.out _).mono ?_
    rintro e w1 ⟨rfl, hb1⟩
    have hR1 := hR0.below hb1 hR0.lt
    clear r0 r1 f0 f1 hR0
    have hB1 := hB0.trans (hb1.mono hB0.size)
    have hA1 := hA0.below hb1 hA0.lt
    have hC1 := hC0.below hb1 hC0.lt
    clear a0 a1 c0 c1 hB0 hA0 hC0 hb1
    have a0 := hA1.cell 0; have a1 := hA1.cell 1; have c0 := hC1.cell 0; have c1 := hC1.cell 1
    simp only [List.getElem?_toArray, List.getElem?_cons_zero, List.getElem?_cons_succ] at a0 a1 c0 c1
    have r0 := hR1.cell 0; have r1 := hR1.cell 1; have f0 := hR1.frozen 0; have f1 := hR1.frozen 1
    simp only [List.getElem?_toArray, List.getElem?_cons_zero, List.getElem?_cons_succ] at r0 r1
    go_wp2_with (refine stop_store 23 _ _ rfl ?_; refine wpList_store_blk rfl 23 _ _ rfl #[.string noM.cur, .int .i64 noM.amt] rfl rfl hR1 (by kernel_rfl) rfl rfl ?_; intro w9 hR9 hk9 hb9)
    have hB9 := hb9 _ _ hB1 (by omega)
    clear r0 r1 f0 f1
    have r0 := hR9.cell 0; have r1 := hR9.cell 1; have f0 := hR9.frozen 0; have f1 := hR9.frozen 1
    simp only [List.getElem?_toArray, List.getElem?_cons_zero, List.getElem?_cons_succ] at r0 r1
    refine bodyPost_ret (v := .tuple #[.agg #[.string noM.cur, .int .i64 noM.amt], .bool false]) (by simp [results, Tryd.results19, go_sem, r0, r1]) rfl ⟨ret_sb e1.out, hB9⟩
  rw [q0] at HA
  cases q1 : mayM b
  · have e1 : Hid (sumV a b = (noM, false)) := Lib.hid (by unfold sumV bothB; rw [q0, q1, if_neg (by simp)])
    rw [q1] at HC
    clear q0 q1
    go_enter Tryd.func19, Tryd.ntmps19
    go_wp2_with fail
    refine (HA.out _).mono ?_
    rintro e w1 ⟨rfl, hb1⟩
    have hR1 := hR0.below hb1 hR0.lt
    clear r0 r1 f0 f1 hR0
    have hB1 := hB0.trans (hb1.mono hB0.size)
    have hA1 := hA0.below hb1 hA0.lt
    have hC1 := hC0.below hb1 hC0.lt
    clear a0 a1 c0 c1 hB0 hA0 hC0 hb1
    have a0 := hA1.cell 0; have a1 := hA1.cell 1; have c0 := hC1.cell 0; have c1 := hC1.cell 1
    simp only [List.getElem?_toArray, List.getElem?_cons_zero, List.getElem?_cons_succ] at a0 a1 c0 c1
    have r0 := hR1.cell 0; have r1 := hR1.cell 1; have f0 := hR1.frozen 0; have f1 := hR1.frozen 1
    simp only [List.getElem?_toArray, List.getElem?_cons_zero, List.getElem?_cons_succ] at r0 r1
    go_wp2_with fail
    refine (HC.out _).mono ?_
    rintro e w2 ⟨rfl, hb2⟩
    have hR2 := hR1.below hb2 hR1.lt
    clear r0 r1 f0 f1 hR1
    have hB2 := hB1.trans (hb2.mono hB1.size)
    have hA2 := hA1.below hb2 hA1.lt
    have hC2 := hC1.below hb2 hC1.lt
    clear a0 a1 c0 c1 hB1 hA1 hC1 hb2
    have a0 := hA2.cell 0; have a1 := hA2.cell 1; have c0 := hC2.cell 0; have c1 := hC2.cell 1
    simp only [List.getElem?_toArray, List.getElem?_cons_zero, List.getElem?_cons_succ] at a0 a1 c0 c1
    have r0 := hR2.cell 0; have r1 := hR2.cell 1; have f0 := hR2.frozen 0; have f1 := hR2.frozen 1
    simp only [List.getElem?_toArray, List.getElem?_cons_zero, List.getElem?_cons_succ] at r0 r1
    go_wp2_with (refine stop_store 23 _ _ rfl ?_; refine wpList_store_blk rfl 23 _ _ rfl #[.string noM.cur, .int .i64 noM.amt] rfl rfl hR2 (by kernel_rfl) rfl rfl ?_; intro w9 hR9 hk9 hb9)
    have hB9 := hb9 _ _ hB2 (by omega)
    clear r0 r1 f0 f1
    have r0 := hR9.cell 0; have r1 := hR9.cell 1; have f0 := hR9.frozen 0; have f1 := hR9.frozen 1
    simp only [List.getElem?_toArray, List.getElem?_cons_zero, List.getElem?_cons_succ] at r0 r1
    refine bodyPost_ret (v := .tuple #[.agg #[.string noM.cur, .int .i64 noM.amt], .bool false]) (by simp [results, Tryd.results19, go_sem, r0, r1]) rfl ⟨ret_sb e1.out, hB9⟩
  rw [q1] at HC
  have s1 := eq_str a.cur b.cur
  obtain ⟨X, hX⟩ : ∃ X, decide (a.cur = b.cur) = X := ⟨_, rfl⟩
  rw [hX] at s1
  have e0 : bothB a b = X := by unfold bothB; rw [q0, q1, hX]; rfl
  have m1 := (may_iff.1 q0).2
  have m2 := (may_iff.1 q1).2
  cases X
  · have e1 : Hid (sumV a b = (noM, false)) := Lib.hid (by unfold sumV; rw [e0, if_neg (by simp)])
    clear q0 q1 hX e0 m1 m2
    go_enter Tryd.func19, Tryd.ntmps19
    go_wp2_with fail
    refine (HA.out _).mono ?_
    rintro e w1 ⟨rfl, hb1⟩
    have hR1 := hR0.below hb1 hR0.lt
    clear r0 r1 f0 f1 hR0
    have hB1 := hB0.trans (hb1.mono hB0.size)
    have hA1 := hA0.below hb1 hA0.lt
    have hC1 := hC0.below hb1 hC0.lt
    clear a0 a1 c0 c1 hB0 hA0 hC0 hb1
    have a0 := hA1.cell 0; have a1 := hA1.cell 1; have c0 := hC1.cell 0; have c1 := hC1.cell 1
    simp only [List.getElem?_toArray, List.getElem?_cons_zero, List.getElem?_cons_succ] at a0 a1 c0 c1
    have r0 := hR1.cell 0; have r1 := hR1.cell 1; have f0 := hR1.frozen 0; have f1 := hR1.frozen 1
    simp only [List.getElem?_toArray, List.getElem?_cons_zero, List.getElem?_cons_succ] at r0 r1
    go_wp2_with fail
    refine (HC.out _).mono ?_
    rintro e w2 ⟨rfl, hb2⟩
    have hR2 := hR1.below hb2 hR1.lt
    clear r0 r1 f0 f1 hR1
    have hB2 := hB1.trans (hb2.mono hB1.size)
    have hA2 := hA1.below hb2 hA1.lt
    have hC2 := hC1.below hb2 hC1.lt
    clear a0 a1 c0 c1 hB1 hA1 hC1 hb2
    have a0 := hA2.cell 0; have a1 := hA2.cell 1; have c0 := hC2.cell 0; have c1 := hC2.cell 1
    simp only [List.getElem?_toArray, List.getElem?_cons_zero, List.getElem?_cons_succ] at a0 a1 c0 c1
    have r0 := hR2.cell 0; have r1 := hR2.cell 1; have f0 := hR2.frozen 0; have f1 := hR2.frozen 1
    simp only [List.getElem?_toArray, List.getElem?_cons_zero, List.getElem?_cons_succ] at r0 r1
    go_wp2_with (refine stop_store 23 _ _ rfl ?_; refine wpList_store_blk rfl 23 _ _ rfl #[.string noM.cur, .int .i64 noM.amt] rfl rfl hR2 (by kernel_rfl) rfl rfl ?_; intro w9 hR9 hk9 hb9)
    have hB9 := hb9 _ _ hB2 (by omega)
    clear r0 r1 f0 f1
    have r0 := hR9.cell 0; have r1 := hR9.cell 1; have f0 := hR9.frozen 0; have f1 := hR9.frozen 1
    simp only [List.getElem?_toArray, List.getElem?_cons_zero, List.getElem?_cons_succ] at r0 r1
    refine bodyPost_ret (v := .tuple #[.agg #[.string noM.cur, .int .i64 noM.amt], .bool false]) (by simp [results, Tryd.results19, go_sem, r0, r1]) rfl ⟨ret_sb e1.out, hB9⟩
  have hw : wrap64 (a.amt + b.amt) = a.amt + b.amt := by unfold wrap64; omega
  cases q2 : mayM ⟨a.cur, a.amt + b.amt⟩
  · have e1 : Hid (sumV a b = (noM, false)) := Lib.hid (by unfold sumV; rw [e0, if_pos rfl, q2, if_neg (by simp)])
    rw [q2] at HM
    clear q0 q1 hX e0 m1 m2 q2
    go_enter Tryd.func19, Tryd.ntmps19
    go_wp2_with fail
    refine (HA.out _).mono ?_
    rintro e w1 ⟨rfl, hb1⟩
    have hR1 := hR0.below hb1 hR0.lt
    clear r0 r1 f0 f1 hR0
    have hB1 := hB0.trans (hb1.mono hB0.size)
    have hA1 := hA0.below hb1 hA0.lt
    have hC1 := hC0.below hb1 hC0.lt
    clear a0 a1 c0 c1 hB0 hA0 hC0 hb1
    have a0 := hA1.cell 0; have a1 := hA1.cell 1; have c0 := hC1.cell 0; have c1 := hC1.cell 1
    simp only [List.getElem?_toArray, List.getElem?_cons_zero, List.getElem?_cons_succ] at a0 a1 c0 c1
    have r0 := hR1.cell 0; have r1 := hR1.cell 1; have f0 := hR1.frozen 0; have f1 := hR1.frozen 1
    simp only [List.getElem?_toArray, List.getElem?_cons_zero, List.getElem?_cons_succ] at r0 r1
    go_wp2_with fail
    refine (HC.out _).mono ?_
    rintro e w2 ⟨rfl, hb2⟩
    have hR2 := hR1.below hb2 hR1.lt
    clear r0 r1 f0 f1 hR1
    have hB2 := hB1.trans (hb2.mono hB1.size)
    have hA2 := hA1.below hb2 hA1.lt
    have hC2 := hC1.below hb2 hC1.lt
    clear a0 a1 c0 c1 hB1 hA1 hC1 hb2
    have a0 := hA2.cell 0; have a1 := hA2.cell 1; have c0 := hC2.cell 0; have c1 := hC2.cell 1
    simp only [List.getElem?_toArray, List.getElem?_cons_zero, List.getElem?_cons_succ] at a0 a1 c0 c1
    have r0 := hR2.cell 0; have r1 := hR2.cell 1; have f0 := hR2.frozen 0; have f1 := hR2.frozen 1
    simp only [List.getElem?_toArray, List.getElem?_cons_zero, List.getElem?_cons_succ] at r0 r1
    have hB3 : Below w.heap.size w (w2.alloc (.cells #[.string a.cur, .int .i64 (a.amt + b.amt)] 23)) := hB2.alloc hB2.size _
    have hA3 := hA2.alloc (.cells #[.string a.cur, .int .i64 (a.amt + b.amt)] 23)
    have hC3 := hC2.alloc (.cells #[.string a.cur, .int .i64 (a.amt + b.amt)] 23)
    have hR3 := hR2.alloc (.cells #[.string a.cur, .int .i64 (a.amt + b.amt)] 23)
    go_wp2_with fail
    refine (HM.out _).mono ?_
    rintro e w4 ⟨rfl, hb4⟩
    have hR4 := hR3.below hb4 hR3.lt
    clear r0 r1 f0 f1 hR3
    have hB4 := hB3.trans (hb4.mono hB3.size)
    have hA4 := hA3.below hb4 hA3.lt
    have hC4 := hC3.below hb4 hC3.lt
    clear a0 a1 c0 c1 hB3 hA3 hC3 hb4
    have a0 := hA4.cell 0; have a1 := hA4.cell 1; have c0 := hC4.cell 0; have c1 := hC4.cell 1
    simp only [List.getElem?_toArray, List.getElem?_cons_zero, List.getElem?_cons_succ] at a0 a1 c0 c1
    have r0 := hR4.cell 0; have r1 := hR4.cell 1; have f0 := hR4.frozen 0; have f1 := hR4.frozen 1
    simp only [List.getElem?_toArray, List.getElem?_cons_zero, List.getElem?_cons_succ] at r0 r1
    go_wp2_with (refine stop_store 23 _ _ rfl ?_; refine wpList_store_blk rfl 23 _ _ rfl #[.string noM.cur, .int .i64 noM.amt] rfl rfl hR4 (by kernel_rfl) rfl rfl ?_; intro w9 hR9 hk9 hb9)
    have hB9 := hb9 _ _ hB4 (by omega)
    clear r0 r1 f0 f1
    have r0 := hR9.cell 0; have r1 := hR9.cell 1; have f0 := hR9.frozen 0; have f1 := hR9.frozen 1
    simp only [List.getElem?_toArray, List.getElem?_cons_zero, List.getElem?_cons_succ] at r0 r1
    refine bodyPost_ret (v := .tuple #[.agg #[.string noM.cur, .int .i64 noM.amt], .bool false]) (by simp [results, Tryd.results19, go_sem, r0, r1]) rfl ⟨ret_sb e1.out, hB9⟩
  · have e1 : Hid (sumV a b = (⟨a.cur, a.amt + b.amt⟩, true)) := Lib.hid (by unfold sumV; rw [e0, if_pos rfl, q2, if_pos rfl])
    rw [q2] at HM
    clear q0 q1 hX e0 m1 m2 q2
    go_enter Tryd.func19, Tryd.ntmps19
    go_wp2_with fail
    refine (HA.out _).mono ?_
    rintro e w1 ⟨rfl, hb1⟩
    have hR1 := hR0.below hb1 hR0.lt
    clear r0 r1 f0 f1 hR0
    have hB1 := hB0.trans (hb1.mono hB0.size)
    have hA1 := hA0.below hb1 hA0.lt
    have hC1 := hC0.below hb1 hC0.lt
    clear a0 a1 c0 c1 hB0 hA0 hC0 hb1
    have a0 := hA1.cell 0; have a1 := hA1.cell 1; have c0 := hC1.cell 0; have c1 := hC1.cell 1
    simp only [List.getElem?_toArray, List.getElem?_cons_zero, List.getElem?_cons_succ] at a0 a1 c0 c1
    have r0 := hR1.cell 0; have r1 := hR1.cell 1; have f0 := hR1.frozen 0; have f1 := hR1.frozen 1
    simp only [List.getElem?_toArray, List.getElem?_cons_zero, List.getElem?_cons_succ] at r0 r1
    go_wp2_with fail
    refine (HC.out _).mono ?_
    rintro e w2 ⟨rfl, hb2⟩
    have hR2 := hR1.below hb2 hR1.lt
    clear r0 r1 f0 f1 hR1
    have hB2 := hB1.trans (hb2.mono hB1.size)
    have hA2 := hA1.below hb2 hA1.lt
    have hC2 := hC1.below hb2 hC1.lt
    clear a0 a1 c0 c1 hB1 hA1 hC1 hb2
    have a0 := hA2.cell 0; have a1 := hA2.cell 1; have c0 := hC2.cell 0; have c1 := hC2.cell 1
    simp only [List.getElem?_toArray, List.getElem?_cons_zero, List.getElem?_cons_succ] at a0 a1 c0 c1
    have r0 := hR2.cell 0; have r1 := hR2.cell 1; have f0 := hR2.frozen 0; have f1 := hR2.frozen 1
    simp only [List.getElem?_toArray, List.getElem?_cons_zero, List.getElem?_cons_succ] at r0 r1
    have hB3 : Below w.heap.size w (w2.alloc (.cells #[.string a.cur, .int .i64 (a.amt + b.amt)] 23)) := hB2.alloc hB2.size _
    have hA3 := hA2.alloc (.cells #[.string a.cur, .int .i64 (a.amt + b.amt)] 23)
    have hC3 := hC2.alloc (.cells #[.string a.cur, .int .i64 (a.amt + b.amt)] 23)
    have hR3 := hR2.alloc (.cells #[.string a.cur, .int .i64 (a.amt + b.amt)] 23)
    have hS3 : Blk (w2.alloc (.cells #[.string a.cur, .int .i64 (a.amt + b.amt)] 23)) w2.heap.size 23 #[.string a.cur, .int .i64 (a.amt + b.amt)] := Blk.new _ _ _
    go_wp2_with fail
    refine (HM.out _).mono ?_
    rintro e w4 ⟨rfl, hb4⟩
    have hR4 := hR3.below hb4 hR3.lt
    have hS4 := hS3.below hb4 hS3.lt
    clear r0 r1 f0 f1 hR3 hS3
    have hB4 := hB3.trans (hb4.mono hB3.size)
    have hA4 := hA3.below hb4 hA3.lt
    have hC4 := hC3.below hb4 hC3.lt
    clear a0 a1 c0 c1 hB3 hA3 hC3 hb4
    have a0 := hA4.cell 0; have a1 := hA4.cell 1; have c0 := hC4.cell 0; have c1 := hC4.cell 1
    simp only [List.getElem?_toArray, List.getElem?_cons_zero, List.getElem?_cons_succ] at a0 a1 c0 c1
    have r0 := hR4.cell 0; have r1 := hR4.cell 1; have f0 := hR4.frozen 0; have f1 := hR4.frozen 1
    simp only [List.getElem?_toArray, List.getElem?_cons_zero, List.getElem?_cons_succ] at r0 r1
    have s0 := hS4.cell 0; have s1' := hS4.cell 1
    simp only [List.getElem?_toArray, List.getElem?_cons_zero, List.getElem?_cons_succ] at s0 s1'
    go_wp2_with (refine stop_store 23 _ _ rfl ?_; refine wpList_store_blk rfl 23 _ _ rfl #[.string (Mon.mk a.cur (a.amt + b.amt)).cur, .int .i64 (Mon.mk a.cur (a.amt + b.amt)).amt] rfl rfl hR4 (by kernel_rfl) rfl rfl ?_; intro w9 hR9 hk9 hb9)
    have hB9 := hb9 _ _ hB4 (by omega)
    clear r0 r1 f0 f1
    have r0 := hR9.cell 0; have r1 := hR9.cell 1; have f0 := hR9.frozen 0; have f1 := hR9.frozen 1
    simp only [List.getElem?_toArray, List.getElem?_cons_zero, List.getElem?_cons_succ] at r0 r1
    refine bodyPost_ret (v := .tuple #[.agg #[.string (Mon.mk a.cur (a.amt + b.amt)).cur, .int .i64 (Mon.mk a.cur (a.amt + b.amt)).amt], .bool true]) (by simp [results, Tryd.results19, go_sem, r0, r1]) rfl ⟨ret_sb e1.out, hB9⟩
set_option maxHeartbeats 1600000 in
theorem rsum_any (a b : Mon) (w : World) (ha : a.ok) (hb : b.ok) :
    Calls Tryd.prog 20 #[.agg #[.string a.cur, .int .i64 a.amt], .agg #[.string b.cur, .int .i64 b.amt]] w fun e w' => e = .returned (.tuple #[.agg #[.string (sumV a b).1.cur, .int .i64 (sumV a b).1.amt], .bool (sumV a b).2]) ∧ Below w.heap.size w w' := by
  have HA := Lib.hid (fun w => rmay_any a w ha.c)
  have HC := Lib.hid (fun w => rmay_any b w hb.c)
  have HM := Lib.hid (fun w => rmay_any ⟨a.cur, a.amt + b.amt⟩ w ha.c)
  have hA0 : Blk (((w.alloc (.cells #[.string a.cur, .int .i64 a.amt] 23)).alloc (.cells #[.string b.cur, .int .i64 b.amt] 23)).alloc (.cells #[.string ⟨#[]⟩, .int .i64 0] 23)) w.heap.size 23 #[.string a.cur, .int .i64 a.amt] := by first | exact Blk.more (Blk.new _ _ _) _ | exact Blk.more (Blk.more (Blk.new _ _ _) _) _
  have hC0 : Blk (((w.alloc (.cells #[.string a.cur, .int .i64 a.amt] 23)).alloc (.cells #[.string b.cur, .int .i64 b.amt] 23)).alloc (.cells #[.string ⟨#[]⟩, .int .i64 0] 23)) (w.heap.size + 1) 23 #[.string b.cur, .int .i64 b.amt] := by first | exact Blk.newAt _ _ (by simp only [size_alloc]) | exact Blk.more (Blk.newAt _ _ (by simp only [size_alloc])) _
  have hB0 : Below w.heap.size w (((w.alloc (.cells #[.string a.cur, .int .i64 a.amt] 23)).alloc (.cells #[.string b.cur, .int .i64 b.amt] 23)).alloc (.cells #[.string ⟨#[]⟩, .int .i64 0] 23)) := by
    first | (refine Below.alloc (Below.alloc (Below.refl _ _) ?_ _) ?_ _; all_goals (try simp only [size_alloc]); omega) | (refine Below.alloc (Below.alloc (Below.alloc (Below.refl _ _) ?_ _) ?_ _) ?_ _; all_goals (try simp only [size_alloc]); omega)
  have hR0 : Blk (((w.alloc (.cells #[.string a.cur, .int .i64 a.amt] 23)).alloc (.cells #[.string b.cur, .int .i64 b.amt] 23)).alloc (.cells #[.string ⟨#[]⟩, .int .i64 0] 23)) (w.heap.size + 1 + 1) 23 #[.string ⟨#[]⟩, .int .i64 0] := Blk.newAt _ _ (by simp only [size_alloc])
  have a0 := hA0.cell 0; have a1 := hA0.cell 1; have c0 := hC0.cell 0; have c1 := hC0.cell 1
  simp only [List.getElem?_toArray, List.getElem?_cons_zero, List.getElem?_cons_succ] at a0 a1 c0 c1
  have r0 := hR0.cell 0; have r1 := hR0.cell 1; have f0 := hR0.frozen 0; have f1 := hR0.frozen 1
  simp only [List.getElem?_toArray, List.getElem?_cons_zero, List.getElem?_cons_succ] at r0 r1
  clear ha hb
  cases q0 : mayM a
  · have e1 : Hid (sumV a b = (noM, false)) := Lib.hid (by unfold sumV bothB; rw [q0, if_neg (by simp)])
    rw [q0] at HA
    clear q0
    go_enter Tryd.func20, Tryd.ntmps20
    go_wp2_with fail
    refine (HA.out _).mono ?_
    rintro e w1 ⟨rfl, hb1⟩
    have hR1 := hR0.below hb1 hR0.lt
    clear r0 r1 f0 f1 hR0
    have hB1 := hB0.trans (hb1.mono hB0.size)
    have hA1 := hA0.below hb1 hA0.lt
    have hC1 := hC0.below hb1 hC0.lt
    clear a0 a1 c0 c1 hB0 hA0 hC0 hb1
    have a0 := hA1.cell 0; have a1 := hA1.cell 1; have c0 := hC1.cell 0; have c1 := hC1.cell 1
    simp only [List.getElem?_toArray, List.getElem?_cons_zero, List.getElem?_cons_succ] at a0 a1 c0 c1
    have r0 := hR1.cell 0; have r1 := hR1.cell 1; have f0 := hR1.frozen 0; have f1 := hR1.frozen 1
    simp only [List.getElem?_toArray, List.getElem?_cons_zero, List.getElem?_cons_succ] at r0 r1
    go_wp2_with (refine stop_store 23 _ _ rfl ?_; refine wpList_store_blk rfl 23 _ _ rfl #[.string noM.cur, .int .i64 noM.amt] rfl rfl hR1 (by kernel_rfl) rfl rfl ?_; intro w9 hR9 hk9 hb9)
    have hB9 := hb9 _ _ hB1 (by omega)
    clear r0 r1 f0 f1
    have r0 := hR9.cell 0; have r1 := hR9.cell 1; have f0 := hR9.frozen 0; have f1 := hR9.frozen 1
    simp only [List.getElem?_toArray, List.getElem?_cons_zero, List.getElem?_cons_succ] at r0 r1
    refine bodyPost_ret (v := .tuple #[.agg #[.string noM.cur, .int .i64 noM.amt], .bool false]) (by simp [results, Tryd.results20, go_sem, r0, r1]) rfl ⟨ret_sb e1.out, hB9⟩
  rw [q0] at HA
  cases q1 : mayM b
  · have e1 : Hid (sumV a b = (noM, false)) := Lib.hid (by unfold sumV bothB; rw [q0, q1, if_neg (by simp)])
    rw [q1] at HC
    clear q0 q1
    go_enter Tryd.func20, Tryd.ntmps20
    go_wp2_with fail
    refine (HA.out _).mono ?_
    rintro e w1 ⟨rfl, hb1⟩
    have hR1 := hR0.below hb1 hR0.lt
    clear r0 r1 f0 f1 hR0
    have hB1 := hB0.trans (hb1.mono hB0.size)
    have hA1 := hA0.below hb1 hA0.lt
    have hC1 := hC0.below hb1 hC0.lt
    clear a0 a1 c0 c1 hB0 hA0 hC0 hb1
    have a0 := hA1.cell 0; have a1 := hA1.cell 1; have c0 := hC1.cell 0; have c1 := hC1.cell 1
    simp only [List.getElem?_toArray, List.getElem?_cons_zero, List.getElem?_cons_succ] at a0 a1 c0 c1
    have r0 := hR1.cell 0; have r1 := hR1.cell 1; have f0 := hR1.frozen 0; have f1 := hR1.frozen 1
    simp only [List.getElem?_toArray, List.getElem?_cons_zero, List.getElem?_cons_succ] at r0 r1
    go_wp2_with fail
    refine (HC.out _).mono ?_
    rintro e w2 ⟨rfl, hb2⟩
    have hR2 := hR1.below hb2 hR1.lt
    clear r0 r1 f0 f1 hR1
    have hB2 := hB1.trans (hb2.mono hB1.size)
    have hA2 := hA1.below hb2 hA1.lt
    have hC2 := hC1.below hb2 hC1.lt
    clear a0 a1 c0 c1 hB1 hA1 hC1 hb2
    have a0 := hA2.cell 0; have a1 := hA2.cell 1; have c0 := hC2.cell 0; have c1 := hC2.cell 1
    simp only [List.getElem?_toArray, List.getElem?_cons_zero, List.getElem?_cons_succ] at a0 a1 c0 c1
    have r0 := hR2.cell 0; have r1 := hR2.cell 1; have f0 := hR2.frozen 0; have f1 := hR2.frozen 1
    simp only [List.getElem?_toArray, List.getElem?_cons_zero, List.getElem?_cons_succ] at r0 r1
    go_wp2_with (refine stop_store 23 _ _ rfl ?_; refine wpList_store_blk rfl 23 _ _ rfl #[.string noM.cur, .int .i64 noM.amt] rfl rfl hR2 (by kernel_rfl) rfl rfl ?_; intro w9 hR9 hk9 hb9)
    have hB9 := hb9 _ _ hB2 (by omega)
    clear r0 r1 f0 f1
    have r0 := hR9.cell 0; have r1 := hR9.cell 1; have f0 := hR9.frozen 0; have f1 := hR9.frozen 1
    simp only [List.getElem?_toArray, List.getElem?_cons_zero, List.getElem?_cons_succ] at r0 r1
    refine bodyPost_ret (v := .tuple #[.agg #[.string noM.cur, .int .i64 noM.amt], .bool false]) (by simp [results, Tryd.results20, go_sem, r0, r1]) rfl ⟨ret_sb e1.out, hB9⟩
  rw [q1] at HC
  have s1 := eq_str a.cur b.cur
  obtain ⟨X, hX⟩ : ∃ X, decide (a.cur = b.cur) = X := ⟨_, rfl⟩
  rw [hX] at s1
  have e0 : bothB a b = X := by unfold bothB; rw [q0, q1, hX]; rfl
  have m1 := (may_iff.1 q0).2
  have m2 := (may_iff.1 q1).2
  cases X
  · have e1 : Hid (sumV a b = (noM, false)) := Lib.hid (by unfold sumV; rw [e0, if_neg (by simp)])
    clear q0 q1 hX e0 m1 m2
    go_enter Tryd.func20, Tryd.ntmps20
    go_wp2_with fail
    refine (HA.out _).mono ?_
    rintro e w1 ⟨rfl, hb1⟩
    have hR1 := hR0.below hb1 hR0.lt
    clear r0 r1 f0 f1 hR0
    have hB1 := hB0.trans (hb1.mono hB0.size)
    have hA1 := hA0.below hb1 hA0.lt
    have hC1 := hC0.below hb1 hC0.lt
    clear a0 a1 c0 c1 hB0 hA0 hC0 hb1
    have a0 := hA1.cell 0; have a1 := hA1.cell 1; have c0 := hC1.cell 0; have c1 := hC1.cell 1
    simp only [List.getElem?_toArray, List.getElem?_cons_zero, List.getElem?_cons_succ] at a0 a1 c0 c1
    have r0 := hR1.cell 0; have r1 := hR1.cell 1; have f0 := hR1.frozen 0; have f1 := hR1.frozen 1
    simp only [List.getElem?_toArray, List.getElem?_cons_zero, List.getElem?_cons_succ] at r0 r1
    go_wp2_with fail
    refine (HC.out _).mono ?_
    rintro e w2 ⟨rfl, hb2⟩
    have hR2 := hR1.below hb2 hR1.lt
    clear r0 r1 f0 f1 hR1
    have hB2 := hB1.trans (hb2.mono hB1.size)
    have hA2 := hA1.below hb2 hA1.lt
    have hC2 := hC1.below hb2 hC1.lt
    clear a0 a1 c0 c1 hB1 hA1 hC1 hb2
    have a0 := hA2.cell 0; have a1 := hA2.cell 1; have c0 := hC2.cell 0; have c1 := hC2.cell 1
    simp only [List.getElem?_toArray, List.getElem?_cons_zero, List.getElem?_cons_succ] at a0 a1 c0 c1
    have r0 := hR2.cell 0; have r1 := hR2.cell 1; have f0 := hR2.frozen 0; have f1 := hR2.frozen 1
    simp only [List.getElem?_toArray, List.getElem?_cons_zero, List.getElem?_cons_succ] at r0 r1
    go_wp2_with (refine stop_store 23 _ _ rfl ?_; refine wpList_store_blk rfl 23 _ _ rfl #[.string noM.cur, .int .i64 noM.amt] rfl rfl hR2 (by kernel_rfl) rfl rfl ?_; intro w9 hR9 hk9 hb9)
    have hB9 := hb9 _ _ hB2 (by omega)
    clear r0 r1 f0 f1
    have r0 := hR9.cell 0; have r1 := hR9.cell 1; have f0 := hR9.frozen 0; have f1 := hR9.frozen 1
    simp only [List.getElem?_toArray, List.getElem?_cons_zero, List.getElem?_cons_succ] at r0 r1
    refine bodyPost_ret (v := .tuple #[.agg #[.string noM.cur, .int .i64 noM.amt], .bool false]) (by simp [results, Tryd.results20, go_sem, r0, r1]) rfl ⟨ret_sb e1.out, hB9⟩
  have hw : wrap64 (a.amt + b.amt) = a.amt + b.amt := by unfold wrap64; omega
  cases q2 : mayM ⟨a.cur, a.amt + b.amt⟩
  · have e1 : Hid (sumV a b = (noM, false)) := Lib.hid (by unfold sumV; rw [e0, if_pos rfl, q2, if_neg (by simp)])
    rw [q2] at HM
    clear q0 q1 hX e0 m1 m2 q2
    go_enter Tryd.func20, Tryd.ntmps20
    go_wp2_with fail
    refine (HA.out _).mono ?_
    rintro e w1 ⟨rfl, hb1⟩
    have hR1 := hR0.below hb1 hR0.lt
    clear r0 r1 f0 f1 hR0
    have hB1 := hB0.trans (hb1.mono hB0.size)
    have hA1 := hA0.below hb1 hA0.lt
    have hC1 := hC0.below hb1 hC0.lt
    clear a0 a1 c0 c1 hB0 hA0 hC0 hb1
    have a0 := hA1.cell 0; have a1 := hA1.cell 1; have c0 := hC1.cell 0; have c1 := hC1.cell 1
    simp only [List.getElem?_toArray, List.getElem?_cons_zero, List.getElem?_cons_succ] at a0 a1 c0 c1
    have r0 := hR1.cell 0; have r1 := hR1.cell 1; have f0 := hR1.frozen 0; have f1 := hR1.frozen 1
    simp only [List.getElem?_toArray, List.getElem?_cons_zero, List.getElem?_cons_succ] at r0 r1
    go_wp2_with fail
    refine (HC.out _).mono ?_
    rintro e w2 ⟨rfl, hb2⟩
    have hR2 := hR1.below hb2 hR1.lt
    clear r0 r1 f0 f1 hR1
    have hB2 := hB1.trans (hb2.mono hB1.size)
    have hA2 := hA1.below hb2 hA1.lt
    have hC2 := hC1.below hb2 hC1.lt
    clear a0 a1 c0 c1 hB1 hA1 hC1 hb2
    have a0 := hA2.cell 0; have a1 := hA2.cell 1; have c0 := hC2.cell 0; have c1 := hC2.cell 1
    simp only [List.getElem?_toArray, List.getElem?_cons_zero, List.getElem?_cons_succ] at a0 a1 c0 c1
    have r0 := hR2.cell 0; have r1 := hR2.cell 1; have f0 := hR2.frozen 0; have f1 := hR2.frozen 1
    simp only [List.getElem?_toArray, List.getElem?_cons_zero, List.getElem?_cons_succ] at r0 r1
    have hB3 : Below w.heap.size w (w2.alloc (.cells #[.string a.cur, .int .i64 (a.amt + b.amt)] 23)) := hB2.alloc hB2.size _
    have hA3 := hA2.alloc (.cells #[.string a.cur, .int .i64 (a.amt + b.amt)] 23)
    have hC3 := hC2.alloc (.cells #[.string a.cur, .int .i64 (a.amt + b.amt)] 23)
    have hR3 := hR2.alloc (.cells #[.string a.cur, .int .i64 (a.amt + b.amt)] 23)
    go_wp2_with fail
    refine (HM.out _).mono ?_
    rintro e w4 ⟨rfl, hb4⟩
    have hR4 := hR3.below hb4 hR3.lt
    clear r0 r1 f0 f1 hR3
    have hB4 := hB3.trans (hb4.mono hB3.size)
    have hA4 := hA3.below hb4 hA3.lt
    have hC4 := hC3.below hb4 hC3.lt
    clear a0 a1 c0 c1 hB3 hA3 hC3 hb4
    have a0 := hA4.cell 0; have a1 := hA4.cell 1; have c0 := hC4.cell 0; have c1 := hC4.cell 1
    simp only [List.getElem?_toArray, List.getElem?_cons_zero, List.getElem?_cons_succ] at a0 a1 c0 c1
    have r0 := hR4.cell 0; have r1 := hR4.cell 1; have f0 := hR4.frozen 0; have f1 := hR4.frozen 1
    simp only [List.getElem?_toArray, List.getElem?_cons_zero, List.getElem?_cons_succ] at r0 r1
    go_wp2_with (refine stop_store 23 _ _ rfl ?_; refine wpList_store_blk rfl 23 _ _ rfl #[.string noM.cur, .int .i64 noM.amt] rfl rfl hR4 (by kernel_rfl) rfl rfl ?_; intro w9 hR9 hk9 hb9)
    have hB9 := hb9 _ _ hB4 (by omega)
    clear r0 r1 f0 f1
    have r0 := hR9.cell 0; have r1 := hR9.cell 1; have f0 := hR9.frozen 0; have f1 := hR9.frozen 1
    simp only [List.getElem?_toArray, List.getElem?_cons_zero, List.getElem?_cons_succ] at r0 r1
    refine bodyPost_ret (v := .tuple #[.agg #[.string noM.cur, .int .i64 noM.amt], .bool false]) (by simp [results, Tryd.results20, go_sem, r0, r1]) rfl ⟨ret_sb e1.out, hB9⟩
  · have e1 : Hid (sumV a b = (⟨a.cur, a.amt + b.amt⟩, true)) := Lib.hid (by unfold sumV; rw [e0, if_pos rfl, q2, if_pos rfl])
    rw [q2] at HM
    clear q0 q1 hX e0 m1 m2 q2
    go_enter Tryd.func20, Tryd.ntmps20
    go_wp2_with fail
    refine (HA.out _).mono ?_
    rintro e w1 ⟨rfl, hb1⟩
    have hR1 := hR0.below hb1 hR0.lt
    clear r0 r1 f0 f1 hR0
    have hB1 := hB0.trans (hb1.mono hB0.size)
    have hA1 := hA0.below hb1 hA0.lt
    have hC1 := hC0.below hb1 hC0.lt
    clear a0 a1 c0 c1 hB0 hA0 hC0 hb1
    have a0 := hA1.cell 0; have a1 := hA1.cell 1; have c0 := hC1.cell 0; have c1 := hC1.cell 1
    simp only [List.getElem?_toArray, List.getElem?_cons_zero, List.getElem?_cons_succ] at a0 a1 c0 c1
    have r0 := hR1.cell 0; have r1 := hR1.cell 1; have f0 := hR1.frozen 0; have f1 := hR1.frozen 1
    simp only [List.getElem?_toArray, List.getElem?_cons_zero, List.getElem?_cons_succ] at r0 r1
    go_wp2_with fail
    refine (HC.out _).mono ?_
    rintro e w2 ⟨rfl, hb2⟩
    have hR2 := hR1.below hb2 hR1.lt
    clear r0 r1 f0 f1 hR1
    have hB2 := hB1.trans (hb2.mono hB1.size)
    have hA2 := hA1.below hb2 hA1.lt
    have hC2 := hC1.below hb2 hC1.lt
    clear a0 a1 c0 c1 hB1 hA1 hC1 hb2
    have a0 := hA2.cell 0; have a1 := hA2.cell 1; have c0 := hC2.cell 0; have c1 := hC2.cell 1
    simp only [List.getElem?_toArray, List.getElem?_cons_zero, List.getElem?_cons_succ] at a0 a1 c0 c1
    have r0 := hR2.cell 0; have r1 := hR2.cell 1; have f0 := hR2.frozen 0; have f1 := hR2.frozen 1
    simp only [List.getElem?_toArray, List.getElem?_cons_zero, List.getElem?_cons_succ] at r0 r1
    have hB3 : Below w.heap.size w (w2.alloc (.cells #[.string a.cur, .int .i64 (a.amt + b.amt)] 23)) := hB2.alloc hB2.size _
    have hA3 := hA2.alloc (.cells #[.string a.cur, .int .i64 (a.amt + b.amt)] 23)
    have hC3 := hC2.alloc (.cells #[.string a.cur, .int .i64 (a.amt + b.amt)] 23)
    have hR3 := hR2.alloc (.cells #[.string a.cur, .int .i64 (a.amt + b.amt)] 23)
    have hS3 : Blk (w2.alloc (.cells #[.string a.cur, .int .i64 (a.amt + b.amt)] 23)) w2.heap.size 23 #[.string a.cur, .int .i64 (a.amt + b.amt)] := Blk.new _ _ _
    go_wp2_with fail
    refine (HM.out _).mono ?_
    rintro e w4 ⟨rfl, hb4⟩
    have hR4 := hR3.below hb4 hR3.lt
    have hS4 := hS3.below hb4 hS3.lt
    clear r0 r1 f0 f1 hR3 hS3
    have hB4 := hB3.trans (hb4.mono hB3.size)
    have hA4 := hA3.below hb4 hA3.lt
    have hC4 := hC3.below hb4 hC3.lt
    clear a0 a1 c0 c1 hB3 hA3 hC3 hb4
    have a0 := hA4.cell 0; have a1 := hA4.cell 1; have c0 := hC4.cell 0; have c1 := hC4.cell 1
    simp only [List.getElem?_toArray, List.getElem?_cons_zero, List.getElem?_cons_succ] at a0 a1 c0 c1
    have r0 := hR4.cell 0; have r1 := hR4.cell 1; have f0 := hR4.frozen 0; have f1 := hR4.frozen 1
    simp only [List.getElem?_toArray, List.getElem?_cons_zero, List.getElem?_cons_succ] at r0 r1
    have s0 := hS4.cell 0; have s1' := hS4.cell 1
    simp only [List.getElem?_toArray, List.getElem?_cons_zero, List.getElem?_cons_succ] at s0 s1'
    go_wp2_with (refine stop_store 23 _ _ rfl ?_; refine wpList_store_blk rfl 23 _ _ rfl #[.string (Mon.mk a.cur (a.amt + b.amt)).cur, .int .i64 (Mon.mk a.cur (a.amt + b.amt)).amt] rfl rfl hR4 (by kernel_rfl) rfl rfl ?_; intro w9 hR9 hk9 hb9)
    have hB9 := hb9 _ _ hB4 (by omega)
    clear r0 r1 f0 f1
    have r0 := hR9.cell 0; have r1 := hR9.cell 1; have f0 := hR9.frozen 0; have f1 := hR9.frozen 1
    simp only [List.getElem?_toArray, List.getElem?_cons_zero, List.getElem?_cons_succ] at r0 r1
    refine bodyPost_ret (v := .tuple #[.agg #[.string (Mon.mk a.cur (a.amt + b.amt)).cur, .int .i64 (Mon.mk a.cur (a.amt + b.amt)).amt], .bool true]) (by simp [results, Tryd.results20, go_sem, r0, r1]) rfl ⟨ret_sb e1.out, hB9⟩
end Go.Proofs.YtmmcngdpfikdiaaDoor.kit
