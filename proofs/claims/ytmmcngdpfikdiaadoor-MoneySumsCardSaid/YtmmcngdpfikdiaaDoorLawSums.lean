/- MoneySums: the law. Condition: the table of powers of ten. -/
import Derived.Test.YtmmcngdpfikdiaaDoorMyAll
import Derived.Test.YtmmcngdpfikdiaaDoorMyW
import Derived.Test.YtmmcngdpfikdiaaDoorTail
namespace Go.Proofs.YtmmcngdpfikdiaaDoor
open Go.RowKit Go.Proofs.YtmmcngdpfikdiaaDoor.kit Go.PlainAid
set_option linter.unusedVariables false

set_option maxRecDepth 100000 in
set_option maxHeartbeats 6400000 in
theorem moneySums_walk (a b : Mon) (w : World) (ha : a.ok) (hb : b.ok) (ht : PowTab w) :
    Calls Tryd.prog 8 #[.agg #[.string a.cur, .int .i64 a.amt], .agg #[.string b.cur, .int .i64 b.amt]] w fun e w' => e = .returned (.bool true) ∧ Below w.heap.size w w' := by
  have HT := Lib.hid (Lib.tabBelow_of_tabIs ht)
  have HS := Lib.hid (fun w => sum_any a b w ha hb)
  have HR := Lib.hid (fun w => rsum_any a b w ha hb)
  have HL := Lib.hid (fun w => less_any a b w ha.c hb.c)
  have HMA := Lib.hid (fun w => may_any a w ha.c)
  have HRA := Lib.hid (fun w => rmay_any a w ha.c)
  have HRB := Lib.hid (fun w => rmay_any b w hb.c)
  obtain ⟨⟨S, ok⟩, hv⟩ : ∃ v, sumV a b = v := ⟨_, rfl⟩
  rw [hv] at HS HR
  simp only [] at HS HR
  have q1 := eqMon
  have q2 := eqMonGuard
  have hA0 : Blk ((w.alloc (.cells #[.string a.cur, .int .i64 a.amt] 23)).alloc (.cells #[.string b.cur, .int .i64 b.amt] 23)) w.heap.size 23 #[.string a.cur, .int .i64 a.amt] := Blk.more (Blk.new _ _ _) _
  have hC0 : Blk ((w.alloc (.cells #[.string a.cur, .int .i64 a.amt] 23)).alloc (.cells #[.string b.cur, .int .i64 b.amt] 23)) (w.heap.size + 1) 23 #[.string b.cur, .int .i64 b.amt] := Blk.newAt _ _ (by simp only [size_alloc])
  have hB0 : Below w.heap.size w ((w.alloc (.cells #[.string a.cur, .int .i64 a.amt] 23)).alloc (.cells #[.string b.cur, .int .i64 b.amt] 23)) := by
    refine Below.alloc (Below.alloc (Below.refl _ _) ?_ _) ?_ _
    all_goals (try simp only [size_alloc]); omega
  have a0 := hA0.cell 0; have a1 := hA0.cell 1; have c0 := hC0.cell 0; have c1 := hC0.cell 1
  simp only [List.getElem?_toArray, List.getElem?_cons_zero, List.getElem?_cons_succ] at a0 a1 c0 c1
  have s9 := eq_str a.cur b.cur
  obtain ⟨X, hX⟩ : ∃ X, decide (a.cur = b.cur) = X := ⟨_, rfl⟩
  obtain ⟨MA, hMA⟩ : ∃ X, mayM a = X := ⟨_, rfl⟩
  obtain ⟨MB, hMB⟩ : ∃ X, mayM b = X := ⟨_, rfl⟩
  obtain ⟨LT, hLT⟩ : ∃ X, decide (a.amt < b.amt) = X := ⟨_, rfl⟩
  have hbo : bothB a b = (MA && (MB && X)) := by unfold bothB; rw [hMA, hMB, hX]
  have hle : lessV a b = ((MA && (MB && X)) && LT) := by unfold lessV; rw [hbo, hLT]
  rw [hbo, hle] at HL
  rw [hMA] at HMA HRA
  rw [hMB] at HRB
  rw [hX] at s9
  clear hv ht ha hb hX hMA hMB hbo hle
  have HLT := Lib.hid hLT
  cases MA
  · simp only [Bool.false_and] at HL
    go_enter Tryd.func8, Tryd.ntmps8
    go_wp2_with fail
    refine (HS.out _).mono ?_
    rintro e w1 ⟨rfl, hb1⟩
    have hB1 : Below w.heap.size w (w1.alloc (.cells #[.string S.cur, .int .i64 S.amt] 23)) := (hB0.trans (hb1.mono hB0.size)).alloc (hB0.trans (hb1.mono hB0.size)).size _
    have hA1 := (hA0.below hb1 hA0.lt).alloc (.cells #[.string S.cur, .int .i64 S.amt] 23)
    have hC1 := (hC0.below hb1 hC0.lt).alloc (.cells #[.string S.cur, .int .i64 S.amt] 23)
    have hS1 : Blk (w1.alloc (.cells #[.string S.cur, .int .i64 S.amt] 23)) w1.heap.size 23 #[.string S.cur, .int .i64 S.amt] := Blk.new _ _ _
    clear a0 a1 c0 c1 hA0 hC0 hB0 hb1
    have a0 := hA1.cell 0; have a1 := hA1.cell 1; have c0 := hC1.cell 0; have c1 := hC1.cell 1
    simp only [List.getElem?_toArray, List.getElem?_cons_zero, List.getElem?_cons_succ] at a0 a1 c0 c1
    go_wp2_with fail
    refine (HR.out _).mono ?_
    rintro e w2 ⟨rfl, hb2⟩
    have hB2' := hB1.trans (hb2.mono hB1.size)
    have hB2 : Below w.heap.size w (w2.alloc (.cells #[.string S.cur, .int .i64 S.amt] 23)) := hB2'.alloc hB2'.size _
    have hA2 := (hA1.below hb2 hA1.lt).alloc (.cells #[.string S.cur, .int .i64 S.amt] 23)
    have hC2 := (hC1.below hb2 hC1.lt).alloc (.cells #[.string S.cur, .int .i64 S.amt] 23)
    have hS2 := (hS1.below hb2 hS1.lt).alloc (.cells #[.string S.cur, .int .i64 S.amt] 23)
    have hT2 : Blk (w2.alloc (.cells #[.string S.cur, .int .i64 S.amt] 23)) w2.heap.size 23 #[.string S.cur, .int .i64 S.amt] := Blk.new _ _ _
    clear a0 a1 c0 c1 hA1 hC1 hB1 hb2 hB2' hS1
    have a0 := hA2.cell 0; have a1 := hA2.cell 1; have c0 := hC2.cell 0; have c1 := hC2.cell 1
    simp only [List.getElem?_toArray, List.getElem?_cons_zero, List.getElem?_cons_succ] at a0 a1 c0 c1
    go_wp2_with fail
    refine (HL.out _).mono ?_
    rintro e w3 ⟨rfl, hb3⟩
    have hT3 := hT2.below hb3 hT2.lt
    clear hT2
    have hB3 := hB2.trans (hb3.mono hB2.size)
    have hA3 := hA2.below hb3 hA2.lt
    have hC3 := hC2.below hb3 hC2.lt
    have hS3 := hS2.below hb3 hS2.lt
    clear a0 a1 c0 c1 hB2 hA2 hC2 hb3 hS2
    have a0 := hA3.cell 0; have a1 := hA3.cell 1; have c0 := hC3.cell 0; have c1 := hC3.cell 1
    simp only [List.getElem?_toArray, List.getElem?_cons_zero, List.getElem?_cons_succ] at a0 a1 c0 c1
    go_wp2_with fail
    refine (HRA.out _).mono ?_
    rintro e w4 ⟨rfl, hb4⟩
    have hT4 := hT3.below hb4 hT3.lt
    have hB4 := hB3.trans (hb4.mono hB3.size)
    have hA4 := hA3.below hb4 hA3.lt
    have hC4 := hC3.below hb4 hC3.lt
    have hS4 := hS3.below hb4 hS3.lt
    clear a0 a1 c0 c1 hB3 hA3 hC3 hb4 hS3
    have a0 := hA4.cell 0; have a1 := hA4.cell 1; have c0 := hC4.cell 0; have c1 := hC4.cell 1
    simp only [List.getElem?_toArray, List.getElem?_cons_zero, List.getElem?_cons_succ] at a0 a1 c0 c1
    have s0 := hS4.cell 0; have s1 := hS4.cell 1; have t0 := hT4.cell 0; have t1 := hT4.cell 1
    simp only [List.getElem?_toArray, List.getElem?_cons_zero, List.getElem?_cons_succ] at s0 s1 t0 t1
    have p0 := wof_cell a0; have p1 := wof_cell a1; have p2 := wof_cell c0; have p3 := wof_cell c1; have p4 := wof_cell s0; have p5 := wof_cell s1; have p6 := wof_cell t0; have p7 := wof_cell t1
    have hBB := hB4
    have QA : Hid (∀ x : BW w4, Calls Tryd.prog 13 #[] (wof x) fun e w' => e = .returned (.bool true) ∧ Below (wof x).heap.size (wof x) w') := Lib.hid fun x => awake_any _ (HT.out.on (hBB.trans ((wof_below x).mono hBB.size))).here
    have hLT := HLT.out
    go_wp2_with fail
    refine wp_region_quiet_below (by kernel_rfl) (by kernel_rfl) ?_
    repeat (go_big_quiet_step ((first | (go_at_call 22; exact quiet_below (HMA.out _)) | (go_at_call 14; exact quiet_below (HRA.out _)) | (go_at_call 13; exact quiet_below (QA.out _)))))
    refine wpQuiet_nil ?_
    intro w7 hb7
    go_wp2_with fail
    go_ret
    exact ⟨ret_bool (by simp), hBB.trans (hb7.mono hBB.size)⟩
  cases MB
  · simp only [Bool.false_and, Bool.true_and] at HL
    go_enter Tryd.func8, Tryd.ntmps8
    go_wp2_with fail
    refine (HS.out _).mono ?_
    rintro e w1 ⟨rfl, hb1⟩
    have hB1 : Below w.heap.size w (w1.alloc (.cells #[.string S.cur, .int .i64 S.amt] 23)) := (hB0.trans (hb1.mono hB0.size)).alloc (hB0.trans (hb1.mono hB0.size)).size _
    have hA1 := (hA0.below hb1 hA0.lt).alloc (.cells #[.string S.cur, .int .i64 S.amt] 23)
    have hC1 := (hC0.below hb1 hC0.lt).alloc (.cells #[.string S.cur, .int .i64 S.amt] 23)
    have hS1 : Blk (w1.alloc (.cells #[.string S.cur, .int .i64 S.amt] 23)) w1.heap.size 23 #[.string S.cur, .int .i64 S.amt] := Blk.new _ _ _
    clear a0 a1 c0 c1 hA0 hC0 hB0 hb1
    have a0 := hA1.cell 0; have a1 := hA1.cell 1; have c0 := hC1.cell 0; have c1 := hC1.cell 1
    simp only [List.getElem?_toArray, List.getElem?_cons_zero, List.getElem?_cons_succ] at a0 a1 c0 c1
    go_wp2_with fail
    refine (HR.out _).mono ?_
    rintro e w2 ⟨rfl, hb2⟩
    have hB2' := hB1.trans (hb2.mono hB1.size)
    have hB2 : Below w.heap.size w (w2.alloc (.cells #[.string S.cur, .int .i64 S.amt] 23)) := hB2'.alloc hB2'.size _
    have hA2 := (hA1.below hb2 hA1.lt).alloc (.cells #[.string S.cur, .int .i64 S.amt] 23)
    have hC2 := (hC1.below hb2 hC1.lt).alloc (.cells #[.string S.cur, .int .i64 S.amt] 23)
    have hS2 := (hS1.below hb2 hS1.lt).alloc (.cells #[.string S.cur, .int .i64 S.amt] 23)
    have hT2 : Blk (w2.alloc (.cells #[.string S.cur, .int .i64 S.amt] 23)) w2.heap.size 23 #[.string S.cur, .int .i64 S.amt] := Blk.new _ _ _
    clear a0 a1 c0 c1 hA1 hC1 hB1 hb2 hB2' hS1
    have a0 := hA2.cell 0; have a1 := hA2.cell 1; have c0 := hC2.cell 0; have c1 := hC2.cell 1
    simp only [List.getElem?_toArray, List.getElem?_cons_zero, List.getElem?_cons_succ] at a0 a1 c0 c1
    go_wp2_with fail
    refine (HL.out _).mono ?_
    rintro e w3 ⟨rfl, hb3⟩
    have hT3 := hT2.below hb3 hT2.lt
    clear hT2
    have hB3 := hB2.trans (hb3.mono hB2.size)
    have hA3 := hA2.below hb3 hA2.lt
    have hC3 := hC2.below hb3 hC2.lt
    have hS3 := hS2.below hb3 hS2.lt
    clear a0 a1 c0 c1 hB2 hA2 hC2 hb3 hS2
    have a0 := hA3.cell 0; have a1 := hA3.cell 1; have c0 := hC3.cell 0; have c1 := hC3.cell 1
    simp only [List.getElem?_toArray, List.getElem?_cons_zero, List.getElem?_cons_succ] at a0 a1 c0 c1
    go_wp2_with fail
    refine (HRA.out _).mono ?_
    rintro e w4 ⟨rfl, hb4⟩
    have hT4 := hT3.below hb4 hT3.lt
    have hB4 := hB3.trans (hb4.mono hB3.size)
    have hA4 := hA3.below hb4 hA3.lt
    have hC4 := hC3.below hb4 hC3.lt
    have hS4 := hS3.below hb4 hS3.lt
    clear a0 a1 c0 c1 hB3 hA3 hC3 hb4 hS3
    have a0 := hA4.cell 0; have a1 := hA4.cell 1; have c0 := hC4.cell 0; have c1 := hC4.cell 1
    simp only [List.getElem?_toArray, List.getElem?_cons_zero, List.getElem?_cons_succ] at a0 a1 c0 c1
    go_wp2_with fail
    refine (HRB.out _).mono ?_
    rintro e w5 ⟨rfl, hb5⟩
    have hT5 := hT4.below hb5 hT4.lt
    have hB5 := hB4.trans (hb5.mono hB4.size)
    have hA5 := hA4.below hb5 hA4.lt
    have hC5 := hC4.below hb5 hC4.lt
    have hS5 := hS4.below hb5 hS4.lt
    clear a0 a1 c0 c1 hB4 hA4 hC4 hb5 hS4
    have a0 := hA5.cell 0; have a1 := hA5.cell 1; have c0 := hC5.cell 0; have c1 := hC5.cell 1
    simp only [List.getElem?_toArray, List.getElem?_cons_zero, List.getElem?_cons_succ] at a0 a1 c0 c1
    have s0 := hS5.cell 0; have s1 := hS5.cell 1; have t0 := hT5.cell 0; have t1 := hT5.cell 1
    simp only [List.getElem?_toArray, List.getElem?_cons_zero, List.getElem?_cons_succ] at s0 s1 t0 t1
    have p0 := wof_cell a0; have p1 := wof_cell a1; have p2 := wof_cell c0; have p3 := wof_cell c1; have p4 := wof_cell s0; have p5 := wof_cell s1; have p6 := wof_cell t0; have p7 := wof_cell t1
    have hBB := hB5
    have QA : Hid (∀ x : BW w5, Calls Tryd.prog 13 #[] (wof x) fun e w' => e = .returned (.bool true) ∧ Below (wof x).heap.size (wof x) w') := Lib.hid fun x => awake_any _ (HT.out.on (hBB.trans ((wof_below x).mono hBB.size))).here
    have hLT := HLT.out
    go_wp2_with fail
    refine wp_region_quiet_below (by kernel_rfl) (by kernel_rfl) ?_
    repeat (go_big_quiet_step ((first | (go_at_call 22; exact quiet_below (HMA.out _)) | (go_at_call 14; exact quiet_below (HRA.out _)) | (go_at_call 13; exact quiet_below (QA.out _)))))
    refine wpQuiet_nil ?_
    intro w7 hb7
    go_wp2_with fail
    go_ret
    exact ⟨ret_bool (by simp), hBB.trans (hb7.mono hBB.size)⟩
  cases X
  · simp only [Bool.false_and, Bool.true_and] at HL
    go_enter Tryd.func8, Tryd.ntmps8
    go_wp2_with fail
    refine (HS.out _).mono ?_
    rintro e w1 ⟨rfl, hb1⟩
    have hB1 : Below w.heap.size w (w1.alloc (.cells #[.string S.cur, .int .i64 S.amt] 23)) := (hB0.trans (hb1.mono hB0.size)).alloc (hB0.trans (hb1.mono hB0.size)).size _
    have hA1 := (hA0.below hb1 hA0.lt).alloc (.cells #[.string S.cur, .int .i64 S.amt] 23)
    have hC1 := (hC0.below hb1 hC0.lt).alloc (.cells #[.string S.cur, .int .i64 S.amt] 23)
    have hS1 : Blk (w1.alloc (.cells #[.string S.cur, .int .i64 S.amt] 23)) w1.heap.size 23 #[.string S.cur, .int .i64 S.amt] := Blk.new _ _ _
    clear a0 a1 c0 c1 hA0 hC0 hB0 hb1
    have a0 := hA1.cell 0; have a1 := hA1.cell 1; have c0 := hC1.cell 0; have c1 := hC1.cell 1
    simp only [List.getElem?_toArray, List.getElem?_cons_zero, List.getElem?_cons_succ] at a0 a1 c0 c1
    go_wp2_with fail
    refine (HR.out _).mono ?_
    rintro e w2 ⟨rfl, hb2⟩
    have hB2' := hB1.trans (hb2.mono hB1.size)
    have hB2 : Below w.heap.size w (w2.alloc (.cells #[.string S.cur, .int .i64 S.amt] 23)) := hB2'.alloc hB2'.size _
    have hA2 := (hA1.below hb2 hA1.lt).alloc (.cells #[.string S.cur, .int .i64 S.amt] 23)
    have hC2 := (hC1.below hb2 hC1.lt).alloc (.cells #[.string S.cur, .int .i64 S.amt] 23)
    have hS2 := (hS1.below hb2 hS1.lt).alloc (.cells #[.string S.cur, .int .i64 S.amt] 23)
    have hT2 : Blk (w2.alloc (.cells #[.string S.cur, .int .i64 S.amt] 23)) w2.heap.size 23 #[.string S.cur, .int .i64 S.amt] := Blk.new _ _ _
    clear a0 a1 c0 c1 hA1 hC1 hB1 hb2 hB2' hS1
    have a0 := hA2.cell 0; have a1 := hA2.cell 1; have c0 := hC2.cell 0; have c1 := hC2.cell 1
    simp only [List.getElem?_toArray, List.getElem?_cons_zero, List.getElem?_cons_succ] at a0 a1 c0 c1
    go_wp2_with fail
    refine (HL.out _).mono ?_
    rintro e w3 ⟨rfl, hb3⟩
    have hT3 := hT2.below hb3 hT2.lt
    clear hT2
    have hB3 := hB2.trans (hb3.mono hB2.size)
    have hA3 := hA2.below hb3 hA2.lt
    have hC3 := hC2.below hb3 hC2.lt
    have hS3 := hS2.below hb3 hS2.lt
    clear a0 a1 c0 c1 hB2 hA2 hC2 hb3 hS2
    have a0 := hA3.cell 0; have a1 := hA3.cell 1; have c0 := hC3.cell 0; have c1 := hC3.cell 1
    simp only [List.getElem?_toArray, List.getElem?_cons_zero, List.getElem?_cons_succ] at a0 a1 c0 c1
    go_wp2_with fail
    refine (HRA.out _).mono ?_
    rintro e w4 ⟨rfl, hb4⟩
    have hT4 := hT3.below hb4 hT3.lt
    have hB4 := hB3.trans (hb4.mono hB3.size)
    have hA4 := hA3.below hb4 hA3.lt
    have hC4 := hC3.below hb4 hC3.lt
    have hS4 := hS3.below hb4 hS3.lt
    clear a0 a1 c0 c1 hB3 hA3 hC3 hb4 hS3
    have a0 := hA4.cell 0; have a1 := hA4.cell 1; have c0 := hC4.cell 0; have c1 := hC4.cell 1
    simp only [List.getElem?_toArray, List.getElem?_cons_zero, List.getElem?_cons_succ] at a0 a1 c0 c1
    go_wp2_with fail
    refine (HRB.out _).mono ?_
    rintro e w5 ⟨rfl, hb5⟩
    have hT5 := hT4.below hb5 hT4.lt
    have hB5 := hB4.trans (hb5.mono hB4.size)
    have hA5 := hA4.below hb5 hA4.lt
    have hC5 := hC4.below hb5 hC4.lt
    have hS5 := hS4.below hb5 hS4.lt
    clear a0 a1 c0 c1 hB4 hA4 hC4 hb5 hS4
    have a0 := hA5.cell 0; have a1 := hA5.cell 1; have c0 := hC5.cell 0; have c1 := hC5.cell 1
    simp only [List.getElem?_toArray, List.getElem?_cons_zero, List.getElem?_cons_succ] at a0 a1 c0 c1
    have s0 := hS5.cell 0; have s1 := hS5.cell 1; have t0 := hT5.cell 0; have t1 := hT5.cell 1
    simp only [List.getElem?_toArray, List.getElem?_cons_zero, List.getElem?_cons_succ] at s0 s1 t0 t1
    have p0 := wof_cell a0; have p1 := wof_cell a1; have p2 := wof_cell c0; have p3 := wof_cell c1; have p4 := wof_cell s0; have p5 := wof_cell s1; have p6 := wof_cell t0; have p7 := wof_cell t1
    have hBB := hB5
    have QA : Hid (∀ x : BW w5, Calls Tryd.prog 13 #[] (wof x) fun e w' => e = .returned (.bool true) ∧ Below (wof x).heap.size (wof x) w') := Lib.hid fun x => awake_any _ (HT.out.on (hBB.trans ((wof_below x).mono hBB.size))).here
    have hLT := HLT.out
    go_wp2_with fail
    refine wp_region_quiet_below (by kernel_rfl) (by kernel_rfl) ?_
    repeat (go_big_quiet_step ((first | (go_at_call 22; exact quiet_below (HMA.out _)) | (go_at_call 14; exact quiet_below (HRA.out _)) | (go_at_call 13; exact quiet_below (QA.out _)))))
    refine wpQuiet_nil ?_
    intro w7 hb7
    go_wp2_with fail
    go_ret
    exact ⟨ret_bool (by simp), hBB.trans (hb7.mono hBB.size)⟩
  · simp only [Bool.true_and] at HL
    go_enter Tryd.func8, Tryd.ntmps8
    go_wp2_with fail
    refine (HS.out _).mono ?_
    rintro e w1 ⟨rfl, hb1⟩
    have hB1 : Below w.heap.size w (w1.alloc (.cells #[.string S.cur, .int .i64 S.amt] 23)) := (hB0.trans (hb1.mono hB0.size)).alloc (hB0.trans (hb1.mono hB0.size)).size _
    have hA1 := (hA0.below hb1 hA0.lt).alloc (.cells #[.string S.cur, .int .i64 S.amt] 23)
    have hC1 := (hC0.below hb1 hC0.lt).alloc (.cells #[.string S.cur, .int .i64 S.amt] 23)
    have hS1 : Blk (w1.alloc (.cells #[.string S.cur, .int .i64 S.amt] 23)) w1.heap.size 23 #[.string S.cur, .int .i64 S.amt] := Blk.new _ _ _
    clear a0 a1 c0 c1 hA0 hC0 hB0 hb1
    have a0 := hA1.cell 0; have a1 := hA1.cell 1; have c0 := hC1.cell 0; have c1 := hC1.cell 1
    simp only [List.getElem?_toArray, List.getElem?_cons_zero, List.getElem?_cons_succ] at a0 a1 c0 c1
    go_wp2_with fail
    refine (HR.out _).mono ?_
    rintro e w2 ⟨rfl, hb2⟩
    have hB2' := hB1.trans (hb2.mono hB1.size)
    have hB2 : Below w.heap.size w (w2.alloc (.cells #[.string S.cur, .int .i64 S.amt] 23)) := hB2'.alloc hB2'.size _
    have hA2 := (hA1.below hb2 hA1.lt).alloc (.cells #[.string S.cur, .int .i64 S.amt] 23)
    have hC2 := (hC1.below hb2 hC1.lt).alloc (.cells #[.string S.cur, .int .i64 S.amt] 23)
    have hS2 := (hS1.below hb2 hS1.lt).alloc (.cells #[.string S.cur, .int .i64 S.amt] 23)
    have hT2 : Blk (w2.alloc (.cells #[.string S.cur, .int .i64 S.amt] 23)) w2.heap.size 23 #[.string S.cur, .int .i64 S.amt] := Blk.new _ _ _
    clear a0 a1 c0 c1 hA1 hC1 hB1 hb2 hB2' hS1
    have a0 := hA2.cell 0; have a1 := hA2.cell 1; have c0 := hC2.cell 0; have c1 := hC2.cell 1
    simp only [List.getElem?_toArray, List.getElem?_cons_zero, List.getElem?_cons_succ] at a0 a1 c0 c1
    go_wp2_with fail
    refine (HL.out _).mono ?_
    rintro e w3 ⟨rfl, hb3⟩
    have hT3 := hT2.below hb3 hT2.lt
    clear hT2
    have hB3 := hB2.trans (hb3.mono hB2.size)
    have hA3 := hA2.below hb3 hA2.lt
    have hC3 := hC2.below hb3 hC2.lt
    have hS3 := hS2.below hb3 hS2.lt
    clear a0 a1 c0 c1 hB2 hA2 hC2 hb3 hS2
    have a0 := hA3.cell 0; have a1 := hA3.cell 1; have c0 := hC3.cell 0; have c1 := hC3.cell 1
    simp only [List.getElem?_toArray, List.getElem?_cons_zero, List.getElem?_cons_succ] at a0 a1 c0 c1
    go_wp2_with fail
    refine (HRA.out _).mono ?_
    rintro e w4 ⟨rfl, hb4⟩
    have hT4 := hT3.below hb4 hT3.lt
    have hB4 := hB3.trans (hb4.mono hB3.size)
    have hA4 := hA3.below hb4 hA3.lt
    have hC4 := hC3.below hb4 hC3.lt
    have hS4 := hS3.below hb4 hS3.lt
    clear a0 a1 c0 c1 hB3 hA3 hC3 hb4 hS3
    have a0 := hA4.cell 0; have a1 := hA4.cell 1; have c0 := hC4.cell 0; have c1 := hC4.cell 1
    simp only [List.getElem?_toArray, List.getElem?_cons_zero, List.getElem?_cons_succ] at a0 a1 c0 c1
    go_wp2_with fail
    refine (HRB.out _).mono ?_
    rintro e w5 ⟨rfl, hb5⟩
    have hT5 := hT4.below hb5 hT4.lt
    have hB5 := hB4.trans (hb5.mono hB4.size)
    have hA5 := hA4.below hb5 hA4.lt
    have hC5 := hC4.below hb5 hC4.lt
    have hS5 := hS4.below hb5 hS4.lt
    clear a0 a1 c0 c1 hB4 hA4 hC4 hb5 hS4
    have a0 := hA5.cell 0; have a1 := hA5.cell 1; have c0 := hC5.cell 0; have c1 := hC5.cell 1
    simp only [List.getElem?_toArray, List.getElem?_cons_zero, List.getElem?_cons_succ] at a0 a1 c0 c1
    have s0 := hS5.cell 0; have s1 := hS5.cell 1; have t0 := hT5.cell 0; have t1 := hT5.cell 1
    simp only [List.getElem?_toArray, List.getElem?_cons_zero, List.getElem?_cons_succ] at s0 s1 t0 t1
    have p0 := wof_cell a0; have p1 := wof_cell a1; have p2 := wof_cell c0; have p3 := wof_cell c1; have p4 := wof_cell s0; have p5 := wof_cell s1; have p6 := wof_cell t0; have p7 := wof_cell t1
    have hBB := hB5
    have QA : Hid (∀ x : BW w5, Calls Tryd.prog 13 #[] (wof x) fun e w' => e = .returned (.bool true) ∧ Below (wof x).heap.size (wof x) w') := Lib.hid fun x => awake_any _ (HT.out.on (hBB.trans ((wof_below x).mono hBB.size))).here
    have hLT := HLT.out
    go_wp2_with fail
    refine wp_region_quiet_below (by kernel_rfl) (by kernel_rfl) ?_
    repeat (go_big_quiet_step ((first | (go_at_call 22; exact quiet_below (HMA.out _)) | (go_at_call 14; exact quiet_below (HRA.out _)) | (go_at_call 13; exact quiet_below (QA.out _)))))
    refine wpQuiet_nil ?_
    intro w7 hb7
    go_wp2_with fail
    go_ret
    exact ⟨ret_bool (by simp), hBB.trans (hb7.mono hBB.size)⟩
end Go.Proofs.YtmmcngdpfikdiaaDoor
