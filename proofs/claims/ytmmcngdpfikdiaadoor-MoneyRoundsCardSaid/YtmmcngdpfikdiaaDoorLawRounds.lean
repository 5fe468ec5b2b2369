/- MoneyRounds: the law. Condition: the table of powers of ten. -/
import Derived.Test.YtmmcngdpfikdiaaDoorMyAll
import Derived.Test.YtmmcngdpfikdiaaDoorMyW
import Derived.Test.YtmmcngdpfikdiaaDoorMyPr
namespace Go.Proofs.YtmmcngdpfikdiaaDoor
open Go.RowKit Go.Proofs.YtmmcngdpfikdiaaDoor.kit Go.PlainAid
set_option linter.unusedVariables false

set_option maxRecDepth 100000 in
set_option maxHeartbeats 3200000 in
theorem rounds_no (L H E : Mon) (a c : Bool) (m : Mon) (n d : Int) (w : World) (hm : mayM m = true) (h0 : 0 ≤ m.amt) (ht : PowTab w)
    (v0 : scaleV m n d 0 = (L, a)) (v1 : scaleV m n d 1 = (H, false)) (v2 : scaleV m n d 2 = (E, c)) (hn : I64 n) (hd : I64 d)
    (hh : (a = false ∧ c = false) ∨ (a = true ∧ L.amt = 1099511627776 ∧ c = false) ∨ (a = true ∧ L.amt = 1099511627776 ∧ c = true ∧ E = L)) :
    Calls Tryd.prog 4 #[.agg #[.string m.cur, .int .i64 m.amt], .agg #[.int .i64 n, .int .i64 d]] w fun e w' => e = .returned (.bool true) ∧ Below w.heap.size w w' := by
  have HT := Lib.hid (Lib.tabBelow_of_tabIs ht)
  have hc3 := cur_size (may_iff.1 hm).1
  have hcz : m.cur.size ≤ maxLen := by unfold maxLen; omega
  have HM := Lib.hid (fun w => rmay_any m w hcz)
  rw [hm] at HM
  have S0 := Lib.hid (fun w => scale_any m n d 0 w hcz hn hd)
  have S1 := Lib.hid (fun w => scale_any m n d 1 w hcz hn hd)
  have S2 := Lib.hid (fun w => scale_any m n d 2 w hcz hn hd)
  rw [v0] at S0
  rw [v1] at S1
  rw [v2] at S2
  simp only [] at S0 S1 S2
  have g0 : decide (m.amt < 0) = false := decide_eq_false (by omega)
  have hA0 : Blk ((w.alloc (.cells #[.string m.cur, .int .i64 m.amt] 23)).alloc (.cells #[.int .i64 n, .int .i64 d] 25)) w.heap.size 23 #[.string m.cur, .int .i64 m.amt] := Blk.more (Blk.new _ _ _) _
  have hC0 : Blk ((w.alloc (.cells #[.string m.cur, .int .i64 m.amt] 23)).alloc (.cells #[.int .i64 n, .int .i64 d] 25)) (w.heap.size + 1) 25 #[.int .i64 n, .int .i64 d] := Blk.newAt _ _ (by simp only [size_alloc])
  have hB0 : Below w.heap.size w ((w.alloc (.cells #[.string m.cur, .int .i64 m.amt] 23)).alloc (.cells #[.int .i64 n, .int .i64 d] 25)) := by
    refine Below.alloc (Below.alloc (Below.refl _ _) ?_ _) ?_ _
    all_goals (try simp only [size_alloc]); omega
  have q1 := eqMon
  have q2 := eqMonGuard
  have HH := Lib.hid hh
  clear v0 v1 v2 ht hm hcz h0 hh hn hd hc3
  have a0 := hA0.cell 0; have a1 := hA0.cell 1; have c0 := hC0.cell 0; have c1 := hC0.cell 1
  simp only [List.getElem?_toArray, List.getElem?_cons_zero, List.getElem?_cons_succ] at a0 a1 c0 c1
  go_enter Tryd.func4, Tryd.ntmps4
  go_wp2_with fail
  refine (HM.out _).mono ?_
  rintro e1 w1 ⟨rfl, hb1⟩
  have hB1 := hB0.trans (hb1.mono hB0.size)
  have hA1 := hA0.below hb1 hA0.lt
  have hC1 := hC0.below hb1 hC0.lt
  clear a0 a1 c0 c1 hA0 hC0 hB0 hb1
  have a0 := hA1.cell 0; have a1 := hA1.cell 1; have c0 := hC1.cell 0; have c1 := hC1.cell 1
  simp only [List.getElem?_toArray, List.getElem?_cons_zero, List.getElem?_cons_succ] at a0 a1 c0 c1
  go_wp2_with fail
  refine (S0.out _).mono ?_
  rintro e1 w2 ⟨rfl, hb2⟩
  have hBx := hB1.trans (hb2.mono hB1.size)
  have hB2 : Below w.heap.size w (w2.alloc (.cells #[.string L.cur, .int .i64 L.amt] 23)) := hBx.alloc hBx.size _
  have hA2 := (hA1.below hb2 hA1.lt).alloc (.cells #[.string L.cur, .int .i64 L.amt] 23)
  have hC2 := (hC1.below hb2 hC1.lt).alloc (.cells #[.string L.cur, .int .i64 L.amt] 23)
  clear a0 a1 c0 c1 hA1 hC1 hBx hB1
  have a0 := hA2.cell 0; have a1 := hA2.cell 1; have c0 := hC2.cell 0; have c1 := hC2.cell 1
  simp only [List.getElem?_toArray, List.getElem?_cons_zero, List.getElem?_cons_succ] at a0 a1 c0 c1
  have z2 := hC2.lt
  simp only [size_alloc] at z2
  have hL2 : Blk (w2.alloc (.cells #[.string L.cur, .int .i64 L.amt] 23)) w2.heap.size 23 #[.string L.cur, .int .i64 L.amt] := Blk.new _ _ _
  go_wp2_with fail
  refine (S1.out _).mono ?_
  rintro e1 w3 ⟨rfl, hb3⟩
  have hBx := hB2.trans (hb3.mono hB2.size)
  have hB3 : Below w.heap.size w (w3.alloc (.cells #[.string H.cur, .int .i64 H.amt] 23)) := hBx.alloc hBx.size _
  have hA3 := (hA2.below hb3 hA2.lt).alloc (.cells #[.string H.cur, .int .i64 H.amt] 23)
  have hC3 := (hC2.below hb3 hC2.lt).alloc (.cells #[.string H.cur, .int .i64 H.amt] 23)
  clear a0 a1 c0 c1 hA2 hC2 hBx hB2
  have a0 := hA3.cell 0; have a1 := hA3.cell 1; have c0 := hC3.cell 0; have c1 := hC3.cell 1
  simp only [List.getElem?_toArray, List.getElem?_cons_zero, List.getElem?_cons_succ] at a0 a1 c0 c1
  have hL3 := (hL2.below hb3 hL2.lt).alloc (.cells #[.string H.cur, .int .i64 H.amt] 23)
  have z3 := hC3.lt
  simp only [size_alloc] at z3
  have hH3 : Blk (w3.alloc (.cells #[.string H.cur, .int .i64 H.amt] 23)) w3.heap.size 23 #[.string H.cur, .int .i64 H.amt] := Blk.new _ _ _
  go_wp2_with fail
  refine (S2.out _).mono ?_
  rintro e1 w4 ⟨rfl, hb4⟩
  have hBx := hB3.trans (hb4.mono hB3.size)
  have hB4 : Below w.heap.size w (w4.alloc (.cells #[.string E.cur, .int .i64 E.amt] 23)) := hBx.alloc hBx.size _
  have hA4 := (hA3.below hb4 hA3.lt).alloc (.cells #[.string E.cur, .int .i64 E.amt] 23)
  have hC4 := (hC3.below hb4 hC3.lt).alloc (.cells #[.string E.cur, .int .i64 E.amt] 23)
  clear a0 a1 c0 c1 hA3 hC3 hBx hB3
  have a0 := hA4.cell 0; have a1 := hA4.cell 1; have c0 := hC4.cell 0; have c1 := hC4.cell 1
  simp only [List.getElem?_toArray, List.getElem?_cons_zero, List.getElem?_cons_succ] at a0 a1 c0 c1
  have hL4 := (hL3.below hb4 hL3.lt).alloc (.cells #[.string E.cur, .int .i64 E.amt] 23)
  have hH4 := (hH3.below hb4 hH3.lt).alloc (.cells #[.string E.cur, .int .i64 E.amt] 23)
  have z4 := hC4.lt
  simp only [size_alloc] at z4
  have hE4 : Blk (w4.alloc (.cells #[.string E.cur, .int .i64 E.amt] 23)) w4.heap.size 23 #[.string E.cur, .int .i64 E.amt] := Blk.new _ _ _
  have l0 := hL4.cell 0; have l1 := hL4.cell 1
  simp only [List.getElem?_toArray, List.getElem?_cons_zero, List.getElem?_cons_succ] at l0 l1
  have h0 := hH4.cell 0; have h1 := hH4.cell 1
  simp only [List.getElem?_toArray, List.getElem?_cons_zero, List.getElem?_cons_succ] at h0 h1
  have n0 := hE4.cell 0; have n1 := hE4.cell 1
  simp only [List.getElem?_toArray, List.getElem?_cons_zero, List.getElem?_cons_succ] at n0 n1
  clear hL2 hL3 hH3
  rcases HH.out with ⟨rfl, rfl⟩ | ⟨rfl, hl, rfl⟩ | ⟨rfl, hl, rfl, he⟩
  · go_wp2_with fail
    refine (awake_any _ (HT.out.on hB4).here).mono ?_
    rintro e1 w5 ⟨rfl, hb5⟩
    have hB5 := hB4.trans (hb5.mono hB4.size)
    go_wp2_with fail
    go_ret
    exact ⟨ret_bool (by simp), hB5⟩
  · have e1 : (L.amt == 1099511627776) = true := by simp [hl]
    clear hl
    go_wp2_with fail
    refine (awake_any _ (HT.out.on hB4).here).mono ?_
    rintro e1 w5 ⟨rfl, hb5⟩
    have hB5 := hB4.trans (hb5.mono hB4.size)
    go_wp2_with fail
    go_ret
    exact ⟨ret_bool (by simp), hB5⟩
  · have e1 : (L.amt == 1099511627776) = true := by simp [hl]
    have e2 : (E.cur.toList == L.cur.toList && E.amt == L.amt) = true := by rw [he]; simp
    clear hl he
    go_wp2_with fail
    refine (awake_any _ (HT.out.on hB4).here).mono ?_
    rintro e1 w5 ⟨rfl, hb5⟩
    have hB5 := hB4.trans (hb5.mono hB4.size)
    go_wp2_with fail
    go_ret
    exact ⟨ret_bool (by simp), hB5⟩
set_option maxRecDepth 100000 in
set_option maxHeartbeats 3200000 in
theorem rounds_yes (cur : ByteArray) (A q h e : Nat) (n d : Int) (w : World) (hm : mayM ⟨cur, (A : Int)⟩ = true) (ht : PowTab w)
    (v0 : scaleV ⟨cur, (A : Int)⟩ n d 0 = (⟨cur, (q : Int)⟩, true)) (v1 : scaleV ⟨cur, (A : Int)⟩ n d 1 = (⟨cur, (h : Int)⟩, true)) (v2 : scaleV ⟨cur, (A : Int)⟩ n d 2 = (⟨cur, (e : Int)⟩, true))
    (v3 : scaleV ⟨cur, -(A : Int)⟩ n d 0 = (⟨cur, -(q : Int)⟩, true)) (v4 : scaleV ⟨cur, -(A : Int)⟩ n d 2 = (⟨cur, -(e : Int)⟩, true)) (hn : I64 n) (hd : I64 d)
    (hq : q ≤ 1099511627776) (hh : h = q ∨ h = q + 1) (he : e = q ∨ e = h) :
    Calls Tryd.prog 4 #[.agg #[.string cur, .int .i64 (A : Int)], .agg #[.int .i64 n, .int .i64 d]] w fun e w' => e = .returned (.bool true) ∧ Below w.heap.size w w' := by
  have HT := Lib.hid (Lib.tabBelow_of_tabIs ht)
  have hc3 := cur_size (may_iff.1 hm).1
  have hA40 := (may_iff.1 hm).2.2
  simp only [] at hc3 hA40
  have hcz : cur.size ≤ maxLen := by unfold maxLen; omega
  have HM := Lib.hid (fun w => rmay_any ⟨cur, (A : Int)⟩ w hcz)
  rw [hm] at HM
  have S0 := Lib.hid (fun w => scale_any ⟨cur, (A : Int)⟩ n d 0 w hcz hn hd)
  have S1 := Lib.hid (fun w => scale_any ⟨cur, (A : Int)⟩ n d 1 w hcz hn hd)
  have S2 := Lib.hid (fun w => scale_any ⟨cur, (A : Int)⟩ n d 2 w hcz hn hd)
  have S3 := Lib.hid (fun w => scale_any ⟨cur, -(A : Int)⟩ n d 0 w hcz hn hd)
  have S4 := Lib.hid (fun w => scale_any ⟨cur, -(A : Int)⟩ n d 2 w hcz hn hd)
  rw [v0] at S0
  rw [v1] at S1
  rw [v2] at S2
  rw [v3] at S3
  rw [v4] at S4
  simp only [] at S0 S1 S2 S3 S4 HM
  have hA0 : Blk ((w.alloc (.cells #[.string cur, .int .i64 (A : Int)] 23)).alloc (.cells #[.int .i64 n, .int .i64 d] 25)) w.heap.size 23 #[.string cur, .int .i64 (A : Int)] := Blk.more (Blk.new _ _ _) _
  have hC0 : Blk ((w.alloc (.cells #[.string cur, .int .i64 (A : Int)] 23)).alloc (.cells #[.int .i64 n, .int .i64 d] 25)) (w.heap.size + 1) 25 #[.int .i64 n, .int .i64 d] := Blk.newAt _ _ (by simp only [size_alloc])
  have hB0 : Below w.heap.size w ((w.alloc (.cells #[.string cur, .int .i64 (A : Int)] 23)).alloc (.cells #[.int .i64 n, .int .i64 d] 25)) := by
    refine Below.alloc (Below.alloc (Below.refl _ _) ?_ _) ?_ _
    all_goals (try simp only [size_alloc]); omega
  have q1 := eqMon
  have q2 := eqMonGuard
  clear v0 v1 v2 v3 v4 ht hm hcz hn hd hc3
  have a0 := hA0.cell 0; have a1 := hA0.cell 1; have c0 := hC0.cell 0; have c1 := hC0.cell 1
  simp only [List.getElem?_toArray, List.getElem?_cons_zero, List.getElem?_cons_succ] at a0 a1 c0 c1
  go_enter Tryd.func4, Tryd.ntmps4
  go_wp2_with fail
  refine (HM.out _).mono ?_
  rintro e1 w1 ⟨rfl, hb1⟩
  have hB1 := hB0.trans (hb1.mono hB0.size)
  have hA1 := hA0.below hb1 hA0.lt
  have hC1 := hC0.below hb1 hC0.lt
  clear a0 a1 c0 c1 hA0 hC0 hB0 hb1
  have a0 := hA1.cell 0; have a1 := hA1.cell 1; have c0 := hC1.cell 0; have c1 := hC1.cell 1
  simp only [List.getElem?_toArray, List.getElem?_cons_zero, List.getElem?_cons_succ] at a0 a1 c0 c1
  go_wp2_with fail
  refine (S0.out _).mono ?_
  rintro e1 w2 ⟨rfl, hb2⟩
  have hBx := hB1.trans (hb2.mono hB1.size)
  have hB2 : Below w.heap.size w (w2.alloc (.cells #[.string (Mon.mk cur (q : Int)).cur, .int .i64 (Mon.mk cur (q : Int)).amt] 23)) := hBx.alloc hBx.size _
  have hA2 := (hA1.below hb2 hA1.lt).alloc (.cells #[.string (Mon.mk cur (q : Int)).cur, .int .i64 (Mon.mk cur (q : Int)).amt] 23)
  have hC2 := (hC1.below hb2 hC1.lt).alloc (.cells #[.string (Mon.mk cur (q : Int)).cur, .int .i64 (Mon.mk cur (q : Int)).amt] 23)
  clear a0 a1 c0 c1 hA1 hC1 hBx hB1
  have a0 := hA2.cell 0; have a1 := hA2.cell 1; have c0 := hC2.cell 0; have c1 := hC2.cell 1
  simp only [List.getElem?_toArray, List.getElem?_cons_zero, List.getElem?_cons_succ] at a0 a1 c0 c1
  have z2 := hC2.lt
  simp only [size_alloc] at z2
  have hL2 : Blk (w2.alloc (.cells #[.string (Mon.mk cur (q : Int)).cur, .int .i64 (Mon.mk cur (q : Int)).amt] 23)) w2.heap.size 23 #[.string (Mon.mk cur (q : Int)).cur, .int .i64 (Mon.mk cur (q : Int)).amt] := Blk.new _ _ _
  go_wp2_with fail
  refine (S1.out _).mono ?_
  rintro e1 w3 ⟨rfl, hb3⟩
  have hBx := hB2.trans (hb3.mono hB2.size)
  have hB3 : Below w.heap.size w (w3.alloc (.cells #[.string (Mon.mk cur (h : Int)).cur, .int .i64 (Mon.mk cur (h : Int)).amt] 23)) := hBx.alloc hBx.size _
  have hA3 := (hA2.below hb3 hA2.lt).alloc (.cells #[.string (Mon.mk cur (h : Int)).cur, .int .i64 (Mon.mk cur (h : Int)).amt] 23)
  have hC3 := (hC2.below hb3 hC2.lt).alloc (.cells #[.string (Mon.mk cur (h : Int)).cur, .int .i64 (Mon.mk cur (h : Int)).amt] 23)
  clear a0 a1 c0 c1 hA2 hC2 hBx hB2
  have a0 := hA3.cell 0; have a1 := hA3.cell 1; have c0 := hC3.cell 0; have c1 := hC3.cell 1
  simp only [List.getElem?_toArray, List.getElem?_cons_zero, List.getElem?_cons_succ] at a0 a1 c0 c1
  have hL3 := (hL2.below hb3 hL2.lt).alloc (.cells #[.string (Mon.mk cur (h : Int)).cur, .int .i64 (Mon.mk cur (h : Int)).amt] 23)
  have z3 := hC3.lt
  simp only [size_alloc] at z3
  have hH3 : Blk (w3.alloc (.cells #[.string (Mon.mk cur (h : Int)).cur, .int .i64 (Mon.mk cur (h : Int)).amt] 23)) w3.heap.size 23 #[.string (Mon.mk cur (h : Int)).cur, .int .i64 (Mon.mk cur (h : Int)).amt] := Blk.new _ _ _
  go_wp2_with fail
  refine (S2.out _).mono ?_
  rintro e1 w4 ⟨rfl, hb4⟩
  have hBx := hB3.trans (hb4.mono hB3.size)
  have hB4 : Below w.heap.size w (w4.alloc (.cells #[.string (Mon.mk cur (e : Int)).cur, .int .i64 (Mon.mk cur (e : Int)).amt] 23)) := hBx.alloc hBx.size _
  have hA4 := (hA3.below hb4 hA3.lt).alloc (.cells #[.string (Mon.mk cur (e : Int)).cur, .int .i64 (Mon.mk cur (e : Int)).amt] 23)
  have hC4 := (hC3.below hb4 hC3.lt).alloc (.cells #[.string (Mon.mk cur (e : Int)).cur, .int .i64 (Mon.mk cur (e : Int)).amt] 23)
  clear a0 a1 c0 c1 hA3 hC3 hBx hB3
  have a0 := hA4.cell 0; have a1 := hA4.cell 1; have c0 := hC4.cell 0; have c1 := hC4.cell 1
  simp only [List.getElem?_toArray, List.getElem?_cons_zero, List.getElem?_cons_succ] at a0 a1 c0 c1
  have hL4 := (hL3.below hb4 hL3.lt).alloc (.cells #[.string (Mon.mk cur (e : Int)).cur, .int .i64 (Mon.mk cur (e : Int)).amt] 23)
  have hH4 := (hH3.below hb4 hH3.lt).alloc (.cells #[.string (Mon.mk cur (e : Int)).cur, .int .i64 (Mon.mk cur (e : Int)).amt] 23)
  have z4 := hC4.lt
  simp only [size_alloc] at z4
  have hE4 : Blk (w4.alloc (.cells #[.string (Mon.mk cur (e : Int)).cur, .int .i64 (Mon.mk cur (e : Int)).amt] 23)) w4.heap.size 23 #[.string (Mon.mk cur (e : Int)).cur, .int .i64 (Mon.mk cur (e : Int)).amt] := Blk.new _ _ _
  have l0 := hL4.cell 0; have l1 := hL4.cell 1
  simp only [List.getElem?_toArray, List.getElem?_cons_zero, List.getElem?_cons_succ] at l0 l1
  have h0 := hH4.cell 0; have h1 := hH4.cell 1
  simp only [List.getElem?_toArray, List.getElem?_cons_zero, List.getElem?_cons_succ] at h0 h1
  have n0 := hE4.cell 0; have n1 := hE4.cell 1
  simp only [List.getElem?_toArray, List.getElem?_cons_zero, List.getElem?_cons_succ] at n0 n1
  clear hL2 hL3 hH3
  have d1 : decide ((h : Int) < (q : Int)) = false := decide_eq_false (by omega)
  have d2 : decide ((q : Int) < (h : Int) - 1) = false := decide_eq_false (by omega)
  have d1n : decide (h < q) = false := decide_eq_false (by omega)
  have hu : e ≤ 1099511627777 := by omega
  have u3 : wrap64 ((h : Int) - 1) = (h : Int) - 1 := w64_id ⟨by omega, by omega⟩
  have u1 : wrap64 (-(q : Int)) = -(q : Int) := w64_id ⟨by omega, by omega⟩
  have u2 : wrap64 (-(e : Int)) = -(e : Int) := w64_id ⟨by omega, by omega⟩
  by_cases hep : e = q
  · have m1 : ((e : Int) == (q : Int)) = true := by simp; omega
    have m2 : (e == q) = true := by simp; omega
    clear he hep hh
    have fz := hA4.frozen 1
    go_wp2_with fail
    generalize hW4 : w4.alloc (.cells #[.string cur, .int .i64 (e : Int)] 23) = W4 at *
    have hB5 : Below w.heap.size w (W4.setCell ⟨w.heap.size, 1, none⟩ (.int .i64 (-(A : Int)))) := hB4.setCell (Nat.le_refl _) _
    have hA5 : Blk (W4.setCell ⟨w.heap.size, 1, none⟩ (.int .i64 (-(A : Int)))) w.heap.size 23 #[.string cur, .int .i64 (-(A : Int))] := hA4.set_ 1 _
    have hC5 := hC4.far (p := ⟨w.heap.size, 1, none⟩) (by show _ ≠ w.heap.size; omega) (.int .i64 (-(A : Int)))
    have hL5 := hL4.far (p := ⟨w.heap.size, 1, none⟩) (by show _ ≠ w.heap.size; omega) (.int .i64 (-(A : Int)))
    have hE5 := hE4.far (p := ⟨w.heap.size, 1, none⟩) (by show _ ≠ w.heap.size; omega) (.int .i64 (-(A : Int)))
    generalize W4.setCell ⟨w.heap.size, 1, none⟩ (.int .i64 (-(A : Int))) = W5 at *
    clear a0 a1 c0 c1 l0 l1 h0 h1 n0 n1 hA4 hC4 hL4 hH4 hE4 hB4
    refine (S3.out _).mono ?_
    rintro e1 w6 ⟨rfl, hb6⟩
    have hBx := hB5.trans (hb6.mono hB5.size)
    have hB6 : Below w.heap.size w (w6.alloc (.cells #[.string cur, .int .i64 (-(q : Int))] 23)) := hBx.alloc hBx.size _
    have hA6 := (hA5.below hb6 hA5.lt).alloc (.cells #[.string cur, .int .i64 (-(q : Int))] 23)
    have hC6 := (hC5.below hb6 hC5.lt).alloc (.cells #[.string cur, .int .i64 (-(q : Int))] 23)
    have hL6 := (hL5.below hb6 hL5.lt).alloc (.cells #[.string cur, .int .i64 (-(q : Int))] 23)
    have hE6 := (hE5.below hb6 hE5.lt).alloc (.cells #[.string cur, .int .i64 (-(q : Int))] 23)
    have hX6 : Blk (w6.alloc (.cells #[.string cur, .int .i64 (-(q : Int))] 23)) w6.heap.size 23 #[.string cur, .int .i64 (-(q : Int))] := Blk.new _ _ _
    clear hA5 hC5 hL5 hE5 hB5 hBx
    have a0 := hA6.cell 0; have a1 := hA6.cell 1; have c0 := hC6.cell 0; have c1 := hC6.cell 1
    simp only [List.getElem?_toArray, List.getElem?_cons_zero, List.getElem?_cons_succ] at a0 a1 c0 c1
    go_wp2_with fail
    refine (S4.out _).mono ?_
    rintro e1 w7 ⟨rfl, hb7⟩
    have hBx := hB6.trans (hb7.mono hB6.size)
    have hB7 : Below w.heap.size w (w7.alloc (.cells #[.string cur, .int .i64 (-(e : Int))] 23)) := hBx.alloc hBx.size _
    have hL7 := (hL6.below hb7 hL6.lt).alloc (.cells #[.string cur, .int .i64 (-(e : Int))] 23)
    have hE7 := (hE6.below hb7 hE6.lt).alloc (.cells #[.string cur, .int .i64 (-(e : Int))] 23)
    have hX7 := (hX6.below hb7 hX6.lt).alloc (.cells #[.string cur, .int .i64 (-(e : Int))] 23)
    have hY7 : Blk (w7.alloc (.cells #[.string cur, .int .i64 (-(e : Int))] 23)) w7.heap.size 23 #[.string cur, .int .i64 (-(e : Int))] := Blk.new _ _ _
    clear a0 a1 c0 c1 hA6 hC6 hL6 hE6 hX6 hB6 hBx
    have l0 := hL7.cell 0; have l1 := hL7.cell 1
    simp only [List.getElem?_toArray, List.getElem?_cons_zero, List.getElem?_cons_succ] at l0 l1
    have n0 := hE7.cell 0; have n1 := hE7.cell 1
    simp only [List.getElem?_toArray, List.getElem?_cons_zero, List.getElem?_cons_succ] at n0 n1
    have x0 := hX7.cell 0; have x1 := hX7.cell 1
    simp only [List.getElem?_toArray, List.getElem?_cons_zero, List.getElem?_cons_succ] at x0 x1
    have y0 := hY7.cell 0; have y1 := hY7.cell 1
    simp only [List.getElem?_toArray, List.getElem?_cons_zero, List.getElem?_cons_succ] at y0 y1
    go_wp2_with fail
    refine (awake_any _ (HT.out.on hB7).here).mono ?_
    rintro e1 w8 ⟨rfl, hb8⟩
    have hB8 := hB7.trans (hb8.mono hB7.size)
    go_wp2_with fail
    go_ret
    exact ⟨ret_bool (by simp), hB8⟩
  · have m1 : ((e : Int) == (q : Int)) = false := by simp; omega
    have m2 : (e == q) = false := by simp; omega
    have m3 : ((e : Int) == (h : Int)) = true := by simp; omega
    have m4 : (e == h) = true := by simp; omega
    clear he hep hh
    have fz := hA4.frozen 1
    go_wp2_with fail
    generalize hW4 : w4.alloc (.cells #[.string cur, .int .i64 (e : Int)] 23) = W4 at *
    have hB5 : Below w.heap.size w (W4.setCell ⟨w.heap.size, 1, none⟩ (.int .i64 (-(A : Int)))) := hB4.setCell (Nat.le_refl _) _
    have hA5 : Blk (W4.setCell ⟨w.heap.size, 1, none⟩ (.int .i64 (-(A : Int)))) w.heap.size 23 #[.string cur, .int .i64 (-(A : Int))] := hA4.set_ 1 _
    have hC5 := hC4.far (p := ⟨w.heap.size, 1, none⟩) (by show _ ≠ w.heap.size; omega) (.int .i64 (-(A : Int)))
    have hL5 := hL4.far (p := ⟨w.heap.size, 1, none⟩) (by show _ ≠ w.heap.size; omega) (.int .i64 (-(A : Int)))
    have hE5 := hE4.far (p := ⟨w.heap.size, 1, none⟩) (by show _ ≠ w.heap.size; omega) (.int .i64 (-(A : Int)))
    generalize W4.setCell ⟨w.heap.size, 1, none⟩ (.int .i64 (-(A : Int))) = W5 at *
    clear a0 a1 c0 c1 l0 l1 h0 h1 n0 n1 hA4 hC4 hL4 hH4 hE4 hB4
    refine (S3.out _).mono ?_
    rintro e1 w6 ⟨rfl, hb6⟩
    have hBx := hB5.trans (hb6.mono hB5.size)
    have hB6 : Below w.heap.size w (w6.alloc (.cells #[.string cur, .int .i64 (-(q : Int))] 23)) := hBx.alloc hBx.size _
    have hA6 := (hA5.below hb6 hA5.lt).alloc (.cells #[.string cur, .int .i64 (-(q : Int))] 23)
    have hC6 := (hC5.below hb6 hC5.lt).alloc (.cells #[.string cur, .int .i64 (-(q : Int))] 23)
    have hL6 := (hL5.below hb6 hL5.lt).alloc (.cells #[.string cur, .int .i64 (-(q : Int))] 23)
    have hE6 := (hE5.below hb6 hE5.lt).alloc (.cells #[.string cur, .int .i64 (-(q : Int))] 23)
    have hX6 : Blk (w6.alloc (.cells #[.string cur, .int .i64 (-(q : Int))] 23)) w6.heap.size 23 #[.string cur, .int .i64 (-(q : Int))] := Blk.new _ _ _
    clear hA5 hC5 hL5 hE5 hB5 hBx
    have a0 := hA6.cell 0; have a1 := hA6.cell 1; have c0 := hC6.cell 0; have c1 := hC6.cell 1
    simp only [List.getElem?_toArray, List.getElem?_cons_zero, List.getElem?_cons_succ] at a0 a1 c0 c1
    go_wp2_with fail
    refine (S4.out _).mono ?_
    rintro e1 w7 ⟨rfl, hb7⟩
    have hBx := hB6.trans (hb7.mono hB6.size)
    have hB7 : Below w.heap.size w (w7.alloc (.cells #[.string cur, .int .i64 (-(e : Int))] 23)) := hBx.alloc hBx.size _
    have hL7 := (hL6.below hb7 hL6.lt).alloc (.cells #[.string cur, .int .i64 (-(e : Int))] 23)
    have hE7 := (hE6.below hb7 hE6.lt).alloc (.cells #[.string cur, .int .i64 (-(e : Int))] 23)
    have hX7 := (hX6.below hb7 hX6.lt).alloc (.cells #[.string cur, .int .i64 (-(e : Int))] 23)
    have hY7 : Blk (w7.alloc (.cells #[.string cur, .int .i64 (-(e : Int))] 23)) w7.heap.size 23 #[.string cur, .int .i64 (-(e : Int))] := Blk.new _ _ _
    clear a0 a1 c0 c1 hA6 hC6 hL6 hE6 hX6 hB6 hBx
    have l0 := hL7.cell 0; have l1 := hL7.cell 1
    simp only [List.getElem?_toArray, List.getElem?_cons_zero, List.getElem?_cons_succ] at l0 l1
    have n0 := hE7.cell 0; have n1 := hE7.cell 1
    simp only [List.getElem?_toArray, List.getElem?_cons_zero, List.getElem?_cons_succ] at n0 n1
    have x0 := hX7.cell 0; have x1 := hX7.cell 1
    simp only [List.getElem?_toArray, List.getElem?_cons_zero, List.getElem?_cons_succ] at x0 x1
    have y0 := hY7.cell 0; have y1 := hY7.cell 1
    simp only [List.getElem?_toArray, List.getElem?_cons_zero, List.getElem?_cons_succ] at y0 y1
    go_wp2_with fail
    refine (awake_any _ (HT.out.on hB7).here).mono ?_
    rintro e1 w8 ⟨rfl, hb8⟩
    have hB8 := hB7.trans (hb8.mono hB7.size)
    go_wp2_with fail
    go_ret
    exact ⟨ret_bool (by simp), hB8⟩
set_option maxRecDepth 100000 in
set_option maxHeartbeats 3200000 in
theorem moneyRounds_walk (m : Mon) (n d : Int) (w : World) (hc : m.cur.size ≤ maxLen) (hn : I64 n) (hd : I64 d) (ht : PowTab w) :
    Calls Tryd.prog 4 #[.agg #[.string m.cur, .int .i64 m.amt], .agg #[.int .i64 n, .int .i64 d]] w fun e w' => e = .returned (.bool true) ∧ Below w.heap.size w w' := by
  by_cases hgo : mayM m = true ∧ 0 ≤ m.amt
  · obtain ⟨cur, amt⟩ := m
    obtain ⟨h1, h2⟩ := hgo
    simp only [] at h2
    obtain ⟨A, rfl⟩ : ∃ A : Nat, amt = A := ⟨amt.toNat, by omega⟩
    by_cases hr : ratB n d = true
    rotate_left
    · have hb : ∀ way, scaleV ⟨cur, (A : Int)⟩ n d way = (noM, false) := fun way => scale_bad (by
        have : ratB n d = false := by simpa using hr
        rw [this]; simp)
      exact rounds_no noM noM noM false false _ n d w h1 h2 ht (hb 0) (hb 1) (hb 2) hn hd (.inl ⟨rfl, rfl⟩)
    have hnd : 0 ≤ n ∧ 1 ≤ d := by unfold ratB at hr; simpa using hr
    obtain ⟨N, rfl⟩ : ∃ A : Nat, n = A := ⟨n.toNat, by omega⟩
    obtain ⟨D, rfl⟩ : ∃ A : Nat, d = A := ⟨d.toNat, by omega⟩
    have hD : 1 ≤ D := by omega
    have h3 := rounds_two (A := A) (N := N) (show 0 < D by omega)
    have hm2 : mayM ⟨cur, -(A : Int)⟩ = true := by
      have := may_iff.1 h1
      refine may_iff.2 ⟨this.1, ?_⟩
      have h4 := this.2
      simp only [] at h4 ⊢
      omega
    have s0 := scale_pos (N := N) (way := 0) h1 hD (by omega)
    have s1 := scale_pos (N := N) (way := 1) h1 hD (by omega)
    have s2 := scale_pos (N := N) (way := 2) h1 hD (by omega)
    have n0 := scale_neg (A := A) (N := N) (way := 0) hm2 hD (by omega)
    have n2 := scale_neg (A := A) (N := N) (way := 2) hm2 hD (by omega)
    obtain ⟨q, hq⟩ : ∃ q, scQ 0 A N D = q := ⟨_, rfl⟩
    obtain ⟨h, hh⟩ : ∃ q, scQ 1 A N D = q := ⟨_, rfl⟩
    obtain ⟨e, he⟩ : ∃ q, scQ 2 A N D = q := ⟨_, rfl⟩
    rw [hq] at s0 n0 h3
    rw [hh] at s1 h3
    rw [he] at s2 n2 h3
    by_cases hh4 : h ≤ 1099511627776
    · rw [if_pos hh4] at s1
      rw [if_pos (by omega)] at s0 s2
      exact rounds_yes cur A q h e N D w h1 ht s0 s1 s2 (n0 (by omega)) (n2 (by omega)) hn hd (by omega) h3.1 h3.2
    · rw [if_neg hh4] at s1
      by_cases hq4 : q ≤ 1099511627776
      · have hqe : q = 1099511627776 := by omega
        rw [if_pos hq4] at s0
        by_cases he4 : e ≤ 1099511627776
        · rw [if_pos he4] at s2
          have heq : e = q := by omega
          subst heq
          exact rounds_no _ _ _ _ _ _ _ _ w h1 h2 ht s0 s1 s2 hn hd (.inr (.inr ⟨rfl, by rw [hqe]; rfl, rfl, rfl⟩))
        · rw [if_neg he4] at s2
          exact rounds_no _ _ _ _ _ _ _ _ w h1 h2 ht s0 s1 s2 hn hd (.inr (.inl ⟨rfl, by rw [hqe]; rfl, rfl⟩))
      · rw [if_neg hq4] at s0
        rw [if_neg (by omega)] at s2
        exact rounds_no _ _ _ _ _ _ _ _ w h1 h2 ht s0 s1 s2 hn hd (.inl ⟨rfl, rfl⟩)
  have HT := Lib.hid (Lib.tabBelow_of_tabIs ht)
  have HM := Lib.hid (fun w => rmay_any m w hc)
  have hA0 : Blk ((w.alloc (.cells #[.string m.cur, .int .i64 m.amt] 23)).alloc (.cells #[.int .i64 n, .int .i64 d] 25)) w.heap.size 23 #[.string m.cur, .int .i64 m.amt] := Blk.more (Blk.new _ _ _) _
  have hB0 : Below w.heap.size w ((w.alloc (.cells #[.string m.cur, .int .i64 m.amt] 23)).alloc (.cells #[.int .i64 n, .int .i64 d] 25)) := by
    refine Below.alloc (Below.alloc (Below.refl _ _) ?_ _) ?_ _
    all_goals (try simp only [size_alloc]); omega
  have a0 := hA0.cell 0; have a1 := hA0.cell 1
  simp only [List.getElem?_toArray, List.getElem?_cons_zero, List.getElem?_cons_succ] at a0 a1
  clear ht hc
  cases q0 : mayM m
  · rw [q0] at HM
    clear q0 hgo
    go_enter Tryd.func4, Tryd.ntmps4
    go_wp2_with fail
    refine (HM.out _).mono ?_
    rintro e1 w1 ⟨rfl, hb1⟩
    have hB1 := hB0.trans (hb1.mono hB0.size)
    have hA1 := hA0.below hb1 hA0.lt
    clear a0 a1 hA0 hB0 hb1
    have a0 := hA1.cell 0; have a1 := hA1.cell 1
    simp only [List.getElem?_toArray, List.getElem?_cons_zero, List.getElem?_cons_succ] at a0 a1
    go_wp2_with fail
    refine (awake_any _ (HT.out.on hB1).here).mono ?_
    rintro e1 w2 ⟨rfl, hb2⟩
    have hB2 := hB1.trans (hb2.mono hB1.size)
    go_wp2_with fail
    go_ret
    exact ⟨ret_bool (by simp), hB2⟩
  rw [q0] at HM
  have q1 : m.amt < 0 := by
    rcases Int.lt_or_le m.amt 0 with h | h
    · exact h
    · exact absurd ⟨q0, h⟩ hgo
  have d1 : decide (m.amt < 0) = true := decide_eq_true q1
  clear q0 hgo
  go_enter Tryd.func4, Tryd.ntmps4
  go_wp2_with fail
  refine (HM.out _).mono ?_
  rintro e1 w1 ⟨rfl, hb1⟩
  have hB1 := hB0.trans (hb1.mono hB0.size)
  have hA1 := hA0.below hb1 hA0.lt
  clear a0 a1 hA0 hB0 hb1
  have a0 := hA1.cell 0; have a1 := hA1.cell 1
  simp only [List.getElem?_toArray, List.getElem?_cons_zero, List.getElem?_cons_succ] at a0 a1
  go_wp2_with fail
  refine (awake_any _ (HT.out.on hB1).here).mono ?_
  rintro e1 w2 ⟨rfl, hb2⟩
  have hB2 := hB1.trans (hb2.mono hB1.size)
  go_wp2_with fail
  go_ret
  exact ⟨ret_bool (by simp), hB2⟩
end Go.Proofs.YtmmcngdpfikdiaaDoor
