/- MoneyCompares: the law. Condition: the table of powers of ten. -/
import Derived.Test.YtmmcngdpfikdiaaDoorMyW
import Derived.Test.YtmmcngdpfikdiaaDoorMyRCmp
import Derived.Test.YtmmcngdpfikdiaaDoorMyRed
namespace Go.Proofs.YtmmcngdpfikdiaaDoor
open Go.RowKit Go.Proofs.YtmmcngdpfikdiaaDoor.kit Go.PlainAid
set_option linter.unusedVariables false

set_option maxRecDepth 100000 in
set_option maxHeartbeats 3200000 in
theorem moneyCompares_walk (a b c d : Int) (w : World) (ha : I64 a) (hb : I64 b) (hc : I64 c) (hd : I64 d) (ht : PowTab w) :
    Calls Tryd.prog 10 #[(.agg #[.int .i64 a, .int .i64 b]), (.agg #[.int .i64 c, .int .i64 d])] w fun e w' => e = .returned (.bool true) ∧ Below w.heap.size w w' := by
  have HT := Lib.hid (Lib.tabBelow_of_tabIs ht)
  have HX := Lib.hid (fun w => cmp_any a b c d w ha hb hc hd)
  have HR := Lib.hid (fun w => rcmp_any a b c d w ha hb hc hd)
  have HV := Lib.hid (fun w => cmp_any c d a b w hc hd ha hb)
  have HD := Lib.hid (fun w => red_any a b w ha hb)
  have HE := Lib.hid (fun w => rred_any a b w ha hb)
  have hrc := red_cmp (n := a) (d := b) (n' := c) (d' := d)
  have hb1 : I64 (redV a b).1.1 ∧ I64 (redV a b).1.2 := by
    unfold I64 at ha hb
    unfold redV I64
    by_cases h : ratB a b = true
    · rw [if_pos h]
      have hnd : 0 ≤ a ∧ 1 ≤ b := by unfold ratB at h; simpa using h
      have h1 := Nat.div_le_self a.toNat (Nat.gcd a.toNat b.toNat)
      have h2 := Nat.div_le_self b.toNat (Nat.gcd a.toNat b.toNat)
      generalize a.toNat / Nat.gcd a.toNat b.toNat = X at *
      generalize b.toNat / Nat.gcd a.toNat b.toNat = Y at *
      show (_ ≤ (X : Int) ∧ (X : Int) ≤ _) ∧ (_ ≤ (Y : Int) ∧ (Y : Int) ≤ _)
      omega
    · rw [if_neg h]; simp
  rw [cmpV_rev a b c d] at HV
  have t1 : cmpV a b c d = -1 ∨ cmpV a b c d = 0 ∨ cmpV a b c d = 1 := by
    show cmpN _ _ _ _ = -1 ∨ cmpN _ _ _ _ = 0 ∨ cmpN _ _ _ _ = 1
    unfold cmpN
    split
    · omega
    · split <;> omega
  obtain ⟨⟨⟨x, y⟩, ok⟩, hv⟩ : ∃ v, redV a b = v := ⟨_, rfl⟩
  rw [hv] at HD HE hrc hb1
  obtain ⟨V, hV⟩ : ∃ V, cmpV a b c d = V := ⟨_, rfl⟩
  rw [hV] at HX HR HV t1 hrc
  simp only [] at HD HE hrc hb1
  have HL := Lib.hid (fun w => cmp_any x y c d w hb1.1 hb1.2 hc hd)
  have hA0 : Blk ((w.alloc (.cells #[.int .i64 a, .int .i64 b] 25)).alloc (.cells #[.int .i64 c, .int .i64 d] 25)) w.heap.size 25 #[.int .i64 a, .int .i64 b] := Blk.more (Blk.new _ _ _) _
  have hC0 : Blk ((w.alloc (.cells #[.int .i64 a, .int .i64 b] 25)).alloc (.cells #[.int .i64 c, .int .i64 d] 25)) (w.heap.size + 1) 25 #[.int .i64 c, .int .i64 d] := Blk.newAt _ _ (by simp only [size_alloc])
  have hB0 : Below w.heap.size w ((w.alloc (.cells #[.int .i64 a, .int .i64 b] 25)).alloc (.cells #[.int .i64 c, .int .i64 d] 25)) := by
    refine Below.alloc (Below.alloc (Below.refl _ _) ?_ _) ?_ _
    all_goals (try simp only [size_alloc]); omega
  have q1 := eqRat
  have q2 := eqRatGuard
  have a0 := (hA0).cell 0; have a1 := (hA0).cell 1
  simp only [List.getElem?_toArray, List.getElem?_cons_zero, List.getElem?_cons_succ] at a0 a1
  have c0 := (hC0).cell 0; have c1 := (hC0).cell 1
  simp only [List.getElem?_toArray, List.getElem?_cons_zero, List.getElem?_cons_succ] at c0 c1
  clear hv hV hb1 ht ha hb hc hd
  cases ok
  · clear hrc HL
    rcases t1 with rfl | rfl | rfl
    all_goals
      go_enter Tryd.func10, Tryd.ntmps10
      go_wp2_with fail
      refine (HX.out _).mono ?_
      rintro e1 w1 ⟨rfl, hb1⟩
      have hB1 := hB0.trans (hb1.mono hB0.size)
      have hA1 := hA0.below hb1 hA0.lt
      have hC1 := hC0.below hb1 hC0.lt
      clear a0 a1 c0 c1 hA0 hC0 hB0 hb1
      have a0 := (hA1).cell 0; have a1 := (hA1).cell 1
      simp only [List.getElem?_toArray, List.getElem?_cons_zero, List.getElem?_cons_succ] at a0 a1
      have c0 := (hC1).cell 0; have c1 := (hC1).cell 1
      simp only [List.getElem?_toArray, List.getElem?_cons_zero, List.getElem?_cons_succ] at c0 c1
      go_wp2_with fail
      refine (HR.out _).mono ?_
      rintro e1 w2 ⟨rfl, hb2⟩
      have hB2 := hB1.trans (hb2.mono hB1.size)
      have hA2 := hA1.below hb2 hA1.lt
      have hC2 := hC1.below hb2 hC1.lt
      clear a0 a1 c0 c1 hA1 hC1 hB1 hb2
      have a0 := (hA2).cell 0; have a1 := (hA2).cell 1
      simp only [List.getElem?_toArray, List.getElem?_cons_zero, List.getElem?_cons_succ] at a0 a1
      have c0 := (hC2).cell 0; have c1 := (hC2).cell 1
      simp only [List.getElem?_toArray, List.getElem?_cons_zero, List.getElem?_cons_succ] at c0 c1
      go_wp2_with fail
      refine (HV.out _).mono ?_
      rintro e1 w3 ⟨rfl, hb3⟩
      have hB3 := hB2.trans (hb3.mono hB2.size)
      have hA3 := hA2.below hb3 hA2.lt
      have hC3 := hC2.below hb3 hC2.lt
      clear a0 a1 c0 c1 hA2 hC2 hB2 hb3
      have a0 := (hA3).cell 0; have a1 := (hA3).cell 1
      simp only [List.getElem?_toArray, List.getElem?_cons_zero, List.getElem?_cons_succ] at a0 a1
      have c0 := (hC3).cell 0; have c1 := (hC3).cell 1
      simp only [List.getElem?_toArray, List.getElem?_cons_zero, List.getElem?_cons_succ] at c0 c1
      go_wp2_with fail
      refine (HD.out _).mono ?_
      rintro e1 w4 ⟨rfl, hb4⟩
      have hBx := hB3.trans (hb4.mono hB3.size)
      have hB4 : Below w.heap.size w (w4.alloc (.cells #[.int .i64 x, .int .i64 y] 25)) := hBx.alloc hBx.size _
      have hA4 := (hA3.below hb4 hA3.lt).alloc (.cells #[.int .i64 x, .int .i64 y] 25)
      have hC4 := (hC3.below hb4 hC3.lt).alloc (.cells #[.int .i64 x, .int .i64 y] 25)
      clear a0 a1 c0 c1 hA3 hC3 hB3 hBx
      have a0 := (hA4).cell 0; have a1 := (hA4).cell 1
      simp only [List.getElem?_toArray, List.getElem?_cons_zero, List.getElem?_cons_succ] at a0 a1
      have c0 := (hC4).cell 0; have c1 := (hC4).cell 1
      simp only [List.getElem?_toArray, List.getElem?_cons_zero, List.getElem?_cons_succ] at c0 c1
      have hM4 : Blk (w4.alloc (.cells #[.int .i64 x, .int .i64 y] 25)) w4.heap.size 25 #[.int .i64 x, .int .i64 y] := Blk.new _ _ _
      go_wp2_with fail
      refine (HE.out _).mono ?_
      rintro e1 w5 ⟨rfl, hb5⟩
      have hBx := hB4.trans (hb5.mono hB4.size)
      have hB5 : Below w.heap.size w (w5.alloc (.cells #[.int .i64 x, .int .i64 y] 25)) := hBx.alloc hBx.size _
      have hA5 := (hA4.below hb5 hA4.lt).alloc (.cells #[.int .i64 x, .int .i64 y] 25)
      have hC5 := (hC4.below hb5 hC4.lt).alloc (.cells #[.int .i64 x, .int .i64 y] 25)
      clear a0 a1 c0 c1 hA4 hC4 hB4 hBx
      have a0 := (hA5).cell 0; have a1 := (hA5).cell 1
      simp only [List.getElem?_toArray, List.getElem?_cons_zero, List.getElem?_cons_succ] at a0 a1
      have c0 := (hC5).cell 0; have c1 := (hC5).cell 1
      simp only [List.getElem?_toArray, List.getElem?_cons_zero, List.getElem?_cons_succ] at c0 c1
      have hM5 := (hM4.below hb5 hM4.lt).alloc (.cells #[.int .i64 x, .int .i64 y] 25)
      have hN5 : Blk (w5.alloc (.cells #[.int .i64 x, .int .i64 y] 25)) w5.heap.size 25 #[.int .i64 x, .int .i64 y] := Blk.new _ _ _
      have m0 := (hM5).cell 0; have m1 := (hM5).cell 1
      simp only [List.getElem?_toArray, List.getElem?_cons_zero, List.getElem?_cons_succ] at m0 m1
      have n0 := (hN5).cell 0; have n1 := (hN5).cell 1
      simp only [List.getElem?_toArray, List.getElem?_cons_zero, List.getElem?_cons_succ] at n0 n1
      have q3 : (x == x && y == y) = true := by simp
      go_wp2_with fail
      refine (awake_any _ (HT.out.on hB5).here).mono ?_
      rintro e1 w6 ⟨rfl, hb6⟩
      have hB6 := hB5.trans (hb6.mono hB5.size)
      go_wp2_with fail
      go_ret
      exact ⟨ret_bool (by simp), hB6⟩
  · have hrc2 := hrc rfl
    rw [hrc2] at HL
    clear hrc hrc2
    rcases t1 with rfl | rfl | rfl
    all_goals
      go_enter Tryd.func10, Tryd.ntmps10
      go_wp2_with fail
      refine (HX.out _).mono ?_
      rintro e1 w1 ⟨rfl, hb1⟩
      have hB1 := hB0.trans (hb1.mono hB0.size)
      have hA1 := hA0.below hb1 hA0.lt
      have hC1 := hC0.below hb1 hC0.lt
      clear a0 a1 c0 c1 hA0 hC0 hB0 hb1
      have a0 := (hA1).cell 0; have a1 := (hA1).cell 1
      simp only [List.getElem?_toArray, List.getElem?_cons_zero, List.getElem?_cons_succ] at a0 a1
      have c0 := (hC1).cell 0; have c1 := (hC1).cell 1
      simp only [List.getElem?_toArray, List.getElem?_cons_zero, List.getElem?_cons_succ] at c0 c1
      go_wp2_with fail
      refine (HR.out _).mono ?_
      rintro e1 w2 ⟨rfl, hb2⟩
      have hB2 := hB1.trans (hb2.mono hB1.size)
      have hA2 := hA1.below hb2 hA1.lt
      have hC2 := hC1.below hb2 hC1.lt
      clear a0 a1 c0 c1 hA1 hC1 hB1 hb2
      have a0 := (hA2).cell 0; have a1 := (hA2).cell 1
      simp only [List.getElem?_toArray, List.getElem?_cons_zero, List.getElem?_cons_succ] at a0 a1
      have c0 := (hC2).cell 0; have c1 := (hC2).cell 1
      simp only [List.getElem?_toArray, List.getElem?_cons_zero, List.getElem?_cons_succ] at c0 c1
      go_wp2_with fail
      refine (HV.out _).mono ?_
      rintro e1 w3 ⟨rfl, hb3⟩
      have hB3 := hB2.trans (hb3.mono hB2.size)
      have hA3 := hA2.below hb3 hA2.lt
      have hC3 := hC2.below hb3 hC2.lt
      clear a0 a1 c0 c1 hA2 hC2 hB2 hb3
      have a0 := (hA3).cell 0; have a1 := (hA3).cell 1
      simp only [List.getElem?_toArray, List.getElem?_cons_zero, List.getElem?_cons_succ] at a0 a1
      have c0 := (hC3).cell 0; have c1 := (hC3).cell 1
      simp only [List.getElem?_toArray, List.getElem?_cons_zero, List.getElem?_cons_succ] at c0 c1
      go_wp2_with fail
      refine (HD.out _).mono ?_
      rintro e1 w4 ⟨rfl, hb4⟩
      have hBx := hB3.trans (hb4.mono hB3.size)
      have hB4 : Below w.heap.size w (w4.alloc (.cells #[.int .i64 x, .int .i64 y] 25)) := hBx.alloc hBx.size _
      have hA4 := (hA3.below hb4 hA3.lt).alloc (.cells #[.int .i64 x, .int .i64 y] 25)
      have hC4 := (hC3.below hb4 hC3.lt).alloc (.cells #[.int .i64 x, .int .i64 y] 25)
      clear a0 a1 c0 c1 hA3 hC3 hB3 hBx
      have a0 := (hA4).cell 0; have a1 := (hA4).cell 1
      simp only [List.getElem?_toArray, List.getElem?_cons_zero, List.getElem?_cons_succ] at a0 a1
      have c0 := (hC4).cell 0; have c1 := (hC4).cell 1
      simp only [List.getElem?_toArray, List.getElem?_cons_zero, List.getElem?_cons_succ] at c0 c1
      have hM4 : Blk (w4.alloc (.cells #[.int .i64 x, .int .i64 y] 25)) w4.heap.size 25 #[.int .i64 x, .int .i64 y] := Blk.new _ _ _
      go_wp2_with fail
      refine (HE.out _).mono ?_
      rintro e1 w5 ⟨rfl, hb5⟩
      have hBx := hB4.trans (hb5.mono hB4.size)
      have hB5 : Below w.heap.size w (w5.alloc (.cells #[.int .i64 x, .int .i64 y] 25)) := hBx.alloc hBx.size _
      have hA5 := (hA4.below hb5 hA4.lt).alloc (.cells #[.int .i64 x, .int .i64 y] 25)
      have hC5 := (hC4.below hb5 hC4.lt).alloc (.cells #[.int .i64 x, .int .i64 y] 25)
      clear a0 a1 c0 c1 hA4 hC4 hB4 hBx
      have a0 := (hA5).cell 0; have a1 := (hA5).cell 1
      simp only [List.getElem?_toArray, List.getElem?_cons_zero, List.getElem?_cons_succ] at a0 a1
      have c0 := (hC5).cell 0; have c1 := (hC5).cell 1
      simp only [List.getElem?_toArray, List.getElem?_cons_zero, List.getElem?_cons_succ] at c0 c1
      have hM5 := (hM4.below hb5 hM4.lt).alloc (.cells #[.int .i64 x, .int .i64 y] 25)
      have hN5 : Blk (w5.alloc (.cells #[.int .i64 x, .int .i64 y] 25)) w5.heap.size 25 #[.int .i64 x, .int .i64 y] := Blk.new _ _ _
      have m0 := (hM5).cell 0; have m1 := (hM5).cell 1
      simp only [List.getElem?_toArray, List.getElem?_cons_zero, List.getElem?_cons_succ] at m0 m1
      have n0 := (hN5).cell 0; have n1 := (hN5).cell 1
      simp only [List.getElem?_toArray, List.getElem?_cons_zero, List.getElem?_cons_succ] at n0 n1
      have q3 : (x == x && y == y) = true := by simp
      go_wp2_with fail
      refine (HL.out _).mono ?_
      rintro e1 w6 ⟨rfl, hb6⟩
      have hB6 := hB5.trans (hb6.mono hB5.size)
      go_wp2_with fail
      refine (awake_any _ (HT.out.on hB6).here).mono ?_
      rintro e1 w7 ⟨rfl, hb7⟩
      have hB7 := hB6.trans (hb7.mono hB6.size)
      go_wp2_with fail
      go_ret
      exact ⟨ret_bool (by simp), hB7⟩
end Go.Proofs.YtmmcngdpfikdiaaDoor
