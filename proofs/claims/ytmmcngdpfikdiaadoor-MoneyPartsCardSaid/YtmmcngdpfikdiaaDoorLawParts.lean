/- MoneyParts: the law. Condition: the table of powers of ten. -/
import Derived.Test.YtmmcngdpfikdiaaDoorMyAll
import Derived.Test.YtmmcngdpfikdiaaDoorMyW
import Derived.Test.YtmmcngdpfikdiaaDoorMyPl
namespace Go.Proofs.YtmmcngdpfikdiaaDoor
open Go.RowKit Go.Proofs.YtmmcngdpfikdiaaDoor.kit Go.PlainAid
set_option linter.unusedVariables false

theorem scale_nat {cur : ByteArray} {A N D : Nat} {way : Int} (hm : mayM ⟨cur, (A : Int)⟩ = true) (hD : 1 ≤ D) (hw : 0 ≤ way ∧ way ≤ 2) (h : scQ way A N D ≤ 1099511627776) : scaleV ⟨cur, (A : Int)⟩ N D way = (⟨cur, (scQ way A N D : Int)⟩, true) := by
  have hr : ratB (N : Int) (D : Int) = true := by unfold ratB; simp; omega
  unfold scaleV
  rw [if_pos (by rw [hm, hr, decide_eq_true hw]; rfl)]
  simp only [Int.natAbs_natCast, Int.toNat_natCast]
  rw [if_pos h, if_neg (by omega)]
set_option maxRecDepth 100000 in
set_option maxHeartbeats 3200000 in
theorem parts_in (cur : ByteArray) (A N D : Nat) (w : World) (hm : mayM ⟨cur, (A : Int)⟩ = true) (hN : N ≤ D) (hD : 1 ≤ D) (hD32 : D ≤ 4294967295) (ht : PowTab w) :
    Calls Tryd.prog 5 #[.agg #[.string cur, .int .i64 (A : Int)], .int .u32 (N : Int), .int .u32 (D : Int)] w fun e w' => e = .returned (.bool true) ∧ Below w.heap.size w w' := by
  have HT := Lib.hid (Lib.tabBelow_of_tabIs ht)
  have hA40 := (may_iff.1 hm).2.2
  have hc3 := cur_size (may_iff.1 hm).1
  simp only [] at hA40 hc3
  have hcz : cur.size ≤ maxLen := by unfold maxLen; omega
  obtain ⟨e, he1, h1, h2, l1, l2, l3, l4⟩ := parts_two (A := A) hN (show 0 < D by omega)
  have HM := Lib.hid (fun w => rmay_any ⟨cur, (A : Int)⟩ w hcz)
  rw [hm] at HM
  have i64 : ∀ x : Nat, x ≤ 4294967295 → I64 (x : Int) := fun x hx => by unfold I64; omega
  have S1 := Lib.hid (fun w => scale_any ⟨cur, (A : Int)⟩ N D 0 w hcz (i64 _ (by omega)) (i64 _ hD32))
  have S2 := Lib.hid (fun w => scale_any ⟨cur, (A : Int)⟩ (D - N : Nat) D 0 w hcz (i64 _ (by omega)) (i64 _ hD32))
  have S3 := Lib.hid (fun w => scale_any ⟨cur, (A : Int)⟩ N D 1 w hcz (i64 _ (by omega)) (i64 _ hD32))
  have S4 := Lib.hid (fun w => scale_any ⟨cur, (A : Int)⟩ (D - N : Nat) D 1 w hcz (i64 _ (by omega)) (i64 _ hD32))
  rw [scale_nat hm hD (by omega) (by omega)] at S1 S2 S3 S4
  obtain ⟨L1, hL1⟩ : ∃ x, scQ 0 A N D = x := ⟨_, rfl⟩
  obtain ⟨L2, hL2⟩ : ∃ x, scQ 0 A (D - N) D = x := ⟨_, rfl⟩
  obtain ⟨H1, hH1⟩ : ∃ x, scQ 1 A N D = x := ⟨_, rfl⟩
  obtain ⟨H2, hH2⟩ : ∃ x, scQ 1 A (D - N) D = x := ⟨_, rfl⟩
  rw [hL1] at S1 h1 l1
  rw [hL2] at S2 h1 l2
  rw [hH1] at S3 h2 l3
  rw [hH2] at S4 h2 l4
  obtain ⟨K, hK⟩ : ∃ K, D - N = K := ⟨_, rfl⟩
  rw [hK] at S2 S4
  have hKi : (D : Int) - (N : Int) = (K : Int) := by omega
  have hA0 : Blk (w.alloc (.cells #[.string cur, .int .i64 (A : Int)] 23)) w.heap.size 23 #[.string cur, .int .i64 (A : Int)] := Blk.new _ _ _
  have hB0 : Below w.heap.size w (w.alloc (.cells #[.string cur, .int .i64 (A : Int)] 23)) := (Below.refl _ _).alloc (Nat.le_refl _) _
  have a0 := hA0.cell 0; have a1 := hA0.cell 1
  simp only [List.getElem?_toArray, List.getElem?_cons_zero, List.getElem?_cons_succ] at a0 a1
  have HS := Lib.hid (And.intro h1 (And.intro h2 he1))
  have d1 : decide ((D : Int) < (N : Int)) = false := decide_eq_false (by omega)
  have d1n : decide (D < N) = false := decide_eq_false (by omega)
  have d2 : ((D : Int) == 0) = false := by simp; omega
  have d2n : (D == 0) = false := by simp; omega
  clear hL1 hL2 hH1 hH2 hK h1 h2 he1 hm ht hcz i64
  go_enter Tryd.func5, Tryd.ntmps5
  go_wp2_with fail
  refine (HM.out _).mono ?_
  rintro e1 w1 ⟨rfl, hb1⟩
  have hB1 := hB0.trans (hb1.mono hB0.size)
  have hA1 := hA0.below hb1 hA0.lt
  clear a0 a1 hA0 hB0 hb1
  have hB2 : Below w.heap.size w ((w1.alloc (.cells #[.int .i64 (N : Int), .int .i64 (D : Int)] 25)).alloc (.cells #[.int .i64 (K : Int), .int .i64 (D : Int)] 25)) := (hB1.alloc hB1.size _).alloc (hB1.alloc hB1.size _).size _
  have hA2 := (hA1.alloc (.cells #[.int .i64 (N : Int), .int .i64 (D : Int)] 25)).alloc (.cells #[.int .i64 (K : Int), .int .i64 (D : Int)] 25)
  have hP2 : Blk ((w1.alloc (.cells #[.int .i64 (N : Int), .int .i64 (D : Int)] 25)).alloc (.cells #[.int .i64 (K : Int), .int .i64 (D : Int)] 25)) w1.heap.size 25 #[.int .i64 (N : Int), .int .i64 (D : Int)] := Blk.more (Blk.new _ _ _) _
  have hQ2 : Blk ((w1.alloc (.cells #[.int .i64 (N : Int), .int .i64 (D : Int)] 25)).alloc (.cells #[.int .i64 (K : Int), .int .i64 (D : Int)] 25)) (w1.heap.size + 1) 25 #[.int .i64 (K : Int), .int .i64 (D : Int)] := Blk.newAt _ _ (by simp only [size_alloc])
  have g0 := hA1.cell 0; have g1 := hA1.cell 1
  simp only [List.getElem?_toArray, List.getElem?_cons_zero, List.getElem?_cons_succ] at g0 g1
  have a0 := hA2.cell 0; have a1 := hA2.cell 1; have c0 := hP2.cell 0; have c1 := hP2.cell 1; have d0 := hQ2.cell 0; have d3 := hQ2.cell 1
  simp only [List.getElem?_toArray, List.getElem?_cons_zero, List.getElem?_cons_succ] at a0 a1 c0 c1 d0 d3
  go_wp2_with fail
  refine (S1.out _).mono ?_
  rintro e1 w3 ⟨rfl, hb3⟩
  have hBx := hB2.trans (hb3.mono hB2.size)
  have hB3 : Below w.heap.size w (w3.alloc (.cells #[.string cur, .int .i64 (L1 : Int)] 23)) := hBx.alloc hBx.size _
  have hA3 := (hA2.below hb3 hA2.lt).alloc (.cells #[.string cur, .int .i64 (L1 : Int)] 23)
  have hP3 := (hP2.below hb3 hP2.lt).alloc (.cells #[.string cur, .int .i64 (L1 : Int)] 23)
  have hQ3 := (hQ2.below hb3 hQ2.lt).alloc (.cells #[.string cur, .int .i64 (L1 : Int)] 23)
  have hU3 : Blk (w3.alloc (.cells #[.string cur, .int .i64 (L1 : Int)] 23)) w3.heap.size 23 #[.string cur, .int .i64 (L1 : Int)] := Blk.new _ _ _
  clear a0 a1 c0 c1 d0 d3 g0 g1 hA2 hP2 hQ2 hBx hB2 hB1 hA1
  have a0 := hA3.cell 0; have a1 := hA3.cell 1; have c0 := hP3.cell 0; have c1 := hP3.cell 1; have d0 := hQ3.cell 0; have d3 := hQ3.cell 1
  simp only [List.getElem?_toArray, List.getElem?_cons_zero, List.getElem?_cons_succ] at a0 a1 c0 c1 d0 d3
  go_wp2_with fail
  refine (S2.out _).mono ?_
  rintro e1 w4 ⟨rfl, hb4⟩
  have hBx := hB3.trans (hb4.mono hB3.size)
  have hB4 : Below w.heap.size w (w4.alloc (.cells #[.string cur, .int .i64 (L2 : Int)] 23)) := hBx.alloc hBx.size _
  have hA4 := (hA3.below hb4 hA3.lt).alloc (.cells #[.string cur, .int .i64 (L2 : Int)] 23)
  have hP4 := (hP3.below hb4 hP3.lt).alloc (.cells #[.string cur, .int .i64 (L2 : Int)] 23)
  have hQ4 := (hQ3.below hb4 hQ3.lt).alloc (.cells #[.string cur, .int .i64 (L2 : Int)] 23)
  clear a0 a1 c0 c1 d0 d3 hA3 hP3 hQ3 hBx hB3
  have a0 := hA4.cell 0; have a1 := hA4.cell 1; have c0 := hP4.cell 0; have c1 := hP4.cell 1; have d0 := hQ4.cell 0; have d3 := hQ4.cell 1
  simp only [List.getElem?_toArray, List.getElem?_cons_zero, List.getElem?_cons_succ] at a0 a1 c0 c1 d0 d3
  have hU4 := (hU3.below hb4 hU3.lt).alloc (.cells #[.string cur, .int .i64 (L2 : Int)] 23)
  have hV4 : Blk (w4.alloc (.cells #[.string cur, .int .i64 (L2 : Int)] 23)) w4.heap.size 23 #[.string cur, .int .i64 (L2 : Int)] := Blk.new _ _ _
  go_wp2_with fail
  refine (S3.out _).mono ?_
  rintro e1 w5 ⟨rfl, hb5⟩
  have hBx := hB4.trans (hb5.mono hB4.size)
  have hB5 : Below w.heap.size w (w5.alloc (.cells #[.string cur, .int .i64 (H1 : Int)] 23)) := hBx.alloc hBx.size _
  have hA5 := (hA4.below hb5 hA4.lt).alloc (.cells #[.string cur, .int .i64 (H1 : Int)] 23)
  have hP5 := (hP4.below hb5 hP4.lt).alloc (.cells #[.string cur, .int .i64 (H1 : Int)] 23)
  have hQ5 := (hQ4.below hb5 hQ4.lt).alloc (.cells #[.string cur, .int .i64 (H1 : Int)] 23)
  clear a0 a1 c0 c1 d0 d3 hA4 hP4 hQ4 hBx hB4
  have a0 := hA5.cell 0; have a1 := hA5.cell 1; have c0 := hP5.cell 0; have c1 := hP5.cell 1; have d0 := hQ5.cell 0; have d3 := hQ5.cell 1
  simp only [List.getElem?_toArray, List.getElem?_cons_zero, List.getElem?_cons_succ] at a0 a1 c0 c1 d0 d3
  have hU5 := (hU4.below hb5 hU4.lt).alloc (.cells #[.string cur, .int .i64 (H1 : Int)] 23)
  have hV5 := (hV4.below hb5 hV4.lt).alloc (.cells #[.string cur, .int .i64 (H1 : Int)] 23)
  have hW5 : Blk (w5.alloc (.cells #[.string cur, .int .i64 (H1 : Int)] 23)) w5.heap.size 23 #[.string cur, .int .i64 (H1 : Int)] := Blk.new _ _ _
  go_wp2_with fail
  refine (S4.out _).mono ?_
  rintro e1 w6 ⟨rfl, hb6⟩
  have hBx := hB5.trans (hb6.mono hB5.size)
  have hB6 : Below w.heap.size w (w6.alloc (.cells #[.string cur, .int .i64 (H2 : Int)] 23)) := hBx.alloc hBx.size _
  have hA6 := (hA5.below hb6 hA5.lt).alloc (.cells #[.string cur, .int .i64 (H2 : Int)] 23)
  have hP6 := (hP5.below hb6 hP5.lt).alloc (.cells #[.string cur, .int .i64 (H2 : Int)] 23)
  have hQ6 := (hQ5.below hb6 hQ5.lt).alloc (.cells #[.string cur, .int .i64 (H2 : Int)] 23)
  clear a0 a1 c0 c1 d0 d3 hA5 hP5 hQ5 hBx hB5
  have a0 := hA6.cell 0; have a1 := hA6.cell 1; have c0 := hP6.cell 0; have c1 := hP6.cell 1; have d0 := hQ6.cell 0; have d3 := hQ6.cell 1
  simp only [List.getElem?_toArray, List.getElem?_cons_zero, List.getElem?_cons_succ] at a0 a1 c0 c1 d0 d3
  have hU6 := (hU5.below hb6 hU5.lt).alloc (.cells #[.string cur, .int .i64 (H2 : Int)] 23)
  have hV6 := (hV5.below hb6 hV5.lt).alloc (.cells #[.string cur, .int .i64 (H2 : Int)] 23)
  have hW6 := (hW5.below hb6 hW5.lt).alloc (.cells #[.string cur, .int .i64 (H2 : Int)] 23)
  have hX6 : Blk (w6.alloc (.cells #[.string cur, .int .i64 (H2 : Int)] 23)) w6.heap.size 23 #[.string cur, .int .i64 (H2 : Int)] := Blk.new _ _ _
  have u1 := hU6.cell 1; have u2 := hV6.cell 1; have u3 := hW6.cell 1; have u4 := hX6.cell 1
  simp only [List.getElem?_toArray, List.getElem?_cons_zero, List.getElem?_cons_succ] at u1 u2 u3 u4
  go_wp2_with fail
  go_quiet (fail)
  have hB7 := below_drewN hB6 nq
  have hs := HS.out
  have he : e = 0 ∨ e = 1 := by omega
  rcases he with rfl | rfl
  · have x1 : (L1 : Int) + (L2 : Int) = (A : Int) := by omega
    have x2 : (H1 : Int) + (H2 : Int) = (A : Int) := by omega
    clear hs
    go_wp2_with fail
    refine (awake_any _ (HT.out.on hB7).here).mono ?_
    rintro e1 w8 ⟨rfl, hb8⟩
    have hB8 := hB7.trans (hb8.mono hB7.size)
    go_wp2_with fail
    go_ret
    exact ⟨ret_bool (by simp), hB8⟩
  · have x1 : (L1 : Int) + (L2 : Int) = (A : Int) - 1 := by omega
    have x2 : (H1 : Int) + (H2 : Int) = (A : Int) + 1 := by omega
    have z1 : ((A : Int) - 1 == (A : Int)) = false := by simp; omega
    have z2 : ((A : Int) + 1 == (A : Int)) = false := by simp; omega
    clear hs
    go_wp2_with fail
    refine (awake_any _ (HT.out.on hB7).here).mono ?_
    rintro e1 w8 ⟨rfl, hb8⟩
    have hB8 := hB7.trans (hb8.mono hB7.size)
    go_wp2_with fail
    go_ret
    exact ⟨ret_bool (by simp), hB8⟩
theorem u32_of {n : Int} (h : (Lit.int .u32 n).wf = true) : 0 ≤ n ∧ n ≤ 4294967295 := by
  simp [Lit.wf, IntKind.min, IntKind.max, IntKind.signed, IntKind.bits] at h
  omega
set_option maxRecDepth 100000 in
set_option maxHeartbeats 3200000 in
theorem moneyParts_walk (m : Mon) (n d : Int) (w : World) (hc : m.cur.size ≤ maxLen) (hn : 0 ≤ n ∧ n ≤ 4294967295) (hd : 0 ≤ d ∧ d ≤ 4294967295) (ht : PowTab w) :
    Calls Tryd.prog 5 #[.agg #[.string m.cur, .int .i64 m.amt], .int .u32 n, .int .u32 d] w fun e w' => e = .returned (.bool true) ∧ Below w.heap.size w w' := by
  by_cases hgo : mayM m = true ∧ 0 ≤ m.amt ∧ n ≤ d ∧ 1 ≤ d
  · obtain ⟨cur, amt⟩ := m
    obtain ⟨h1, h2, h3, h4⟩ := hgo
    simp only [] at h2
    obtain ⟨A, rfl⟩ : ∃ A : Nat, amt = A := ⟨amt.toNat, by omega⟩
    obtain ⟨N, rfl⟩ : ∃ A : Nat, n = A := ⟨n.toNat, by omega⟩
    obtain ⟨D, rfl⟩ : ∃ A : Nat, d = A := ⟨d.toNat, by omega⟩
    exact parts_in cur A N D w h1 (by omega) (by omega) (by omega) ht
  have HT := Lib.hid (Lib.tabBelow_of_tabIs ht)
  have HM := Lib.hid (fun w => rmay_any m w hc)
  have hA0 : Blk (w.alloc (.cells #[.string m.cur, .int .i64 m.amt] 23)) w.heap.size 23 #[.string m.cur, .int .i64 m.amt] := Blk.new _ _ _
  have hB0 : Below w.heap.size w (w.alloc (.cells #[.string m.cur, .int .i64 m.amt] 23)) := (Below.refl _ _).alloc (Nat.le_refl _) _
  have a0 := hA0.cell 0; have a1 := hA0.cell 1
  simp only [List.getElem?_toArray, List.getElem?_cons_zero, List.getElem?_cons_succ] at a0 a1
  clear ht hc
  cases q0 : mayM m
  · rw [q0] at HM
    clear q0 hgo
    go_enter Tryd.func5, Tryd.ntmps5
    go_wp2_with fail
    refine (HM.out _).mono ?_
    rintro e w1 ⟨rfl, hb1⟩
    have hB1 := hB0.trans (hb1.mono hB0.size)
    have hA1 := hA0.below hb1 hA0.lt
    clear a0 a1 hA0 hB0 hb1
    have a0 := hA1.cell 0; have a1 := hA1.cell 1
    simp only [List.getElem?_toArray, List.getElem?_cons_zero, List.getElem?_cons_succ] at a0 a1
    go_wp2_with fail
    refine (awake_any _ (HT.out.on hB1).here).mono ?_
    rintro e w2 ⟨rfl, hb2⟩
    have hB2 := hB1.trans (hb2.mono hB1.size)
    go_wp2_with fail
    go_ret
    exact ⟨rfl, hB2⟩
  rw [q0] at HM
  by_cases q1 : m.amt < 0
  · have d1 : decide (m.amt < 0) = true := decide_eq_true q1
    clear q0 hgo
    go_enter Tryd.func5, Tryd.ntmps5
    go_wp2_with fail
    refine (HM.out _).mono ?_
    rintro e w1 ⟨rfl, hb1⟩
    have hB1 := hB0.trans (hb1.mono hB0.size)
    have hA1 := hA0.below hb1 hA0.lt
    clear a0 a1 hA0 hB0 hb1
    have a0 := hA1.cell 0; have a1 := hA1.cell 1
    simp only [List.getElem?_toArray, List.getElem?_cons_zero, List.getElem?_cons_succ] at a0 a1
    go_wp2_with fail
    refine (awake_any _ (HT.out.on hB1).here).mono ?_
    rintro e w2 ⟨rfl, hb2⟩
    have hB2 := hB1.trans (hb2.mono hB1.size)
    go_wp2_with fail
    go_ret
    exact ⟨rfl, hB2⟩
  have d1 : decide (m.amt < 0) = false := decide_eq_false q1
  by_cases q2 : d < n
  · have d2 : decide (d < n) = true := decide_eq_true q2
    clear q0 hgo
    go_enter Tryd.func5, Tryd.ntmps5
    go_wp2_with fail
    refine (HM.out _).mono ?_
    rintro e w1 ⟨rfl, hb1⟩
    have hB1 := hB0.trans (hb1.mono hB0.size)
    have hA1 := hA0.below hb1 hA0.lt
    clear a0 a1 hA0 hB0 hb1
    have a0 := hA1.cell 0; have a1 := hA1.cell 1
    simp only [List.getElem?_toArray, List.getElem?_cons_zero, List.getElem?_cons_succ] at a0 a1
    go_wp2_with fail
    refine (awake_any _ (HT.out.on hB1).here).mono ?_
    rintro e w2 ⟨rfl, hb2⟩
    have hB2 := hB1.trans (hb2.mono hB1.size)
    go_wp2_with fail
    go_ret
    exact ⟨rfl, hB2⟩
  have d2 : decide (d < n) = false := decide_eq_false q2
  have q3 : d = 0 := by
    rcases Int.lt_or_le 0 d with h | h
    · exact absurd ⟨q0, by omega, by omega, by omega⟩ hgo
    · omega
  subst q3
  clear q0 hgo
  go_enter Tryd.func5, Tryd.ntmps5
  go_wp2_with fail
  refine (HM.out _).mono ?_
  rintro e w1 ⟨rfl, hb1⟩
  have hB1 := hB0.trans (hb1.mono hB0.size)
  have hA1 := hA0.below hb1 hA0.lt
  clear a0 a1 hA0 hB0 hb1
  have a0 := hA1.cell 0; have a1 := hA1.cell 1
  simp only [List.getElem?_toArray, List.getElem?_cons_zero, List.getElem?_cons_succ] at a0 a1
  go_wp2_with fail
  refine (awake_any _ (HT.out.on hB1).here).mono ?_
  rintro e w2 ⟨rfl, hb2⟩
  have hB2 := hB1.trans (hb2.mono hB1.size)
  go_wp2_with fail
  go_ret
  exact ⟨rfl, hB2⟩
end Go.Proofs.YtmmcngdpfikdiaaDoor
