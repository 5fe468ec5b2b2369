/- What is insured, and paid: the program. No condition. -/
import Derived.Test.YtldjohmdlggmeaaDoorMayA
import Derived.Test.YtldjohmdlggmeaaDoorOf
namespace Go.Proofs.YtldjohmdlggmeaaDoor.kit
open Go.RowKit
set_option linter.unusedVariables false

set_option maxRecDepth 100000 in
set_option maxHeartbeats 3200000 in
theorem insured_yes (p : Pol) (v : Int) (w : World) (hp : p.ok w) (hm : mayP p = true) (hv : 1 ≤ v ∧ v ≤ 1099511627776) :
    Calls Tryd.prog 23 #[.agg #[.string p.ins, .string p.fr, .string p.dst, .int .i64 p.sum, .int .i64 p.own, .slice p.cA p.cn p.cc, .int .i64 p.first, .int .i64 p.last, .int .i64 p.share], .int .i64 v] w fun e w' => e = .returned (.tuple #[.int .i64 (insV p v), .bool true]) ∧ Below w.heap.size w w' := by
  have HP := Lib.hid hp
  have HM := Lib.hid hm
  clear hp hm
  have hB0 : Below w.heap.size w (w.alloc (.cells #[.string p.ins, .string p.fr, .string p.dst, .int .i64 p.sum, .int .i64 p.own, .slice p.cA p.cn p.cc, .int .i64 p.first, .int .i64 p.last, .int .i64 p.share] 24)) := (Below.refl _ _).alloc (Nat.le_refl _) _
  have hk0 : Blk (w.alloc (.cells #[.string p.ins, .string p.fr, .string p.dst, .int .i64 p.sum, .int .i64 p.own, .slice p.cA p.cn p.cc, .int .i64 p.first, .int .i64 p.last, .int .i64 p.share] 24)) w.heap.size 24 #[.string p.ins, .string p.fr, .string p.dst, .int .i64 p.sum, .int .i64 p.own, .slice p.cA p.cn p.cc, .int .i64 p.first, .int .i64 p.last, .int .i64 p.share] := Blk.new _ _ _
  have a0 := hk0.cell 0; have a1 := hk0.cell 1; have a2 := hk0.cell 2; have a3 := hk0.cell 3; have a4 := hk0.cell 4; have a5 := hk0.cell 5; have a6 := hk0.cell 6; have a7 := hk0.cell 7; have a8 := hk0.cell 8
  simp only [List.getElem?_toArray, List.getElem?_cons_zero, List.getElem?_cons_succ] at a0 a1 a2 a3 a4 a5 a6 a7 a8
  have g1 : decide (v < 1) = false := decide_eq_false (by omega)
  have g2 : decide (1099511627776 < v) = false := decide_eq_false (by omega)
  go_enter Tryd.func23, Tryd.ntmps23
  go_wp2_with fail
  refine (may_any p _ (HP.out.below hB0)).mono ?_
  rw [HM.out]
  rintro e w1 ⟨rfl, hb1⟩
  clear a0 a1 a2 a3 a4 a5 a6 a7 a8
  have hB1 := hB0.trans (hb1.mono hB0.size)
  have hk1 := hk0.below hb1 hk0.lt
  clear hB0 hk0 hb1
  have a0 := hk1.cell 0; have a1 := hk1.cell 1; have a2 := hk1.cell 2; have a3 := hk1.cell 3; have a4 := hk1.cell 4; have a5 := hk1.cell 5; have a6 := hk1.cell 6; have a7 := hk1.cell 7; have a8 := hk1.cell 8
  simp only [List.getElem?_toArray, List.getElem?_cons_zero, List.getElem?_cons_succ] at a0 a1 a2 a3 a4 a5 a6 a7 a8
  go_wp2_with fail
  go_ret2
  exact ⟨rfl, hB1⟩
set_option maxRecDepth 100000 in
set_option maxHeartbeats 3200000 in
theorem insured_no (p : Pol) (v : Int) (w : World) (hp : p.ok w) (hm : fineB p v = false) :
    Calls Tryd.prog 23 #[.agg #[.string p.ins, .string p.fr, .string p.dst, .int .i64 p.sum, .int .i64 p.own, .slice p.cA p.cn p.cc, .int .i64 p.first, .int .i64 p.last, .int .i64 p.share], .int .i64 v] w fun e w' => e = .returned (.tuple #[.int .i64 0, .bool false]) ∧ Below w.heap.size w w' := by
  have HP := Lib.hid hp
  clear hp
  have hB0 : Below w.heap.size w (w.alloc (.cells #[.string p.ins, .string p.fr, .string p.dst, .int .i64 p.sum, .int .i64 p.own, .slice p.cA p.cn p.cc, .int .i64 p.first, .int .i64 p.last, .int .i64 p.share] 24)) := (Below.refl _ _).alloc (Nat.le_refl _) _
  have hk0 : Blk (w.alloc (.cells #[.string p.ins, .string p.fr, .string p.dst, .int .i64 p.sum, .int .i64 p.own, .slice p.cA p.cn p.cc, .int .i64 p.first, .int .i64 p.last, .int .i64 p.share] 24)) w.heap.size 24 #[.string p.ins, .string p.fr, .string p.dst, .int .i64 p.sum, .int .i64 p.own, .slice p.cA p.cn p.cc, .int .i64 p.first, .int .i64 p.last, .int .i64 p.share] := Blk.new _ _ _
  have a0 := hk0.cell 0; have a1 := hk0.cell 1; have a2 := hk0.cell 2; have a3 := hk0.cell 3; have a4 := hk0.cell 4; have a5 := hk0.cell 5; have a6 := hk0.cell 6; have a7 := hk0.cell 7; have a8 := hk0.cell 8
  simp only [List.getElem?_toArray, List.getElem?_cons_zero, List.getElem?_cons_succ] at a0 a1 a2 a3 a4 a5 a6 a7 a8
  cases hy : mayP p
  · have HM := Lib.hid hy
    clear hy hm
    go_enter Tryd.func23, Tryd.ntmps23
    go_wp2_with fail
    refine (may_any p _ (HP.out.below hB0)).mono ?_
    rw [HM.out]
    rintro e w1 ⟨rfl, hb1⟩
    clear a0 a1 a2 a3 a4 a5 a6 a7 a8
    have hB1 := hB0.trans (hb1.mono hB0.size)
    have hk1 := hk0.below hb1 hk0.lt
    clear hB0 hk0 hb1
    have a0 := hk1.cell 0; have a1 := hk1.cell 1; have a2 := hk1.cell 2; have a3 := hk1.cell 3; have a4 := hk1.cell 4; have a5 := hk1.cell 5; have a6 := hk1.cell 6; have a7 := hk1.cell 7; have a8 := hk1.cell 8
    simp only [List.getElem?_toArray, List.getElem?_cons_zero, List.getElem?_cons_succ] at a0 a1 a2 a3 a4 a5 a6 a7 a8
    go_wp2_with fail
    go_ret2
    exact ⟨rfl, hB1⟩
  · have HM := Lib.hid hy
    have hv : v < 1 ∨ 1099511627776 < v := by
      simp only [fineB, hy, inr, Bool.true_and, decide_eq_false_iff_not] at hm
      omega
    clear hy hm
    rcases Int.lt_or_le v 1 with k | k
    · have g1 : decide (v < 1) = true := decide_eq_true k
      clear hv k
      go_enter Tryd.func23, Tryd.ntmps23
      go_wp2_with fail
      refine (may_any p _ (HP.out.below hB0)).mono ?_
      rw [HM.out]
      rintro e w1 ⟨rfl, hb1⟩
      clear a0 a1 a2 a3 a4 a5 a6 a7 a8
      have hB1 := hB0.trans (hb1.mono hB0.size)
      have hk1 := hk0.below hb1 hk0.lt
      clear hB0 hk0 hb1
      have a0 := hk1.cell 0; have a1 := hk1.cell 1; have a2 := hk1.cell 2; have a3 := hk1.cell 3; have a4 := hk1.cell 4; have a5 := hk1.cell 5; have a6 := hk1.cell 6; have a7 := hk1.cell 7; have a8 := hk1.cell 8
      simp only [List.getElem?_toArray, List.getElem?_cons_zero, List.getElem?_cons_succ] at a0 a1 a2 a3 a4 a5 a6 a7 a8
      go_wp2_with fail
      go_ret2
      exact ⟨rfl, hB1⟩
    · have g1 : decide (v < 1) = false := decide_eq_false (by omega)
      have g2 : decide (1099511627776 < v) = true := decide_eq_true (by omega)
      clear hv k
      go_enter Tryd.func23, Tryd.ntmps23
      go_wp2_with fail
      refine (may_any p _ (HP.out.below hB0)).mono ?_
      rw [HM.out]
      rintro e w1 ⟨rfl, hb1⟩
      clear a0 a1 a2 a3 a4 a5 a6 a7 a8
      have hB1 := hB0.trans (hb1.mono hB0.size)
      have hk1 := hk0.below hb1 hk0.lt
      clear hB0 hk0 hb1
      have a0 := hk1.cell 0; have a1 := hk1.cell 1; have a2 := hk1.cell 2; have a3 := hk1.cell 3; have a4 := hk1.cell 4; have a5 := hk1.cell 5; have a6 := hk1.cell 6; have a7 := hk1.cell 7; have a8 := hk1.cell 8
      simp only [List.getElem?_toArray, List.getElem?_cons_zero, List.getElem?_cons_succ] at a0 a1 a2 a3 a4 a5 a6 a7 a8
      go_wp2_with fail
      go_ret2
      exact ⟨rfl, hB1⟩

set_option maxRecDepth 100000 in
set_option maxHeartbeats 3200000 in
theorem pays_no (p : Pol) (l v : Int) (w : World) (hp : p.ok w) (hm : paysB p l v = false) :
    Calls Tryd.prog 13 #[.agg #[.string p.ins, .string p.fr, .string p.dst, .int .i64 p.sum, .int .i64 p.own, .slice p.cA p.cn p.cc, .int .i64 p.first, .int .i64 p.last, .int .i64 p.share], .int .i64 l, .int .i64 v] w fun e w' => e = .returned (.tuple #[.int .i64 0, .bool false]) ∧ Below w.heap.size w w' := by
  have HP := Lib.hid hp
  clear hp
  have hB0 : Below w.heap.size w (w.alloc (.cells #[.string p.ins, .string p.fr, .string p.dst, .int .i64 p.sum, .int .i64 p.own, .slice p.cA p.cn p.cc, .int .i64 p.first, .int .i64 p.last, .int .i64 p.share] 24)) := (Below.refl _ _).alloc (Nat.le_refl _) _
  have hk0 : Blk (w.alloc (.cells #[.string p.ins, .string p.fr, .string p.dst, .int .i64 p.sum, .int .i64 p.own, .slice p.cA p.cn p.cc, .int .i64 p.first, .int .i64 p.last, .int .i64 p.share] 24)) w.heap.size 24 #[.string p.ins, .string p.fr, .string p.dst, .int .i64 p.sum, .int .i64 p.own, .slice p.cA p.cn p.cc, .int .i64 p.first, .int .i64 p.last, .int .i64 p.share] := Blk.new _ _ _
  have a0 := hk0.cell 0; have a1 := hk0.cell 1; have a2 := hk0.cell 2; have a3 := hk0.cell 3; have a4 := hk0.cell 4; have a5 := hk0.cell 5; have a6 := hk0.cell 6; have a7 := hk0.cell 7; have a8 := hk0.cell 8
  simp only [List.getElem?_toArray, List.getElem?_cons_zero, List.getElem?_cons_succ] at a0 a1 a2 a3 a4 a5 a6 a7 a8
  cases hy : fineB p v
  · have HM := Lib.hid hy
    clear hy hm
    go_enter Tryd.func13, Tryd.ntmps13
    go_wp2_with fail
    refine (insured_no p v _ (HP.out.below hB0) HM.out).mono ?_
    skip
    rintro e w1 ⟨rfl, hb1⟩
    clear a0 a1 a2 a3 a4 a5 a6 a7 a8
    have hB1 := hB0.trans (hb1.mono hB0.size)
    have hk1 := hk0.below hb1 hk0.lt
    clear hB0 hk0 hb1
    have a0 := hk1.cell 0; have a1 := hk1.cell 1; have a2 := hk1.cell 2; have a3 := hk1.cell 3; have a4 := hk1.cell 4; have a5 := hk1.cell 5; have a6 := hk1.cell 6; have a7 := hk1.cell 7; have a8 := hk1.cell 8
    simp only [List.getElem?_toArray, List.getElem?_cons_zero, List.getElem?_cons_succ] at a0 a1 a2 a3 a4 a5 a6 a7 a8
    go_wp2_with fail
    go_ret2
    exact ⟨rfl, hB1⟩
  · have hf := hy
    simp only [fineB, inr, Bool.and_eq_true, decide_eq_true_eq] at hf
    have HM := Lib.hid hf
    have hv : l < 0 ∨ 1099511627776 < l := by
      simp only [paysB, hy, inr, Bool.true_and, decide_eq_false_iff_not] at hm
      omega
    clear hy hm hf
    rcases Int.lt_or_le l 0 with k | k
    · have g1 : decide (l < 0) = true := decide_eq_true k
      clear hv k
      go_enter Tryd.func13, Tryd.ntmps13
      go_wp2_with fail
      refine (insured_yes p v _ (HP.out.below hB0) HM.out.1 HM.out.2).mono ?_
      skip
      rintro e w1 ⟨rfl, hb1⟩
      clear a0 a1 a2 a3 a4 a5 a6 a7 a8
      have hB1 := hB0.trans (hb1.mono hB0.size)
      have hk1 := hk0.below hb1 hk0.lt
      clear hB0 hk0 hb1
      have a0 := hk1.cell 0; have a1 := hk1.cell 1; have a2 := hk1.cell 2; have a3 := hk1.cell 3; have a4 := hk1.cell 4; have a5 := hk1.cell 5; have a6 := hk1.cell 6; have a7 := hk1.cell 7; have a8 := hk1.cell 8
      simp only [List.getElem?_toArray, List.getElem?_cons_zero, List.getElem?_cons_succ] at a0 a1 a2 a3 a4 a5 a6 a7 a8
      go_wp2_with fail
      go_ret2
      exact ⟨rfl, hB1⟩
    · have g1 : decide (l < 0) = false := decide_eq_false (by omega)
      have g2 : decide (1099511627776 < l) = true := decide_eq_true (by omega)
      clear hv k
      go_enter Tryd.func13, Tryd.ntmps13
      go_wp2_with fail
      refine (insured_yes p v _ (HP.out.below hB0) HM.out.1 HM.out.2).mono ?_
      skip
      rintro e w1 ⟨rfl, hb1⟩
      clear a0 a1 a2 a3 a4 a5 a6 a7 a8
      have hB1 := hB0.trans (hb1.mono hB0.size)
      have hk1 := hk0.below hb1 hk0.lt
      clear hB0 hk0 hb1
      have a0 := hk1.cell 0; have a1 := hk1.cell 1; have a2 := hk1.cell 2; have a3 := hk1.cell 3; have a4 := hk1.cell 4; have a5 := hk1.cell 5; have a6 := hk1.cell 6; have a7 := hk1.cell 7; have a8 := hk1.cell 8
      simp only [List.getElem?_toArray, List.getElem?_cons_zero, List.getElem?_cons_succ] at a0 a1 a2 a3 a4 a5 a6 a7 a8
      go_wp2_with fail
      go_ret2
      exact ⟨rfl, hB1⟩

set_option maxRecDepth 100000 in
set_option maxHeartbeats 3200000 in
theorem pays_yes (p : Pol) (l v : Int) (w : World) (hp : p.ok w) (hm : mayP p = true) (hv : 1 ≤ v ∧ v ≤ 1099511627776) (hl : 0 ≤ l ∧ l ≤ 1099511627776) :
    Calls Tryd.prog 13 #[.agg #[.string p.ins, .string p.fr, .string p.dst, .int .i64 p.sum, .int .i64 p.own, .slice p.cA p.cn p.cc, .int .i64 p.first, .int .i64 p.last, .int .i64 p.share], .int .i64 l, .int .i64 v] w fun e w' => e = .returned (.tuple #[.int .i64 (payV p l v), .bool true]) ∧ Below w.heap.size w w' := by
  obtain ⟨h1, h2, h3, h4⟩ := may_iff hm
  have hb := part_bd (p := p) hv.1 hl.1 h1.1
  have hi := ins_bd (p := p) hv.1 h1.1
  have hpay : payV p l v = max (partV p l v - p.own) 0 * p.share / 1000 := rfl
  have hpart : partV p l v = min l v * insV p v / v := rfl
  have HP := Lib.hid hp
  have HM := Lib.hid hm
  clear hp hm h4
  obtain ⟨I, hI'⟩ : ∃ x, insV p v = x := ⟨_, rfl⟩
  obtain ⟨q, hq⟩ : ∃ x, partV p l v = x := ⟨_, rfl⟩
  rw [hq] at hpay hpart hb
  rw [hI'] at hpart hb hi
  have hI := Lib.hid hI'
  rw [hpay]
  clear hpay hq hI'
  have HQ := Lib.hid hpart.symm
  clear hpart
  obtain ⟨m, hm⟩ : ∃ x, min l v = x := ⟨_, rfl⟩
  have hmb : 0 ≤ m ∧ m ≤ 1099511627776 := by omega
  rw [hm] at HQ
  obtain ⟨d, hd⟩ : ∃ x, max (q - p.own) 0 = x := ⟨_, rfl⟩
  rw [hd]
  have hdb : 0 ≤ d ∧ d ≤ 1099511627776 := by omega
  have hth := thou_le (n := d) (s := p.share) hdb.1 (by omega)
  have HD : Hid (0 ≤ d ∧ d ≤ 1099511627776) := Lib.hid hdb
  have HMB := Lib.hid hmb
  have HT := Lib.hid hth
  have HI := Lib.hid hi
  have hqo : wrap64 (q - p.own) = q - p.own := by unfold wrap64; omega
  have d1 : decide (l < 0) = false := decide_eq_false (by omega)
  have d2 : decide (1099511627776 < l) = false := decide_eq_false (by omega)
  clear hdb hth hmb hi
  have hB0 : Below w.heap.size w (w.alloc (.cells #[.string p.ins, .string p.fr, .string p.dst, .int .i64 p.sum, .int .i64 p.own, .slice p.cA p.cn p.cc, .int .i64 p.first, .int .i64 p.last, .int .i64 p.share] 24)) := (Below.refl _ _).alloc (Nat.le_refl _) _
  have hk0 : Blk (w.alloc (.cells #[.string p.ins, .string p.fr, .string p.dst, .int .i64 p.sum, .int .i64 p.own, .slice p.cA p.cn p.cc, .int .i64 p.first, .int .i64 p.last, .int .i64 p.share] 24)) w.heap.size 24 #[.string p.ins, .string p.fr, .string p.dst, .int .i64 p.sum, .int .i64 p.own, .slice p.cA p.cn p.cc, .int .i64 p.first, .int .i64 p.last, .int .i64 p.share] := Blk.new _ _ _
  have a0 := hk0.cell 0; have a1 := hk0.cell 1; have a2 := hk0.cell 2; have a3 := hk0.cell 3; have a4 := hk0.cell 4; have a5 := hk0.cell 5; have a6 := hk0.cell 6; have a7 := hk0.cell 7; have a8 := hk0.cell 8
  simp only [List.getElem?_toArray, List.getElem?_cons_zero, List.getElem?_cons_succ] at a0 a1 a2 a3 a4 a5 a6 a7 a8
  go_enter Tryd.func13, Tryd.ntmps13
  go_wp2_with fail
  refine (insured_yes p v _ (HP.out.below hB0) HM.out hv).mono ?_
  rw [hI.out]
  rintro e w1 ⟨rfl, hb1⟩
  clear a0 a1 a2 a3 a4 a5 a6 a7 a8
  have hB1 := hB0.trans (hb1.mono hB0.size)
  have hk1 := hk0.below hb1 hk0.lt
  clear hB0 hk0 hb1
  have a0 := hk1.cell 0; have a1 := hk1.cell 1; have a2 := hk1.cell 2; have a3 := hk1.cell 3; have a4 := hk1.cell 4; have a5 := hk1.cell 5; have a6 := hk1.cell 6; have a7 := hk1.cell 7; have a8 := hk1.cell 8
  simp only [List.getElem?_toArray, List.getElem?_cons_zero, List.getElem?_cons_succ] at a0 a1 a2 a3 a4 a5 a6 a7 a8
  go_wp2_with fail
  refine (of_int m I v HMB.out (by have := HI.out; omega) (by omega) (by rw [HQ.out]; omega) _).mono ?_
  rw [HQ.out]
  rintro e w2 ⟨rfl, hb2⟩
  clear a0 a1 a2 a3 a4 a5 a6 a7 a8
  have hB2 := hB1.trans (hb2.mono hB1.size)
  have hk2 := hk1.below hb2 hk1.lt
  clear hB1 hk1 hb2
  have a0 := hk2.cell 0; have a1 := hk2.cell 1; have a2 := hk2.cell 2; have a3 := hk2.cell 3; have a4 := hk2.cell 4; have a5 := hk2.cell 5; have a6 := hk2.cell 6; have a7 := hk2.cell 7; have a8 := hk2.cell 8
  simp only [List.getElem?_toArray, List.getElem?_cons_zero, List.getElem?_cons_succ] at a0 a1 a2 a3 a4 a5 a6 a7 a8
  go_wp2_with fail
  refine (of_int d p.share 1000 HD.out (by omega) (by omega) (by have := HT.out; have := HD.out; omega) _).mono ?_
  skip
  rintro e w3 ⟨rfl, hb3⟩
  clear a0 a1 a2 a3 a4 a5 a6 a7 a8
  have hB3 := hB2.trans (hb3.mono hB2.size)
  have hk3 := hk2.below hb3 hk2.lt
  clear hB2 hk2 hb3
  have a0 := hk3.cell 0; have a1 := hk3.cell 1; have a2 := hk3.cell 2; have a3 := hk3.cell 3; have a4 := hk3.cell 4; have a5 := hk3.cell 5; have a6 := hk3.cell 6; have a7 := hk3.cell 7; have a8 := hk3.cell 8
  simp only [List.getElem?_toArray, List.getElem?_cons_zero, List.getElem?_cons_succ] at a0 a1 a2 a3 a4 a5 a6 a7 a8
  go_wp2_with fail
  go_ret2
  exact ⟨rfl, hB3⟩
end Go.Proofs.YtldjohmdlggmeaaDoor.kit
