/- PolicyDays: the law. No condition. -/
import Derived.Test.YtembipmficppnaaCovR
import Derived.Test.YtembipmficppnaaRPays
namespace Go.Proofs.Ytembipmficppnaa
open Go.RowKit Go.Proofs.Ytembipmficppnaa.kit
set_option linter.unusedVariables false

set_option maxRecDepth 100000 in
set_option maxHeartbeats 6400000 in
theorem days_out (p : Pol) (A : Option Addr) (n c : Nat) (xs : List Hd) (cause a b d : Int) (w : World) (hp : p.ok w) (hx : SliceOf w 5 hdC A n xs) (hnc : n ≤ c) (hcm : c ≤ maxLen) (ho : longB p = true ∨ 30 < n ∨ heavyB xs = true ∨ b < a ∨ d < b) : Calls Try.prog 7 #[.agg #[.string p.ins, .string p.fr, .string p.dst, .int .i64 p.sum, .int .i64 p.own, .slice p.cA p.cn p.cc, .int .i64 p.first, .int .i64 p.last, .int .i64 p.share], .slice A n c, .int .i64 cause, .int .i64 a, .int .i64 b, .int .i64 d] w fun e w' => e = .returned (.bool true) ∧ Below w.heap.size w w' := by
  have HX := Lib.hid hx
  have hxl := hx.len
  have hm : n ≤ maxLen := by omega
  clear hx
  cases hl : longB p
  rotate_left
  · have HL := Lib.hid hl
    clear hl ho
    have HP := Lib.hid hp
    clear hp
    have hB0 : Below w.heap.size w (w.alloc (.cells #[.string p.ins, .string p.fr, .string p.dst, .int .i64 p.sum, .int .i64 p.own, .slice p.cA p.cn p.cc, .int .i64 p.first, .int .i64 p.last, .int .i64 p.share] 24)) := (Below.refl _ _).alloc (Nat.le_refl _) _
    have hk0 : Blk (w.alloc (.cells #[.string p.ins, .string p.fr, .string p.dst, .int .i64 p.sum, .int .i64 p.own, .slice p.cA p.cn p.cc, .int .i64 p.first, .int .i64 p.last, .int .i64 p.share] 24)) w.heap.size 24 #[.string p.ins, .string p.fr, .string p.dst, .int .i64 p.sum, .int .i64 p.own, .slice p.cA p.cn p.cc, .int .i64 p.first, .int .i64 p.last, .int .i64 p.share] := Blk.new _ _ _
    go_enter Try.func7, Try.ntmps7
    go_wp2_with fail
    refine (awake_any _).mono ?_
    rintro e w1 ⟨rfl, hb1⟩
    have hB1 := hB0.trans (hb1.mono hB0.size)
    have hk1 := hk0.below hb1 hk0.lt
    clear hB0 hk0 hb1
    have a0 := hk1.cell 0; have a1 := hk1.cell 1; have a2 := hk1.cell 2; have a3 := hk1.cell 3; have a4 := hk1.cell 4; have a5 := hk1.cell 5; have a6 := hk1.cell 6; have a7 := hk1.cell 7; have a8 := hk1.cell 8
    simp only [List.getElem?_toArray, List.getElem?_cons_zero, List.getElem?_cons_succ] at a0 a1 a2 a3 a4 a5 a6 a7 a8
    go_wp2_with fail
    refine (rlong_any p _).mono ?_
    rw [HL.out]
    rintro e w2 ⟨rfl, hb2⟩
    clear a0 a1 a2 a3 a4 a5 a6 a7 a8
    have hB2 := hB1.trans (hb2.mono hB1.size)
    have hk2 := hk1.below hb2 hk1.lt
    clear hB1 hk1 hb2
    have a0 := hk2.cell 0; have a1 := hk2.cell 1; have a2 := hk2.cell 2; have a3 := hk2.cell 3; have a4 := hk2.cell 4; have a5 := hk2.cell 5; have a6 := hk2.cell 6; have a7 := hk2.cell 7; have a8 := hk2.cell 8
    simp only [List.getElem?_toArray, List.getElem?_cons_zero, List.getElem?_cons_succ] at a0 a1 a2 a3 a4 a5 a6 a7 a8
    go_wp2_with fail
    go_ret
    exact ⟨rfl, hB2⟩
  have HL := Lib.hid hl
  by_cases q1 : 30 < n
  · have d1 : decide ((30 : Int) < (n : Int)) = true := decide_eq_true (by omega)
    have d1' : decide (30 < n) = true := decide_eq_true q1
    clear hl ho
    have HP := Lib.hid hp
    clear hp
    have hB0 : Below w.heap.size w (w.alloc (.cells #[.string p.ins, .string p.fr, .string p.dst, .int .i64 p.sum, .int .i64 p.own, .slice p.cA p.cn p.cc, .int .i64 p.first, .int .i64 p.last, .int .i64 p.share] 24)) := (Below.refl _ _).alloc (Nat.le_refl _) _
    have hk0 : Blk (w.alloc (.cells #[.string p.ins, .string p.fr, .string p.dst, .int .i64 p.sum, .int .i64 p.own, .slice p.cA p.cn p.cc, .int .i64 p.first, .int .i64 p.last, .int .i64 p.share] 24)) w.heap.size 24 #[.string p.ins, .string p.fr, .string p.dst, .int .i64 p.sum, .int .i64 p.own, .slice p.cA p.cn p.cc, .int .i64 p.first, .int .i64 p.last, .int .i64 p.share] := Blk.new _ _ _
    go_enter Try.func7, Try.ntmps7
    go_wp2_with fail
    refine (awake_any _).mono ?_
    rintro e w1 ⟨rfl, hb1⟩
    have hB1 := hB0.trans (hb1.mono hB0.size)
    have hk1 := hk0.below hb1 hk0.lt
    clear hB0 hk0 hb1
    have a0 := hk1.cell 0; have a1 := hk1.cell 1; have a2 := hk1.cell 2; have a3 := hk1.cell 3; have a4 := hk1.cell 4; have a5 := hk1.cell 5; have a6 := hk1.cell 6; have a7 := hk1.cell 7; have a8 := hk1.cell 8
    simp only [List.getElem?_toArray, List.getElem?_cons_zero, List.getElem?_cons_succ] at a0 a1 a2 a3 a4 a5 a6 a7 a8
    go_wp2_with fail
    refine (rlong_any p _).mono ?_
    rw [HL.out]
    rintro e w2 ⟨rfl, hb2⟩
    clear a0 a1 a2 a3 a4 a5 a6 a7 a8
    have hB2 := hB1.trans (hb2.mono hB1.size)
    have hk2 := hk1.below hb2 hk1.lt
    clear hB1 hk1 hb2
    have a0 := hk2.cell 0; have a1 := hk2.cell 1; have a2 := hk2.cell 2; have a3 := hk2.cell 3; have a4 := hk2.cell 4; have a5 := hk2.cell 5; have a6 := hk2.cell 6; have a7 := hk2.cell 7; have a8 := hk2.cell 8
    simp only [List.getElem?_toArray, List.getElem?_cons_zero, List.getElem?_cons_succ] at a0 a1 a2 a3 a4 a5 a6 a7 a8
    go_wp2_with fail
    go_ret
    exact ⟨rfl, hB2⟩
  have d1 : decide ((30 : Int) < (n : Int)) = false := decide_eq_false (by omega)
  have d1' : decide (30 < n) = false := decide_eq_false q1
  cases hh : heavyB xs
  rotate_left
  · have HH := Lib.hid hh
    clear hl hh ho
    have HP := Lib.hid hp
    clear hp
    have hB0 : Below w.heap.size w (w.alloc (.cells #[.string p.ins, .string p.fr, .string p.dst, .int .i64 p.sum, .int .i64 p.own, .slice p.cA p.cn p.cc, .int .i64 p.first, .int .i64 p.last, .int .i64 p.share] 24)) := (Below.refl _ _).alloc (Nat.le_refl _) _
    have hk0 : Blk (w.alloc (.cells #[.string p.ins, .string p.fr, .string p.dst, .int .i64 p.sum, .int .i64 p.own, .slice p.cA p.cn p.cc, .int .i64 p.first, .int .i64 p.last, .int .i64 p.share] 24)) w.heap.size 24 #[.string p.ins, .string p.fr, .string p.dst, .int .i64 p.sum, .int .i64 p.own, .slice p.cA p.cn p.cc, .int .i64 p.first, .int .i64 p.last, .int .i64 p.share] := Blk.new _ _ _
    go_enter Try.func7, Try.ntmps7
    go_wp2_with fail
    refine (awake_any _).mono ?_
    rintro e w1 ⟨rfl, hb1⟩
    have hB1 := hB0.trans (hb1.mono hB0.size)
    have hk1 := hk0.below hb1 hk0.lt
    clear hB0 hk0 hb1
    have a0 := hk1.cell 0; have a1 := hk1.cell 1; have a2 := hk1.cell 2; have a3 := hk1.cell 3; have a4 := hk1.cell 4; have a5 := hk1.cell 5; have a6 := hk1.cell 6; have a7 := hk1.cell 7; have a8 := hk1.cell 8
    simp only [List.getElem?_toArray, List.getElem?_cons_zero, List.getElem?_cons_succ] at a0 a1 a2 a3 a4 a5 a6 a7 a8
    go_wp2_with fail
    refine (rlong_any p _).mono ?_
    rw [HL.out]
    rintro e w2 ⟨rfl, hb2⟩
    clear a0 a1 a2 a3 a4 a5 a6 a7 a8
    have hB2 := hB1.trans (hb2.mono hB1.size)
    have hk2 := hk1.below hb2 hk1.lt
    clear hB1 hk1 hb2
    have a0 := hk2.cell 0; have a1 := hk2.cell 1; have a2 := hk2.cell 2; have a3 := hk2.cell 3; have a4 := hk2.cell 4; have a5 := hk2.cell 5; have a6 := hk2.cell 6; have a7 := hk2.cell 7; have a8 := hk2.cell 8
    simp only [List.getElem?_toArray, List.getElem?_cons_zero, List.getElem?_cons_succ] at a0 a1 a2 a3 a4 a5 a6 a7 a8
    go_wp2_with fail
    refine (heavy_any A n c xs _ (HX.out.below hB2) hm).mono ?_
    rw [HH.out]
    rintro e w' ⟨rfl, rfl⟩
    go_wp2_with fail
    go_ret
    exact ⟨rfl, hB2⟩
  have HH := Lib.hid hh
  have ho' : b < a ∨ d < b := by
    rw [hl, hh] at ho
    rcases ho with h | h | h | h
    · cases h
    · omega
    · cases h
    · exact h
  clear hl hh ho
  by_cases q2 : b < a
  · have d2 : decide (b < a) = true := decide_eq_true q2
    clear ho' q2
    have HP := Lib.hid hp
    clear hp
    have hB0 : Below w.heap.size w (w.alloc (.cells #[.string p.ins, .string p.fr, .string p.dst, .int .i64 p.sum, .int .i64 p.own, .slice p.cA p.cn p.cc, .int .i64 p.first, .int .i64 p.last, .int .i64 p.share] 24)) := (Below.refl _ _).alloc (Nat.le_refl _) _
    have hk0 : Blk (w.alloc (.cells #[.string p.ins, .string p.fr, .string p.dst, .int .i64 p.sum, .int .i64 p.own, .slice p.cA p.cn p.cc, .int .i64 p.first, .int .i64 p.last, .int .i64 p.share] 24)) w.heap.size 24 #[.string p.ins, .string p.fr, .string p.dst, .int .i64 p.sum, .int .i64 p.own, .slice p.cA p.cn p.cc, .int .i64 p.first, .int .i64 p.last, .int .i64 p.share] := Blk.new _ _ _
    go_enter Try.func7, Try.ntmps7
    go_wp2_with fail
    refine (awake_any _).mono ?_
    rintro e w1 ⟨rfl, hb1⟩
    have hB1 := hB0.trans (hb1.mono hB0.size)
    have hk1 := hk0.below hb1 hk0.lt
    clear hB0 hk0 hb1
    have a0 := hk1.cell 0; have a1 := hk1.cell 1; have a2 := hk1.cell 2; have a3 := hk1.cell 3; have a4 := hk1.cell 4; have a5 := hk1.cell 5; have a6 := hk1.cell 6; have a7 := hk1.cell 7; have a8 := hk1.cell 8
    simp only [List.getElem?_toArray, List.getElem?_cons_zero, List.getElem?_cons_succ] at a0 a1 a2 a3 a4 a5 a6 a7 a8
    go_wp2_with fail
    refine (rlong_any p _).mono ?_
    rw [HL.out]
    rintro e w2 ⟨rfl, hb2⟩
    clear a0 a1 a2 a3 a4 a5 a6 a7 a8
    have hB2 := hB1.trans (hb2.mono hB1.size)
    have hk2 := hk1.below hb2 hk1.lt
    clear hB1 hk1 hb2
    have a0 := hk2.cell 0; have a1 := hk2.cell 1; have a2 := hk2.cell 2; have a3 := hk2.cell 3; have a4 := hk2.cell 4; have a5 := hk2.cell 5; have a6 := hk2.cell 6; have a7 := hk2.cell 7; have a8 := hk2.cell 8
    simp only [List.getElem?_toArray, List.getElem?_cons_zero, List.getElem?_cons_succ] at a0 a1 a2 a3 a4 a5 a6 a7 a8
    go_wp2_with fail
    refine (heavy_any A n c xs _ (HX.out.below hB2) hm).mono ?_
    rw [HH.out]
    rintro e w' ⟨rfl, rfl⟩
    go_wp2_with fail
    go_ret
    exact ⟨rfl, hB2⟩
  · have d2 : decide (b < a) = false := decide_eq_false q2
    have d3 : decide (d < b) = true := decide_eq_true (by omega)
    clear ho' q2
    have HP := Lib.hid hp
    clear hp
    have hB0 : Below w.heap.size w (w.alloc (.cells #[.string p.ins, .string p.fr, .string p.dst, .int .i64 p.sum, .int .i64 p.own, .slice p.cA p.cn p.cc, .int .i64 p.first, .int .i64 p.last, .int .i64 p.share] 24)) := (Below.refl _ _).alloc (Nat.le_refl _) _
    have hk0 : Blk (w.alloc (.cells #[.string p.ins, .string p.fr, .string p.dst, .int .i64 p.sum, .int .i64 p.own, .slice p.cA p.cn p.cc, .int .i64 p.first, .int .i64 p.last, .int .i64 p.share] 24)) w.heap.size 24 #[.string p.ins, .string p.fr, .string p.dst, .int .i64 p.sum, .int .i64 p.own, .slice p.cA p.cn p.cc, .int .i64 p.first, .int .i64 p.last, .int .i64 p.share] := Blk.new _ _ _
    go_enter Try.func7, Try.ntmps7
    go_wp2_with fail
    refine (awake_any _).mono ?_
    rintro e w1 ⟨rfl, hb1⟩
    have hB1 := hB0.trans (hb1.mono hB0.size)
    have hk1 := hk0.below hb1 hk0.lt
    clear hB0 hk0 hb1
    have a0 := hk1.cell 0; have a1 := hk1.cell 1; have a2 := hk1.cell 2; have a3 := hk1.cell 3; have a4 := hk1.cell 4; have a5 := hk1.cell 5; have a6 := hk1.cell 6; have a7 := hk1.cell 7; have a8 := hk1.cell 8
    simp only [List.getElem?_toArray, List.getElem?_cons_zero, List.getElem?_cons_succ] at a0 a1 a2 a3 a4 a5 a6 a7 a8
    go_wp2_with fail
    refine (rlong_any p _).mono ?_
    rw [HL.out]
    rintro e w2 ⟨rfl, hb2⟩
    clear a0 a1 a2 a3 a4 a5 a6 a7 a8
    have hB2 := hB1.trans (hb2.mono hB1.size)
    have hk2 := hk1.below hb2 hk1.lt
    clear hB1 hk1 hb2
    have a0 := hk2.cell 0; have a1 := hk2.cell 1; have a2 := hk2.cell 2; have a3 := hk2.cell 3; have a4 := hk2.cell 4; have a5 := hk2.cell 5; have a6 := hk2.cell 6; have a7 := hk2.cell 7; have a8 := hk2.cell 8
    simp only [List.getElem?_toArray, List.getElem?_cons_zero, List.getElem?_cons_succ] at a0 a1 a2 a3 a4 a5 a6 a7 a8
    go_wp2_with fail
    refine (heavy_any A n c xs _ (HX.out.below hB2) hm).mono ?_
    rw [HH.out]
    rintro e w' ⟨rfl, rfl⟩
    go_wp2_with fail
    go_ret
    exact ⟨rfl, hB2⟩
set_option maxRecDepth 100000 in
set_option maxHeartbeats 6400000 in
theorem days_in (p : Pol) (A : Option Addr) (n c : Nat) (xs : List Hd) (cause a b d : Int) (w : World) (hp : p.ok w) (hx : SliceOf w 5 hdC A n xs) (hnc : n ≤ c) (hcm : c ≤ maxLen) (hl : longB p = false) (h30 : n ≤ 30) (hh : heavyB xs = false) (hab : a ≤ b) (hbd : b ≤ d) : Calls Try.prog 7 #[.agg #[.string p.ins, .string p.fr, .string p.dst, .int .i64 p.sum, .int .i64 p.own, .slice p.cA p.cn p.cc, .int .i64 p.first, .int .i64 p.last, .int .i64 p.share], .slice A n c, .int .i64 cause, .int .i64 a, .int .i64 b, .int .i64 d] w fun e w' => e = .returned (.bool true) ∧ Below w.heap.size w w' := by
  have HX := Lib.hid hx
  have hxl := hx.len
  have hm : n ≤ maxLen := by omega
  have h40 : n ≤ 1000 := by omega
  have HL := Lib.hid hl
  have HH := Lib.hid hh
  have n1 : covB p xs cause (wrap64 (p.first - 1)) = false := by
    cases hy : mayP p
    · exact cov_may p xs cause _ hy
    · obtain ⟨_, _, _, h4, h5, _⟩ := may_iff hy
      exact cov_first p xs cause _ (by unfold wrap64; omega)
  have n2 : covB p xs cause (wrap64 (p.last + 1)) = false := by
    cases hy : mayP p
    · exact cov_may p xs cause _ hy
    · obtain ⟨_, _, _, h4, h5, _⟩ := may_iff hy
      exact cov_last p xs cause _ (by unfold wrap64; omega)
  have N1 := Lib.hid n1; have N2 := Lib.hid n2
  have d1 : decide ((30 : Int) < (n : Int)) = false := decide_eq_false (by omega)
  have d1' : decide (30 < n) = false := decide_eq_false (by omega)
  have d2 : decide (b < a) = false := decide_eq_false (by omega)
  have d3 : decide (d < b) = false := decide_eq_false (by omega)
  have HAB := Lib.hid hab; have HBD := Lib.hid hbd
  clear hx hl hh n1 n2 hab hbd
  cases ca : covB p xs cause a
  · have CA := Lib.hid ca
    clear ca
    have HP := Lib.hid hp
    clear hp
    have hB0 : Below w.heap.size w (w.alloc (.cells #[.string p.ins, .string p.fr, .string p.dst, .int .i64 p.sum, .int .i64 p.own, .slice p.cA p.cn p.cc, .int .i64 p.first, .int .i64 p.last, .int .i64 p.share] 24)) := (Below.refl _ _).alloc (Nat.le_refl _) _
    have hk0 : Blk (w.alloc (.cells #[.string p.ins, .string p.fr, .string p.dst, .int .i64 p.sum, .int .i64 p.own, .slice p.cA p.cn p.cc, .int .i64 p.first, .int .i64 p.last, .int .i64 p.share] 24)) w.heap.size 24 #[.string p.ins, .string p.fr, .string p.dst, .int .i64 p.sum, .int .i64 p.own, .slice p.cA p.cn p.cc, .int .i64 p.first, .int .i64 p.last, .int .i64 p.share] := Blk.new _ _ _
    go_enter Try.func7, Try.ntmps7
    go_wp2_with fail
    refine (awake_any _).mono ?_
    rintro e w1 ⟨rfl, hb1⟩
    have hB1 := hB0.trans (hb1.mono hB0.size)
    have hk1 := hk0.below hb1 hk0.lt
    clear hB0 hk0 hb1
    have a0 := hk1.cell 0; have a1 := hk1.cell 1; have a2 := hk1.cell 2; have a3 := hk1.cell 3; have a4 := hk1.cell 4; have a5 := hk1.cell 5; have a6 := hk1.cell 6; have a7 := hk1.cell 7; have a8 := hk1.cell 8
    simp only [List.getElem?_toArray, List.getElem?_cons_zero, List.getElem?_cons_succ] at a0 a1 a2 a3 a4 a5 a6 a7 a8
    go_wp2_with fail
    refine (rlong_any p _).mono ?_
    rw [HL.out]
    rintro e w2 ⟨rfl, hb2⟩
    clear a0 a1 a2 a3 a4 a5 a6 a7 a8
    have hB2 := hB1.trans (hb2.mono hB1.size)
    have hk2 := hk1.below hb2 hk1.lt
    clear hB1 hk1 hb2
    have a0 := hk2.cell 0; have a1 := hk2.cell 1; have a2 := hk2.cell 2; have a3 := hk2.cell 3; have a4 := hk2.cell 4; have a5 := hk2.cell 5; have a6 := hk2.cell 6; have a7 := hk2.cell 7; have a8 := hk2.cell 8
    simp only [List.getElem?_toArray, List.getElem?_cons_zero, List.getElem?_cons_succ] at a0 a1 a2 a3 a4 a5 a6 a7 a8
    go_wp2_with fail
    refine (heavy_any A n c xs _ (HX.out.below hB2) hm).mono ?_
    rw [HH.out]
    rintro e w' ⟨rfl, rfl⟩
    go_wp2_with fail
    refine (covers_any p A n c xs cause a _ (HP.out.below hB2) (HX.out.below hB2) h40 hnc hcm).mono ?_
    rw [CA.out]
    rintro e w3 ⟨rfl, hb3⟩
    clear a0 a1 a2 a3 a4 a5 a6 a7 a8
    have hB3 := hB2.trans (hb3.mono hB2.size)
    have hk3 := hk2.below hb3 hk2.lt
    clear hB2 hk2 hb3
    have a0 := hk3.cell 0; have a1 := hk3.cell 1; have a2 := hk3.cell 2; have a3 := hk3.cell 3; have a4 := hk3.cell 4; have a5 := hk3.cell 5; have a6 := hk3.cell 6; have a7 := hk3.cell 7; have a8 := hk3.cell 8
    simp only [List.getElem?_toArray, List.getElem?_cons_zero, List.getElem?_cons_succ] at a0 a1 a2 a3 a4 a5 a6 a7 a8
    go_wp2_with fail
    refine (covers_any p A n c xs cause (wrap64 (p.first - 1)) _ (HP.out.below hB3) (HX.out.below hB3) h40 hnc hcm).mono ?_
    rw [N1.out]
    rintro e w4 ⟨rfl, hb4⟩
    clear a0 a1 a2 a3 a4 a5 a6 a7 a8
    have hB4 := hB3.trans (hb4.mono hB3.size)
    have hk4 := hk3.below hb4 hk3.lt
    clear hB3 hk3 hb4
    have a0 := hk4.cell 0; have a1 := hk4.cell 1; have a2 := hk4.cell 2; have a3 := hk4.cell 3; have a4 := hk4.cell 4; have a5 := hk4.cell 5; have a6 := hk4.cell 6; have a7 := hk4.cell 7; have a8 := hk4.cell 8
    simp only [List.getElem?_toArray, List.getElem?_cons_zero, List.getElem?_cons_succ] at a0 a1 a2 a3 a4 a5 a6 a7 a8
    go_wp2_with fail
    refine (covers_any p A n c xs cause (wrap64 (p.last + 1)) _ (HP.out.below hB4) (HX.out.below hB4) h40 hnc hcm).mono ?_
    rw [N2.out]
    rintro e w5 ⟨rfl, hb5⟩
    clear a0 a1 a2 a3 a4 a5 a6 a7 a8
    have hB5 := hB4.trans (hb5.mono hB4.size)
    have hk5 := hk4.below hb5 hk4.lt
    clear hB4 hk4 hb5
    have a0 := hk5.cell 0; have a1 := hk5.cell 1; have a2 := hk5.cell 2; have a3 := hk5.cell 3; have a4 := hk5.cell 4; have a5 := hk5.cell 5; have a6 := hk5.cell 6; have a7 := hk5.cell 7; have a8 := hk5.cell 8
    simp only [List.getElem?_toArray, List.getElem?_cons_zero, List.getElem?_cons_succ] at a0 a1 a2 a3 a4 a5 a6 a7 a8
    go_wp2_with fail
    go_ret
    exact ⟨rfl, hB5⟩
  have CA := Lib.hid ca
  cases cd : covB p xs cause d
  · have CD := Lib.hid cd
    clear ca cd
    have HP := Lib.hid hp
    clear hp
    have hB0 : Below w.heap.size w (w.alloc (.cells #[.string p.ins, .string p.fr, .string p.dst, .int .i64 p.sum, .int .i64 p.own, .slice p.cA p.cn p.cc, .int .i64 p.first, .int .i64 p.last, .int .i64 p.share] 24)) := (Below.refl _ _).alloc (Nat.le_refl _) _
    have hk0 : Blk (w.alloc (.cells #[.string p.ins, .string p.fr, .string p.dst, .int .i64 p.sum, .int .i64 p.own, .slice p.cA p.cn p.cc, .int .i64 p.first, .int .i64 p.last, .int .i64 p.share] 24)) w.heap.size 24 #[.string p.ins, .string p.fr, .string p.dst, .int .i64 p.sum, .int .i64 p.own, .slice p.cA p.cn p.cc, .int .i64 p.first, .int .i64 p.last, .int .i64 p.share] := Blk.new _ _ _
    go_enter Try.func7, Try.ntmps7
    go_wp2_with fail
    refine (awake_any _).mono ?_
    rintro e w1 ⟨rfl, hb1⟩
    have hB1 := hB0.trans (hb1.mono hB0.size)
    have hk1 := hk0.below hb1 hk0.lt
    clear hB0 hk0 hb1
    have a0 := hk1.cell 0; have a1 := hk1.cell 1; have a2 := hk1.cell 2; have a3 := hk1.cell 3; have a4 := hk1.cell 4; have a5 := hk1.cell 5; have a6 := hk1.cell 6; have a7 := hk1.cell 7; have a8 := hk1.cell 8
    simp only [List.getElem?_toArray, List.getElem?_cons_zero, List.getElem?_cons_succ] at a0 a1 a2 a3 a4 a5 a6 a7 a8
    go_wp2_with fail
    refine (rlong_any p _).mono ?_
    rw [HL.out]
    rintro e w2 ⟨rfl, hb2⟩
    clear a0 a1 a2 a3 a4 a5 a6 a7 a8
    have hB2 := hB1.trans (hb2.mono hB1.size)
    have hk2 := hk1.below hb2 hk1.lt
    clear hB1 hk1 hb2
    have a0 := hk2.cell 0; have a1 := hk2.cell 1; have a2 := hk2.cell 2; have a3 := hk2.cell 3; have a4 := hk2.cell 4; have a5 := hk2.cell 5; have a6 := hk2.cell 6; have a7 := hk2.cell 7; have a8 := hk2.cell 8
    simp only [List.getElem?_toArray, List.getElem?_cons_zero, List.getElem?_cons_succ] at a0 a1 a2 a3 a4 a5 a6 a7 a8
    go_wp2_with fail
    refine (heavy_any A n c xs _ (HX.out.below hB2) hm).mono ?_
    rw [HH.out]
    rintro e w' ⟨rfl, rfl⟩
    go_wp2_with fail
    refine (covers_any p A n c xs cause a _ (HP.out.below hB2) (HX.out.below hB2) h40 hnc hcm).mono ?_
    rw [CA.out]
    rintro e w3 ⟨rfl, hb3⟩
    clear a0 a1 a2 a3 a4 a5 a6 a7 a8
    have hB3 := hB2.trans (hb3.mono hB2.size)
    have hk3 := hk2.below hb3 hk2.lt
    clear hB2 hk2 hb3
    have a0 := hk3.cell 0; have a1 := hk3.cell 1; have a2 := hk3.cell 2; have a3 := hk3.cell 3; have a4 := hk3.cell 4; have a5 := hk3.cell 5; have a6 := hk3.cell 6; have a7 := hk3.cell 7; have a8 := hk3.cell 8
    simp only [List.getElem?_toArray, List.getElem?_cons_zero, List.getElem?_cons_succ] at a0 a1 a2 a3 a4 a5 a6 a7 a8
    go_wp2_with fail
    refine (covers_any p A n c xs cause d _ (HP.out.below hB3) (HX.out.below hB3) h40 hnc hcm).mono ?_
    rw [CD.out]
    rintro e w4 ⟨rfl, hb4⟩
    clear a0 a1 a2 a3 a4 a5 a6 a7 a8
    have hB4 := hB3.trans (hb4.mono hB3.size)
    have hk4 := hk3.below hb4 hk3.lt
    clear hB3 hk3 hb4
    have a0 := hk4.cell 0; have a1 := hk4.cell 1; have a2 := hk4.cell 2; have a3 := hk4.cell 3; have a4 := hk4.cell 4; have a5 := hk4.cell 5; have a6 := hk4.cell 6; have a7 := hk4.cell 7; have a8 := hk4.cell 8
    simp only [List.getElem?_toArray, List.getElem?_cons_zero, List.getElem?_cons_succ] at a0 a1 a2 a3 a4 a5 a6 a7 a8
    go_wp2_with fail
    refine (covers_any p A n c xs cause (wrap64 (p.first - 1)) _ (HP.out.below hB4) (HX.out.below hB4) h40 hnc hcm).mono ?_
    rw [N1.out]
    rintro e w5 ⟨rfl, hb5⟩
    clear a0 a1 a2 a3 a4 a5 a6 a7 a8
    have hB5 := hB4.trans (hb5.mono hB4.size)
    have hk5 := hk4.below hb5 hk4.lt
    clear hB4 hk4 hb5
    have a0 := hk5.cell 0; have a1 := hk5.cell 1; have a2 := hk5.cell 2; have a3 := hk5.cell 3; have a4 := hk5.cell 4; have a5 := hk5.cell 5; have a6 := hk5.cell 6; have a7 := hk5.cell 7; have a8 := hk5.cell 8
    simp only [List.getElem?_toArray, List.getElem?_cons_zero, List.getElem?_cons_succ] at a0 a1 a2 a3 a4 a5 a6 a7 a8
    go_wp2_with fail
    refine (covers_any p A n c xs cause (wrap64 (p.last + 1)) _ (HP.out.below hB5) (HX.out.below hB5) h40 hnc hcm).mono ?_
    rw [N2.out]
    rintro e w6 ⟨rfl, hb6⟩
    clear a0 a1 a2 a3 a4 a5 a6 a7 a8
    have hB6 := hB5.trans (hb6.mono hB5.size)
    have hk6 := hk5.below hb6 hk5.lt
    clear hB5 hk5 hb6
    have a0 := hk6.cell 0; have a1 := hk6.cell 1; have a2 := hk6.cell 2; have a3 := hk6.cell 3; have a4 := hk6.cell 4; have a5 := hk6.cell 5; have a6 := hk6.cell 6; have a7 := hk6.cell 7; have a8 := hk6.cell 8
    simp only [List.getElem?_toArray, List.getElem?_cons_zero, List.getElem?_cons_succ] at a0 a1 a2 a3 a4 a5 a6 a7 a8
    go_wp2_with fail
    go_ret
    exact ⟨rfl, hB6⟩
  have CD := Lib.hid cd
  have CB := Lib.hid (cov_between HAB.out HBD.out ca cd)
  clear ca cd
  have HP := Lib.hid hp
  clear hp
  have hB0 : Below w.heap.size w (w.alloc (.cells #[.string p.ins, .string p.fr, .string p.dst, .int .i64 p.sum, .int .i64 p.own, .slice p.cA p.cn p.cc, .int .i64 p.first, .int .i64 p.last, .int .i64 p.share] 24)) := (Below.refl _ _).alloc (Nat.le_refl _) _
  have hk0 : Blk (w.alloc (.cells #[.string p.ins, .string p.fr, .string p.dst, .int .i64 p.sum, .int .i64 p.own, .slice p.cA p.cn p.cc, .int .i64 p.first, .int .i64 p.last, .int .i64 p.share] 24)) w.heap.size 24 #[.string p.ins, .string p.fr, .string p.dst, .int .i64 p.sum, .int .i64 p.own, .slice p.cA p.cn p.cc, .int .i64 p.first, .int .i64 p.last, .int .i64 p.share] := Blk.new _ _ _
  go_enter Try.func7, Try.ntmps7
  go_wp2_with fail
  refine (awake_any _).mono ?_
  rintro e w1 ⟨rfl, hb1⟩
  have hB1 := hB0.trans (hb1.mono hB0.size)
  have hk1 := hk0.below hb1 hk0.lt
  clear hB0 hk0 hb1
  have a0 := hk1.cell 0; have a1 := hk1.cell 1; have a2 := hk1.cell 2; have a3 := hk1.cell 3; have a4 := hk1.cell 4; have a5 := hk1.cell 5; have a6 := hk1.cell 6; have a7 := hk1.cell 7; have a8 := hk1.cell 8
  simp only [List.getElem?_toArray, List.getElem?_cons_zero, List.getElem?_cons_succ] at a0 a1 a2 a3 a4 a5 a6 a7 a8
  go_wp2_with fail
  refine (rlong_any p _).mono ?_
  rw [HL.out]
  rintro e w2 ⟨rfl, hb2⟩
  clear a0 a1 a2 a3 a4 a5 a6 a7 a8
  have hB2 := hB1.trans (hb2.mono hB1.size)
  have hk2 := hk1.below hb2 hk1.lt
  clear hB1 hk1 hb2
  have a0 := hk2.cell 0; have a1 := hk2.cell 1; have a2 := hk2.cell 2; have a3 := hk2.cell 3; have a4 := hk2.cell 4; have a5 := hk2.cell 5; have a6 := hk2.cell 6; have a7 := hk2.cell 7; have a8 := hk2.cell 8
  simp only [List.getElem?_toArray, List.getElem?_cons_zero, List.getElem?_cons_succ] at a0 a1 a2 a3 a4 a5 a6 a7 a8
  go_wp2_with fail
  refine (heavy_any A n c xs _ (HX.out.below hB2) hm).mono ?_
  rw [HH.out]
  rintro e w' ⟨rfl, rfl⟩
  go_wp2_with fail
  refine (covers_any p A n c xs cause a _ (HP.out.below hB2) (HX.out.below hB2) h40 hnc hcm).mono ?_
  rw [CA.out]
  rintro e w3 ⟨rfl, hb3⟩
  clear a0 a1 a2 a3 a4 a5 a6 a7 a8
  have hB3 := hB2.trans (hb3.mono hB2.size)
  have hk3 := hk2.below hb3 hk2.lt
  clear hB2 hk2 hb3
  have a0 := hk3.cell 0; have a1 := hk3.cell 1; have a2 := hk3.cell 2; have a3 := hk3.cell 3; have a4 := hk3.cell 4; have a5 := hk3.cell 5; have a6 := hk3.cell 6; have a7 := hk3.cell 7; have a8 := hk3.cell 8
  simp only [List.getElem?_toArray, List.getElem?_cons_zero, List.getElem?_cons_succ] at a0 a1 a2 a3 a4 a5 a6 a7 a8
  go_wp2_with fail
  refine (covers_any p A n c xs cause d _ (HP.out.below hB3) (HX.out.below hB3) h40 hnc hcm).mono ?_
  rw [CD.out]
  rintro e w4 ⟨rfl, hb4⟩
  clear a0 a1 a2 a3 a4 a5 a6 a7 a8
  have hB4 := hB3.trans (hb4.mono hB3.size)
  have hk4 := hk3.below hb4 hk3.lt
  clear hB3 hk3 hb4
  have a0 := hk4.cell 0; have a1 := hk4.cell 1; have a2 := hk4.cell 2; have a3 := hk4.cell 3; have a4 := hk4.cell 4; have a5 := hk4.cell 5; have a6 := hk4.cell 6; have a7 := hk4.cell 7; have a8 := hk4.cell 8
  simp only [List.getElem?_toArray, List.getElem?_cons_zero, List.getElem?_cons_succ] at a0 a1 a2 a3 a4 a5 a6 a7 a8
  go_wp2_with fail
  refine (covers_any p A n c xs cause b _ (HP.out.below hB4) (HX.out.below hB4) h40 hnc hcm).mono ?_
  rw [CB.out]
  rintro e w5 ⟨rfl, hb5⟩
  clear a0 a1 a2 a3 a4 a5 a6 a7 a8
  have hB5 := hB4.trans (hb5.mono hB4.size)
  have hk5 := hk4.below hb5 hk4.lt
  clear hB4 hk4 hb5
  have a0 := hk5.cell 0; have a1 := hk5.cell 1; have a2 := hk5.cell 2; have a3 := hk5.cell 3; have a4 := hk5.cell 4; have a5 := hk5.cell 5; have a6 := hk5.cell 6; have a7 := hk5.cell 7; have a8 := hk5.cell 8
  simp only [List.getElem?_toArray, List.getElem?_cons_zero, List.getElem?_cons_succ] at a0 a1 a2 a3 a4 a5 a6 a7 a8
  go_wp2_with fail
  refine (covers_any p A n c xs cause (wrap64 (p.first - 1)) _ (HP.out.below hB5) (HX.out.below hB5) h40 hnc hcm).mono ?_
  rw [N1.out]
  rintro e w6 ⟨rfl, hb6⟩
  clear a0 a1 a2 a3 a4 a5 a6 a7 a8
  have hB6 := hB5.trans (hb6.mono hB5.size)
  have hk6 := hk5.below hb6 hk5.lt
  clear hB5 hk5 hb6
  have a0 := hk6.cell 0; have a1 := hk6.cell 1; have a2 := hk6.cell 2; have a3 := hk6.cell 3; have a4 := hk6.cell 4; have a5 := hk6.cell 5; have a6 := hk6.cell 6; have a7 := hk6.cell 7; have a8 := hk6.cell 8
  simp only [List.getElem?_toArray, List.getElem?_cons_zero, List.getElem?_cons_succ] at a0 a1 a2 a3 a4 a5 a6 a7 a8
  go_wp2_with fail
  refine (covers_any p A n c xs cause (wrap64 (p.last + 1)) _ (HP.out.below hB6) (HX.out.below hB6) h40 hnc hcm).mono ?_
  rw [N2.out]
  rintro e w7 ⟨rfl, hb7⟩
  clear a0 a1 a2 a3 a4 a5 a6 a7 a8
  have hB7 := hB6.trans (hb7.mono hB6.size)
  have hk7 := hk6.below hb7 hk6.lt
  clear hB6 hk6 hb7
  have a0 := hk7.cell 0; have a1 := hk7.cell 1; have a2 := hk7.cell 2; have a3 := hk7.cell 3; have a4 := hk7.cell 4; have a5 := hk7.cell 5; have a6 := hk7.cell 6; have a7 := hk7.cell 7; have a8 := hk7.cell 8
  simp only [List.getElem?_toArray, List.getElem?_cons_zero, List.getElem?_cons_succ] at a0 a1 a2 a3 a4 a5 a6 a7 a8
  go_wp2_with fail
  go_ret
  exact ⟨rfl, hB7⟩
theorem policyDays_walk (p : Pol) (A : Option Addr) (n c : Nat) (xs : List Hd) (cause a b d : Int) (w : World) (hp : p.ok w) (hx : SliceOf w 5 hdC A n xs) (hnc : n ≤ c) (hcm : c ≤ maxLen) : Calls Try.prog 7 #[.agg #[.string p.ins, .string p.fr, .string p.dst, .int .i64 p.sum, .int .i64 p.own, .slice p.cA p.cn p.cc, .int .i64 p.first, .int .i64 p.last, .int .i64 p.share], .slice A n c, .int .i64 cause, .int .i64 a, .int .i64 b, .int .i64 d] w fun e w' => e = .returned (.bool true) ∧ Below w.heap.size w w' := by
  by_cases h : longB p = true ∨ 30 < n ∨ heavyB xs = true ∨ b < a ∨ d < b
  · exact days_out p A n c xs cause a b d w hp hx hnc hcm h
  · have h1 : longB p = false := by
      cases e : longB p
      · rfl
      · exact absurd (.inl e) h
    have h2 : heavyB xs = false := by
      cases e : heavyB xs
      · rfl
      · exact absurd (.inr (.inr (.inl e))) h
    have h3 : ¬ 30 < n := fun e => h (.inr (.inl e))
    have h4 : ¬ b < a := fun e => h (.inr (.inr (.inr (.inl e))))
    have h5 : ¬ d < b := fun e => h (.inr (.inr (.inr (.inr e))))
    exact days_in p A n c xs cause a b d w hp hx hnc hcm h1 (by omega) h2 (by omega) (by omega)
end Go.Proofs.Ytembipmficppnaa
