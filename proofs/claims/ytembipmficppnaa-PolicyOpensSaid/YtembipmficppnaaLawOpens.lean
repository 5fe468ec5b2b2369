/- PolicyOpens: the law. No condition. -/
import Derived.Test.YtembipmficppnaaOpG
import Derived.Test.YtembipmficppnaaOpR
import Derived.Test.YtembipmficppnaaRPays
import Derived.Test.YtembipmficppnaaMore
namespace Go.Proofs.Ytembipmficppnaa
open Go.RowKit Go.Proofs.Ytembipmficppnaa.kit
set_option linter.unusedVariables false

set_option maxRecDepth 100000 in
set_option maxHeartbeats 6400000 in
theorem opens_out (p : Pol) (A : Option Addr) (n c : Nat) (xs : List Dr) (at_ : Int) (w : World) (hp : p.ok w) (hx : SliceOf w 2 drC A n xs) (hnc : n ≤ c) (hcm : c ≤ maxLen) (ho : longB p = true ∨ 60 < n ∨ at_ < 0 ∨ (n : Int) < at_) : Calls Try.prog 8 #[.agg #[.string p.ins, .string p.fr, .string p.dst, .int .i64 p.sum, .int .i64 p.own, .slice p.cA p.cn p.cc, .int .i64 p.first, .int .i64 p.last, .int .i64 p.share], .slice A n c, .int .i64 at_] w fun e w' => e = .returned (.bool true) ∧ Below w.heap.size w w' := by
  cases hl : longB p
  rotate_left
  · have HL := Lib.hid hl
    clear hl ho
    have HP := Lib.hid hp
    clear hp
    have hB0 : Below w.heap.size w (w.alloc (.cells #[.string p.ins, .string p.fr, .string p.dst, .int .i64 p.sum, .int .i64 p.own, .slice p.cA p.cn p.cc, .int .i64 p.first, .int .i64 p.last, .int .i64 p.share] 24)) := (Below.refl _ _).alloc (Nat.le_refl _) _
    have hk0 : Blk (w.alloc (.cells #[.string p.ins, .string p.fr, .string p.dst, .int .i64 p.sum, .int .i64 p.own, .slice p.cA p.cn p.cc, .int .i64 p.first, .int .i64 p.last, .int .i64 p.share] 24)) w.heap.size 24 #[.string p.ins, .string p.fr, .string p.dst, .int .i64 p.sum, .int .i64 p.own, .slice p.cA p.cn p.cc, .int .i64 p.first, .int .i64 p.last, .int .i64 p.share] := Blk.new _ _ _
    go_enter Try.func8, Try.ntmps8
    go_wp2_with fail
    refine (awake_any _).mono ?_
    rintro e w1 ⟨rfl, hb1⟩
    have hB1 := hB0.trans (hb1.mono hB0.size)
    have hk1 := hk0.below hb1 hk0.lt
    clear hB0 hk0 hb1
    have a0 := hk1.cell 0; have a1 := hk1.cell 1; have a2 := hk1.cell 2; have a3 := hk1.cell 3; have a4 := hk1.cell 4; have a5 := hk1.cell 5; have a6 := hk1.cell 6; have a7 := hk1.cell 7; have a8 := hk1.cell 8
    simp only [List.getElem?_toArray, List.getElem?_cons_zero, List.getElem?_cons_succ] at a0 a1 a2 a3 a4 a5 a6 a7 a8
    go_wp2_with fail
    refine (rlong_any p _).mono ?_
    rw [HL.out]
    rintro e w2 ⟨rfl, hb2⟩
    clear a0 a1 a2 a3 a4 a5 a6 a7 a8
    have hB2 := hB1.trans (hb2.mono hB1.size)
    have hk2 := hk1.below hb2 hk1.lt
    clear hB1 hk1 hb2
    have a0 := hk2.cell 0; have a1 := hk2.cell 1; have a2 := hk2.cell 2; have a3 := hk2.cell 3; have a4 := hk2.cell 4; have a5 := hk2.cell 5; have a6 := hk2.cell 6; have a7 := hk2.cell 7; have a8 := hk2.cell 8
    simp only [List.getElem?_toArray, List.getElem?_cons_zero, List.getElem?_cons_succ] at a0 a1 a2 a3 a4 a5 a6 a7 a8
    go_wp2_with fail
    go_ret
    exact ⟨rfl, hB2⟩
  have HL := Lib.hid hl
  by_cases q1 : 60 < n
  · have d1 : decide ((60 : Int) < (n : Int)) = true := decide_eq_true (by omega)
    have d1' : decide (60 < n) = true := decide_eq_true q1
    clear hl ho
    have HP := Lib.hid hp
    clear hp
    have hB0 : Below w.heap.size w (w.alloc (.cells #[.string p.ins, .string p.fr, .string p.dst, .int .i64 p.sum, .int .i64 p.own, .slice p.cA p.cn p.cc, .int .i64 p.first, .int .i64 p.last, .int .i64 p.share] 24)) := (Below.refl _ _).alloc (Nat.le_refl _) _
    have hk0 : Blk (w.alloc (.cells #[.string p.ins, .string p.fr, .string p.dst, .int .i64 p.sum, .int .i64 p.own, .slice p.cA p.cn p.cc, .int .i64 p.first, .int .i64 p.last, .int .i64 p.share] 24)) w.heap.size 24 #[.string p.ins, .string p.fr, .string p.dst, .int .i64 p.sum, .int .i64 p.own, .slice p.cA p.cn p.cc, .int .i64 p.first, .int .i64 p.last, .int .i64 p.share] := Blk.new _ _ _
    go_enter Try.func8, Try.ntmps8
    go_wp2_with fail
    refine (awake_any _).mono ?_
    rintro e w1 ⟨rfl, hb1⟩
    have hB1 := hB0.trans (hb1.mono hB0.size)
    have hk1 := hk0.below hb1 hk0.lt
    clear hB0 hk0 hb1
    have a0 := hk1.cell 0; have a1 := hk1.cell 1; have a2 := hk1.cell 2; have a3 := hk1.cell 3; have a4 := hk1.cell 4; have a5 := hk1.cell 5; have a6 := hk1.cell 6; have a7 := hk1.cell 7; have a8 := hk1.cell 8
    simp only [List.getElem?_toArray, List.getElem?_cons_zero, List.getElem?_cons_succ] at a0 a1 a2 a3 a4 a5 a6 a7 a8
    go_wp2_with fail
    refine (rlong_any p _).mono ?_
    rw [HL.out]
    rintro e w2 ⟨rfl, hb2⟩
    clear a0 a1 a2 a3 a4 a5 a6 a7 a8
    have hB2 := hB1.trans (hb2.mono hB1.size)
    have hk2 := hk1.below hb2 hk1.lt
    clear hB1 hk1 hb2
    have a0 := hk2.cell 0; have a1 := hk2.cell 1; have a2 := hk2.cell 2; have a3 := hk2.cell 3; have a4 := hk2.cell 4; have a5 := hk2.cell 5; have a6 := hk2.cell 6; have a7 := hk2.cell 7; have a8 := hk2.cell 8
    simp only [List.getElem?_toArray, List.getElem?_cons_zero, List.getElem?_cons_succ] at a0 a1 a2 a3 a4 a5 a6 a7 a8
    go_wp2_with fail
    go_ret
    exact ⟨rfl, hB2⟩
  have d1 : decide ((60 : Int) < (n : Int)) = false := decide_eq_false (by omega)
  have d1' : decide (60 < n) = false := decide_eq_false q1
  by_cases q2 : at_ < 0
  · have d2 : decide (at_ < 0) = true := decide_eq_true q2
    clear hl ho
    have HP := Lib.hid hp
    clear hp
    have hB0 : Below w.heap.size w (w.alloc (.cells #[.string p.ins, .string p.fr, .string p.dst, .int .i64 p.sum, .int .i64 p.own, .slice p.cA p.cn p.cc, .int .i64 p.first, .int .i64 p.last, .int .i64 p.share] 24)) := (Below.refl _ _).alloc (Nat.le_refl _) _
    have hk0 : Blk (w.alloc (.cells #[.string p.ins, .string p.fr, .string p.dst, .int .i64 p.sum, .int .i64 p.own, .slice p.cA p.cn p.cc, .int .i64 p.first, .int .i64 p.last, .int .i64 p.share] 24)) w.heap.size 24 #[.string p.ins, .string p.fr, .string p.dst, .int .i64 p.sum, .int .i64 p.own, .slice p.cA p.cn p.cc, .int .i64 p.first, .int .i64 p.last, .int .i64 p.share] := Blk.new _ _ _
    go_enter Try.func8, Try.ntmps8
    go_wp2_with fail
    refine (awake_any _).mono ?_
    rintro e w1 ⟨rfl, hb1⟩
    have hB1 := hB0.trans (hb1.mono hB0.size)
    have hk1 := hk0.below hb1 hk0.lt
    clear hB0 hk0 hb1
    have a0 := hk1.cell 0; have a1 := hk1.cell 1; have a2 := hk1.cell 2; have a3 := hk1.cell 3; have a4 := hk1.cell 4; have a5 := hk1.cell 5; have a6 := hk1.cell 6; have a7 := hk1.cell 7; have a8 := hk1.cell 8
    simp only [List.getElem?_toArray, List.getElem?_cons_zero, List.getElem?_cons_succ] at a0 a1 a2 a3 a4 a5 a6 a7 a8
    go_wp2_with fail
    refine (rlong_any p _).mono ?_
    rw [HL.out]
    rintro e w2 ⟨rfl, hb2⟩
    clear a0 a1 a2 a3 a4 a5 a6 a7 a8
    have hB2 := hB1.trans (hb2.mono hB1.size)
    have hk2 := hk1.below hb2 hk1.lt
    clear hB1 hk1 hb2
    have a0 := hk2.cell 0; have a1 := hk2.cell 1; have a2 := hk2.cell 2; have a3 := hk2.cell 3; have a4 := hk2.cell 4; have a5 := hk2.cell 5; have a6 := hk2.cell 6; have a7 := hk2.cell 7; have a8 := hk2.cell 8
    simp only [List.getElem?_toArray, List.getElem?_cons_zero, List.getElem?_cons_succ] at a0 a1 a2 a3 a4 a5 a6 a7 a8
    go_wp2_with fail
    go_ret
    exact ⟨rfl, hB2⟩
  have d2 : decide (at_ < 0) = false := decide_eq_false q2
  have q3 : (n : Int) < at_ := by
    rcases ho with h | h | h | h
    · rw [hl] at h; simp at h
    · omega
    · omega
    · exact h
  have d3 : decide ((n : Int) < at_) = true := decide_eq_true q3
  clear hl ho
  have HP := Lib.hid hp
  clear hp
  have hB0 : Below w.heap.size w (w.alloc (.cells #[.string p.ins, .string p.fr, .string p.dst, .int .i64 p.sum, .int .i64 p.own, .slice p.cA p.cn p.cc, .int .i64 p.first, .int .i64 p.last, .int .i64 p.share] 24)) := (Below.refl _ _).alloc (Nat.le_refl _) _
  have hk0 : Blk (w.alloc (.cells #[.string p.ins, .string p.fr, .string p.dst, .int .i64 p.sum, .int .i64 p.own, .slice p.cA p.cn p.cc, .int .i64 p.first, .int .i64 p.last, .int .i64 p.share] 24)) w.heap.size 24 #[.string p.ins, .string p.fr, .string p.dst, .int .i64 p.sum, .int .i64 p.own, .slice p.cA p.cn p.cc, .int .i64 p.first, .int .i64 p.last, .int .i64 p.share] := Blk.new _ _ _
  go_enter Try.func8, Try.ntmps8
  go_wp2_with fail
  refine (awake_any _).mono ?_
  rintro e w1 ⟨rfl, hb1⟩
  have hB1 := hB0.trans (hb1.mono hB0.size)
  have hk1 := hk0.below hb1 hk0.lt
  clear hB0 hk0 hb1
  have a0 := hk1.cell 0; have a1 := hk1.cell 1; have a2 := hk1.cell 2; have a3 := hk1.cell 3; have a4 := hk1.cell 4; have a5 := hk1.cell 5; have a6 := hk1.cell 6; have a7 := hk1.cell 7; have a8 := hk1.cell 8
  simp only [List.getElem?_toArray, List.getElem?_cons_zero, List.getElem?_cons_succ] at a0 a1 a2 a3 a4 a5 a6 a7 a8
  go_wp2_with fail
  refine (rlong_any p _).mono ?_
  rw [HL.out]
  rintro e w2 ⟨rfl, hb2⟩
  clear a0 a1 a2 a3 a4 a5 a6 a7 a8
  have hB2 := hB1.trans (hb2.mono hB1.size)
  have hk2 := hk1.below hb2 hk1.lt
  clear hB1 hk1 hb2
  have a0 := hk2.cell 0; have a1 := hk2.cell 1; have a2 := hk2.cell 2; have a3 := hk2.cell 3; have a4 := hk2.cell 4; have a5 := hk2.cell 5; have a6 := hk2.cell 6; have a7 := hk2.cell 7; have a8 := hk2.cell 8
  simp only [List.getElem?_toArray, List.getElem?_cons_zero, List.getElem?_cons_succ] at a0 a1 a2 a3 a4 a5 a6 a7 a8
  go_wp2_with fail
  go_ret
  exact ⟨rfl, hB2⟩

set_option maxRecDepth 100000 in
set_option maxHeartbeats 6400000 in
theorem opens_bad (a : Nat) (p : Pol) (A : Option Addr) (n c : Nat) (xs : List Dr) (w : World) (hp : p.ok w) (hx : SliceOf w 2 drC A n xs) (hnc : n ≤ c) (hcm : c ≤ maxLen) (hl : longB p = false) (hn : n ≤ 60) (ha : a ≤ n) (V E : Int) (HV : Hid ((openV p xs).1 = V)) (HE : Hid ((openV p xs).2 = E)) (hE : E ≠ 0) :
    Calls Try.prog 8 #[.agg #[.string p.ins, .string p.fr, .string p.dst, .int .i64 p.sum, .int .i64 p.own, .slice p.cA p.cn p.cc, .int .i64 p.first, .int .i64 p.last, .int .i64 p.share], .slice A n c, .int .i64 (a : Int)] w fun e w' => e = .returned (.bool true) ∧ Below w.heap.size w w' := by
  have d1 : decide ((60 : Int) < (n : Int)) = false := decide_eq_false (by omega)
  have d1' : decide (60 < n) = false := decide_eq_false (by omega)
  have d2 : decide ((a : Int) < 0) = false := decide_eq_false (by omega)
  have d3 : decide ((n : Int) < (a : Int)) = false := decide_eq_false (by omega)
  have d3' : decide (n < a) = false := decide_eq_false (by omega)
  have HL := Lib.hid hl
  have HX := Lib.hid hx
  have HP0 := Lib.hid hp
  have h1000 : n ≤ 1000 := by omega
  clear hl hx
  have HP := Lib.hid hp
  clear hp
  have hB0 : Below w.heap.size w (w.alloc (.cells #[.string p.ins, .string p.fr, .string p.dst, .int .i64 p.sum, .int .i64 p.own, .slice p.cA p.cn p.cc, .int .i64 p.first, .int .i64 p.last, .int .i64 p.share] 24)) := (Below.refl _ _).alloc (Nat.le_refl _) _
  have hk0 : Blk (w.alloc (.cells #[.string p.ins, .string p.fr, .string p.dst, .int .i64 p.sum, .int .i64 p.own, .slice p.cA p.cn p.cc, .int .i64 p.first, .int .i64 p.last, .int .i64 p.share] 24)) w.heap.size 24 #[.string p.ins, .string p.fr, .string p.dst, .int .i64 p.sum, .int .i64 p.own, .slice p.cA p.cn p.cc, .int .i64 p.first, .int .i64 p.last, .int .i64 p.share] := Blk.new _ _ _
  go_enter Try.func8, Try.ntmps8
  go_wp2_with fail
  refine (awake_any _).mono ?_
  rintro e w1 ⟨rfl, hb1⟩
  have hB1 := hB0.trans (hb1.mono hB0.size)
  have hk1 := hk0.below hb1 hk0.lt
  clear hB0 hk0 hb1
  have a0 := hk1.cell 0; have a1 := hk1.cell 1; have a2 := hk1.cell 2; have a3 := hk1.cell 3; have a4 := hk1.cell 4; have a5 := hk1.cell 5; have a6 := hk1.cell 6; have a7 := hk1.cell 7; have a8 := hk1.cell 8
  simp only [List.getElem?_toArray, List.getElem?_cons_zero, List.getElem?_cons_succ] at a0 a1 a2 a3 a4 a5 a6 a7 a8
  go_wp2_with fail
  refine (rlong_any p _).mono ?_
  rw [HL.out]
  rintro e w2 ⟨rfl, hb2⟩
  clear a0 a1 a2 a3 a4 a5 a6 a7 a8
  have hB2 := hB1.trans (hb2.mono hB1.size)
  have hk2 := hk1.below hb2 hk1.lt
  clear hB1 hk1 hb2
  have a0 := hk2.cell 0; have a1 := hk2.cell 1; have a2 := hk2.cell 2; have a3 := hk2.cell 3; have a4 := hk2.cell 4; have a5 := hk2.cell 5; have a6 := hk2.cell 6; have a7 := hk2.cell 7; have a8 := hk2.cell 8
  simp only [List.getElem?_toArray, List.getElem?_cons_zero, List.getElem?_cons_succ] at a0 a1 a2 a3 a4 a5 a6 a7 a8
  go_wp2_with fail
  refine (open_any p A n c xs _ (HP0.out.below hB2) (HX.out.below hB2) h1000).mono ?_
  rw [HV.out, HE.out]
  rintro e w3 ⟨rfl, hb3⟩
  clear a0 a1 a2 a3 a4 a5 a6 a7 a8
  have hB3 := hB2.trans (hb3.mono hB2.size)
  have hk3 := hk2.below hb3 hk2.lt
  clear hB2 hk2 hb3
  have a0 := hk3.cell 0; have a1 := hk3.cell 1; have a2 := hk3.cell 2; have a3 := hk3.cell 3; have a4 := hk3.cell 4; have a5 := hk3.cell 5; have a6 := hk3.cell 6; have a7 := hk3.cell 7; have a8 := hk3.cell 8
  simp only [List.getElem?_toArray, List.getElem?_cons_zero, List.getElem?_cons_succ] at a0 a1 a2 a3 a4 a5 a6 a7 a8
  go_wp2_with fail
  refine (ropen_any p A n c xs _ (HP0.out.below hB3) (HX.out.below hB3) h1000).mono ?_
  rw [HV.out, HE.out]
  rintro e w4 ⟨rfl, hb4⟩
  clear a0 a1 a2 a3 a4 a5 a6 a7 a8
  have hB4 := hB3.trans (hb4.mono hB3.size)
  have hk4 := hk3.below hb4 hk3.lt
  clear hB3 hk3 hb4
  have a0 := hk4.cell 0; have a1 := hk4.cell 1; have a2 := hk4.cell 2; have a3 := hk4.cell 3; have a4 := hk4.cell 4; have a5 := hk4.cell 5; have a6 := hk4.cell 6; have a7 := hk4.cell 7; have a8 := hk4.cell 8
  simp only [List.getElem?_toArray, List.getElem?_cons_zero, List.getElem?_cons_succ] at a0 a1 a2 a3 a4 a5 a6 a7 a8
  go_wp2_with fail
  go_ret
  exact ⟨rfl, hB4⟩
set_option maxRecDepth 100000 in
set_option maxHeartbeats 6400000 in
theorem opens_ok (a : Nat) (p : Pol) (A : Option Addr) (n c : Nat) (xs : List Dr) (w : World) (hp : p.ok w) (hx : SliceOf w 2 drC A n xs) (hnc : n ≤ c) (hcm : c ≤ maxLen) (hl : longB p = false) (hn : n ≤ 60) (ha : a ≤ n) (V : Int) (HV : Hid ((openV p xs).1 = V)) (HE : Hid ((openV p xs).2 = 0)) :
    Calls Try.prog 8 #[.agg #[.string p.ins, .string p.fr, .string p.dst, .int .i64 p.sum, .int .i64 p.own, .slice p.cA p.cn p.cc, .int .i64 p.first, .int .i64 p.last, .int .i64 p.share], .slice A n c, .int .i64 (a : Int)] w fun e w' => e = .returned (.bool true) ∧ Below w.heap.size w w' := by
  have HO := Lib.hid (open_ok HE.out)
  have hV : V = p.sum - tot xs := by rw [← HV.out, HO.out.2.2.2.2]
  have HAM := Lib.hid (draws_in HO.out.2.1)
  have HTM := Lib.hid (fun k => tot_mono (xs := xs) k (fun x h => (HAM.out x h).1))
  have HT0 : Hid (∀ k, 0 ≤ tot (xs.take k)) := Lib.hid fun k => (tot_mono (xs := xs.take k) 0 (fun x hx => (HAM.out x (List.mem_of_mem_take hx)).1)).2
  have hS := (may_iff HO.out.1).1
  have hts := HO.out.2.2.2.1
  have HTK := Lib.hid (open_take a HE.out)
  have HXL := hx.len
  have hle : V ≤ p.sum - tot (xs.take a) := by have := HTK.out.2; omega
  obtain ⟨m, hm⟩ : ∃ m, p.sum - tot (xs.take a) = m := ⟨_, rfl⟩
  rw [hm] at hle
  have HT1 : Hid ((openV p (xs.take a)).1 = m) := Lib.hid (by rw [HTK.out.1, ← hm])
  have HT2 : Hid ((openV p (xs.take a)).2 = 0) := Lib.hid (by rw [HTK.out.1])
  clear HTK hm
  have HVS := Lib.hid (And.intro hV (And.intro hS hts))
  clear hV hS hts
  have d1 : decide ((60 : Int) < (n : Int)) = false := decide_eq_false (by omega)
  have d1' : decide (60 < n) = false := decide_eq_false (by omega)
  have d2 : decide ((a : Int) < 0) = false := decide_eq_false (by omega)
  have d3 : decide ((n : Int) < (a : Int)) = false := decide_eq_false (by omega)
  have d3' : decide (n < a) = false := decide_eq_false (by omega)
  have HL := Lib.hid hl
  have HX := Lib.hid hx
  have HP0 := Lib.hid hp
  have h1000 : n ≤ 1000 := by omega
  clear hl hx
  have HP := Lib.hid hp
  clear hp
  have hB0 : Below w.heap.size w (w.alloc (.cells #[.string p.ins, .string p.fr, .string p.dst, .int .i64 p.sum, .int .i64 p.own, .slice p.cA p.cn p.cc, .int .i64 p.first, .int .i64 p.last, .int .i64 p.share] 24)) := (Below.refl _ _).alloc (Nat.le_refl _) _
  have hk0 : Blk (w.alloc (.cells #[.string p.ins, .string p.fr, .string p.dst, .int .i64 p.sum, .int .i64 p.own, .slice p.cA p.cn p.cc, .int .i64 p.first, .int .i64 p.last, .int .i64 p.share] 24)) w.heap.size 24 #[.string p.ins, .string p.fr, .string p.dst, .int .i64 p.sum, .int .i64 p.own, .slice p.cA p.cn p.cc, .int .i64 p.first, .int .i64 p.last, .int .i64 p.share] := Blk.new _ _ _
  go_enter Try.func8, Try.ntmps8
  go_wp2_with fail
  refine (awake_any _).mono ?_
  rintro e w1 ⟨rfl, hb1⟩
  have hB1 := hB0.trans (hb1.mono hB0.size)
  have hk1 := hk0.below hb1 hk0.lt
  clear hB0 hk0 hb1
  have a0 := hk1.cell 0; have a1 := hk1.cell 1; have a2 := hk1.cell 2; have a3 := hk1.cell 3; have a4 := hk1.cell 4; have a5 := hk1.cell 5; have a6 := hk1.cell 6; have a7 := hk1.cell 7; have a8 := hk1.cell 8
  simp only [List.getElem?_toArray, List.getElem?_cons_zero, List.getElem?_cons_succ] at a0 a1 a2 a3 a4 a5 a6 a7 a8
  go_wp2_with fail
  refine (rlong_any p _).mono ?_
  rw [HL.out]
  rintro e w2 ⟨rfl, hb2⟩
  clear a0 a1 a2 a3 a4 a5 a6 a7 a8
  have hB2 := hB1.trans (hb2.mono hB1.size)
  have hk2 := hk1.below hb2 hk1.lt
  clear hB1 hk1 hb2
  have a0 := hk2.cell 0; have a1 := hk2.cell 1; have a2 := hk2.cell 2; have a3 := hk2.cell 3; have a4 := hk2.cell 4; have a5 := hk2.cell 5; have a6 := hk2.cell 6; have a7 := hk2.cell 7; have a8 := hk2.cell 8
  simp only [List.getElem?_toArray, List.getElem?_cons_zero, List.getElem?_cons_succ] at a0 a1 a2 a3 a4 a5 a6 a7 a8
  go_wp2_with fail
  refine (open_any p A n c xs _ (HP0.out.below hB2) (HX.out.below hB2) h1000).mono ?_
  rw [HV.out, HE.out]
  rintro e w3 ⟨rfl, hb3⟩
  clear a0 a1 a2 a3 a4 a5 a6 a7 a8
  have hB3 := hB2.trans (hb3.mono hB2.size)
  have hk3 := hk2.below hb3 hk2.lt
  clear hB2 hk2 hb3
  have a0 := hk3.cell 0; have a1 := hk3.cell 1; have a2 := hk3.cell 2; have a3 := hk3.cell 3; have a4 := hk3.cell 4; have a5 := hk3.cell 5; have a6 := hk3.cell 6; have a7 := hk3.cell 7; have a8 := hk3.cell 8
  simp only [List.getElem?_toArray, List.getElem?_cons_zero, List.getElem?_cons_succ] at a0 a1 a2 a3 a4 a5 a6 a7 a8
  go_wp2_with fail
  refine (ropen_any p A n c xs _ (HP0.out.below hB3) (HX.out.below hB3) h1000).mono ?_
  rw [HV.out, HE.out]
  rintro e w4 ⟨rfl, hb4⟩
  clear a0 a1 a2 a3 a4 a5 a6 a7 a8
  have hB4 := hB3.trans (hb4.mono hB3.size)
  have hk4 := hk3.below hb4 hk3.lt
  clear hB3 hk3 hb4
  have a0 := hk4.cell 0; have a1 := hk4.cell 1; have a2 := hk4.cell 2; have a3 := hk4.cell 3; have a4 := hk4.cell 4; have a5 := hk4.cell 5; have a6 := hk4.cell 6; have a7 := hk4.cell 7; have a8 := hk4.cell 8
  simp only [List.getElem?_toArray, List.getElem?_cons_zero, List.getElem?_cons_succ] at a0 a1 a2 a3 a4 a5 a6 a7 a8
  clear a0 a1 a2 a3 a4 a5 a6 a7 a8
  go_wp2_with fail
  go_loopw [11, 12] (fun s i wr => ∃ k : Nat, k ≤ n ∧ i = .int .i64 k ∧ s = .int .i64 (V + tot (xs.take k)) ∧ Below w.heap.size w wr ∧ Blk wr w.heap.size 24 #[.string p.ins, .string p.fr, .string p.dst, .int .i64 p.sum, .int .i64 p.own, .slice p.cA p.cn p.cc, .int .i64 p.first, .int .i64 p.last, .int .i64 p.share]) (fun _ i _ => n - (intOf i).toNat)
  case atStart => exact ⟨0, Nat.zero_le _, rfl, by simp [tot], hB4, hk4⟩
  case round =>
    obtain ⟨k, hk, rfl, rfl, hbel, hk5⟩ := hrel
    clear hB4 hk4
    by_cases hlt : k < n
    · obtain ⟨x, hxk⟩ : ∃ x, xs[k]? = some x := ⟨_, List.getElem?_eq_getElem (by omega)⟩
      obtain ⟨b, off, rfl, hb, hc⟩ := HX.out.at_ (by omega)
      have c0 : wr.cell? ⟨b, off + k * 2, none⟩ = some (.int .i64 x.day) := (hbel.cell hb).trans (hc k _ hxk 0 _ rfl)
      have c1 : wr.cell? ⟨b, off + k * 2 + 1, none⟩ = some (.int .i64 x.am) := (hbel.cell hb).trans (hc k _ hxk 1 _ rfl)
      have HXK := Lib.hid hxk
      have hkn : (k : Int) < (n : Int) := by omega
      clear hxk hc
      obtain ⟨T, hT⟩ : ∃ T, tot (xs.take k) = T := ⟨_, rfl⟩
      have hT1 := tot_take HXK.out
      rw [hT] at hT1 ⊢
      have HW : Hid (wrap64 (V + T + x.am) = V + tot (xs.take (k + 1))) := Lib.hid (by
        have h1 := (HTM.out (k + 1)).1; have h2 := HT0.out (k + 1); have h3 := HVS.out
        unfold wrap64; omega)
      clear hT hT1
      go_wp2_with fail
      go_roundw
      case rel => exact ⟨k + 1, by omega, by go_num, by rw [← HW.out], hbel, hk5⟩
      case measure => simp [intOf]; omega
    · have hfull : xs.take k = xs := List.take_of_length_le (by omega)
      have hsum : V + tot (xs.take k) = p.sum := by rw [hfull]; have := HVS.out; omega
      rw [hsum]
      clear hfull hsum
      have hB5 := hbel
      have h0a : (0 : Int) ≤ (a : Int) := by omega
      have hac : (a : Int) ≤ (c : Int) := by omega
      have hac' : a ≤ c := by omega
      have a0 := hk5.cell 0; have a1 := hk5.cell 1; have a2 := hk5.cell 2; have a3 := hk5.cell 3; have a4 := hk5.cell 4; have a5 := hk5.cell 5; have a6 := hk5.cell 6; have a7 := hk5.cell 7; have a8 := hk5.cell 8
      simp only [List.getElem?_toArray, List.getElem?_cons_zero, List.getElem?_cons_succ] at a0 a1 a2 a3 a4 a5 a6 a7 a8
      have p0 := wof_cell a0; have p1 := wof_cell a1; have p2 := wof_cell a2; have p3 := wof_cell a3; have p4 := wof_cell a4; have p5 := wof_cell a5; have p6 := wof_cell a6; have p7 := wof_cell a7; have p8 := wof_cell a8
      have HBW : Hid (∀ x : BW wr, Below w.heap.size w (wof x)) := Lib.hid fun x => hB5.trans ((wof_below x).mono hB5.size)
      have Q1 : Hid (∀ x : BW wr, Calls Try.prog 20 #[.agg #[.string p.ins, .string p.fr, .string p.dst, .int .i64 p.sum, .int .i64 p.own, .slice p.cA p.cn p.cc, .int .i64 p.first, .int .i64 p.last, .int .i64 p.share], .slice A a c] (wof x) fun e w' => e = .returned (.tuple #[.int .i64 m, .int .i64 0]) ∧ Below (wof x).heap.size (wof x) w') := Lib.hid fun x => by
        have := open_any p A a c (xs.take a) (wof x) (HP0.out.below (HBW.out x)) ((HX.out.below (HBW.out x)).take_ ha) (by omega); rw [HT1.out, HT2.out] at this; exact this
      go_wp2_with fail
      refine wp_region_quiet_below (by kernel_rfl) (by kernel_rfl) ?_
      repeat (go_big_quiet_step ((go_at_call 20; exact quiet_below (Q1.out _))))
      refine wpQuiet_nil ?_
      intro w7 hb7
      have hB7 := hB5.trans (hb7.mono hB5.size)
      have hk7 := hk5.below hb7 hk5.lt
      clear p0 p1 p2 p3 p4 p5 p6 p7 p8
      clear a0 a1 a2 a3 a4 a5 a6 a7 a8
      have a0 := hk7.cell 0; have a1 := hk7.cell 1; have a2 := hk7.cell 2; have a3 := hk7.cell 3; have a4 := hk7.cell 4; have a5 := hk7.cell 5; have a6 := hk7.cell 6; have a7 := hk7.cell 7; have a8 := hk7.cell 8
      simp only [List.getElem?_toArray, List.getElem?_cons_zero, List.getElem?_cons_succ] at a0 a1 a2 a3 a4 a5 a6 a7 a8
      have dm : decide (V ≤ m) = true := decide_eq_true hle
      go_wp2_with fail
      go_ret
      exact ⟨ret_bool (by simp), hB7⟩
theorem policyOpens_walk (p : Pol) (A : Option Addr) (n c : Nat) (xs : List Dr) (at_ : Int) (w : World) (hp : p.ok w) (hx : SliceOf w 2 drC A n xs) (hnc : n ≤ c) (hcm : c ≤ maxLen) : Calls Try.prog 8 #[.agg #[.string p.ins, .string p.fr, .string p.dst, .int .i64 p.sum, .int .i64 p.own, .slice p.cA p.cn p.cc, .int .i64 p.first, .int .i64 p.last, .int .i64 p.share], .slice A n c, .int .i64 at_] w fun e w' => e = .returned (.bool true) ∧ Below w.heap.size w w' := by
  by_cases ho : longB p = true ∨ 60 < n ∨ at_ < 0 ∨ (n : Int) < at_
  · exact opens_out p A n c xs at_ w hp hx hnc hcm ho
  · obtain ⟨a, rfl⟩ : ∃ a : Nat, at_ = a := ⟨at_.toNat, by omega⟩
    have hl : longB p = false := by cases h : longB p; rfl; exact absurd (.inl h) ho
    by_cases hE : (openV p xs).2 = 0
    · exact opens_ok a p A n c xs w hp hx hnc hcm hl (by omega) (by omega) _ (Lib.hid rfl) (Lib.hid hE)
    · exact opens_bad a p A n c xs w hp hx hnc hcm hl (by omega) (by omega) _ _ (Lib.hid rfl) (Lib.hid rfl) hE
end Go.Proofs.Ytembipmficppnaa
