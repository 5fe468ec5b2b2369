/- PolicyShares: the law. No condition. -/
import Derived.Test.YtembipmficppnaaRPays
import Derived.Test.YtembipmficppnaaStep
namespace Go.Proofs.Ytembipmficppnaa
open Go.RowKit Go.Proofs.Ytembipmficppnaa.kit
set_option linter.unusedVariables false

set_option maxRecDepth 100000 in
set_option maxHeartbeats 3200000 in
theorem shares_out (p : Pol) (s l v : Int) (w : World) (hp : p.ok w) (h : longB p = true ∨ s < 1 ∨ 999 < s) : Calls Try.prog 5 #[.agg #[.string p.ins, .string p.fr, .string p.dst, .int .i64 p.sum, .int .i64 p.own, .slice p.cA p.cn p.cc, .int .i64 p.first, .int .i64 p.last, .int .i64 p.share], .int .i64 s, .int .i64 l, .int .i64 v] w fun e w' => e = .returned (.bool true) ∧ Below w.heap.size w w' := by
  cases hl : longB p
  rotate_left
  · have HL := Lib.hid hl
    clear hl h
    have HP := Lib.hid hp
    clear hp
    have hB0 : Below w.heap.size w (w.alloc (.cells #[.string p.ins, .string p.fr, .string p.dst, .int .i64 p.sum, .int .i64 p.own, .slice p.cA p.cn p.cc, .int .i64 p.first, .int .i64 p.last, .int .i64 p.share] 24)) := (Below.refl _ _).alloc (Nat.le_refl _) _
    have hk0 : Blk (w.alloc (.cells #[.string p.ins, .string p.fr, .string p.dst, .int .i64 p.sum, .int .i64 p.own, .slice p.cA p.cn p.cc, .int .i64 p.first, .int .i64 p.last, .int .i64 p.share] 24)) w.heap.size 24 #[.string p.ins, .string p.fr, .string p.dst, .int .i64 p.sum, .int .i64 p.own, .slice p.cA p.cn p.cc, .int .i64 p.first, .int .i64 p.last, .int .i64 p.share] := Blk.new _ _ _
    go_enter Try.func5, Try.ntmps5
    go_wp2_with fail
    refine (awake_any _).mono ?_
    rintro e w1 ⟨rfl, hb1⟩
    have hB1 := hB0.trans (hb1.mono hB0.size)
    have hk1 := hk0.below hb1 hk0.lt
    clear hB0 hk0 hb1
    have a0 := hk1.cell 0; have a1 := hk1.cell 1; have a2 := hk1.cell 2; have a3 := hk1.cell 3; have a4 := hk1.cell 4; have a5 := hk1.cell 5; have a6 := hk1.cell 6; have a7 := hk1.cell 7; have a8 := hk1.cell 8
    simp only [List.getElem?_toArray, List.getElem?_cons_zero, List.getElem?_cons_succ] at a0 a1 a2 a3 a4 a5 a6 a7 a8
    go_wp2_with fail
    refine (rlong_any p _).mono ?_
    rw [HL.out]
    rintro e w2 ⟨rfl, hb2⟩
    clear a0 a1 a2 a3 a4 a5 a6 a7 a8
    have hB2 := hB1.trans (hb2.mono hB1.size)
    have hk2 := hk1.below hb2 hk1.lt
    clear hB1 hk1 hb2
    have a0 := hk2.cell 0; have a1 := hk2.cell 1; have a2 := hk2.cell 2; have a3 := hk2.cell 3; have a4 := hk2.cell 4; have a5 := hk2.cell 5; have a6 := hk2.cell 6; have a7 := hk2.cell 7; have a8 := hk2.cell 8
    simp only [List.getElem?_toArray, List.getElem?_cons_zero, List.getElem?_cons_succ] at a0 a1 a2 a3 a4 a5 a6 a7 a8
    go_wp2_with fail
    go_ret
    exact ⟨rfl, hB2⟩
  rw [hl] at h
  have h' : s < 1 ∨ 999 < s := by simpa using h
  have HL := Lib.hid hl
  clear hl h
  rcases Int.lt_or_le s 1 with k | k
  · have d1 : decide (s < 1) = true := decide_eq_true k
    clear h' k
    have HP := Lib.hid hp
    clear hp
    have hB0 : Below w.heap.size w (w.alloc (.cells #[.string p.ins, .string p.fr, .string p.dst, .int .i64 p.sum, .int .i64 p.own, .slice p.cA p.cn p.cc, .int .i64 p.first, .int .i64 p.last, .int .i64 p.share] 24)) := (Below.refl _ _).alloc (Nat.le_refl _) _
    have hk0 : Blk (w.alloc (.cells #[.string p.ins, .string p.fr, .string p.dst, .int .i64 p.sum, .int .i64 p.own, .slice p.cA p.cn p.cc, .int .i64 p.first, .int .i64 p.last, .int .i64 p.share] 24)) w.heap.size 24 #[.string p.ins, .string p.fr, .string p.dst, .int .i64 p.sum, .int .i64 p.own, .slice p.cA p.cn p.cc, .int .i64 p.first, .int .i64 p.last, .int .i64 p.share] := Blk.new _ _ _
    go_enter Try.func5, Try.ntmps5
    go_wp2_with fail
    refine (awake_any _).mono ?_
    rintro e w1 ⟨rfl, hb1⟩
    have hB1 := hB0.trans (hb1.mono hB0.size)
    have hk1 := hk0.below hb1 hk0.lt
    clear hB0 hk0 hb1
    have a0 := hk1.cell 0; have a1 := hk1.cell 1; have a2 := hk1.cell 2; have a3 := hk1.cell 3; have a4 := hk1.cell 4; have a5 := hk1.cell 5; have a6 := hk1.cell 6; have a7 := hk1.cell 7; have a8 := hk1.cell 8
    simp only [List.getElem?_toArray, List.getElem?_cons_zero, List.getElem?_cons_succ] at a0 a1 a2 a3 a4 a5 a6 a7 a8
    go_wp2_with fail
    refine (rlong_any p _).mono ?_
    rw [HL.out]
    rintro e w2 ⟨rfl, hb2⟩
    clear a0 a1 a2 a3 a4 a5 a6 a7 a8
    have hB2 := hB1.trans (hb2.mono hB1.size)
    have hk2 := hk1.below hb2 hk1.lt
    clear hB1 hk1 hb2
    have a0 := hk2.cell 0; have a1 := hk2.cell 1; have a2 := hk2.cell 2; have a3 := hk2.cell 3; have a4 := hk2.cell 4; have a5 := hk2.cell 5; have a6 := hk2.cell 6; have a7 := hk2.cell 7; have a8 := hk2.cell 8
    simp only [List.getElem?_toArray, List.getElem?_cons_zero, List.getElem?_cons_succ] at a0 a1 a2 a3 a4 a5 a6 a7 a8
    go_wp2_with fail
    go_ret
    exact ⟨rfl, hB2⟩
  · have d1 : decide (s < 1) = false := decide_eq_false (by omega)
    have d2 : decide (999 < s) = true := decide_eq_true (by omega)
    clear h' k
    have HP := Lib.hid hp
    clear hp
    have hB0 : Below w.heap.size w (w.alloc (.cells #[.string p.ins, .string p.fr, .string p.dst, .int .i64 p.sum, .int .i64 p.own, .slice p.cA p.cn p.cc, .int .i64 p.first, .int .i64 p.last, .int .i64 p.share] 24)) := (Below.refl _ _).alloc (Nat.le_refl _) _
    have hk0 : Blk (w.alloc (.cells #[.string p.ins, .string p.fr, .string p.dst, .int .i64 p.sum, .int .i64 p.own, .slice p.cA p.cn p.cc, .int .i64 p.first, .int .i64 p.last, .int .i64 p.share] 24)) w.heap.size 24 #[.string p.ins, .string p.fr, .string p.dst, .int .i64 p.sum, .int .i64 p.own, .slice p.cA p.cn p.cc, .int .i64 p.first, .int .i64 p.last, .int .i64 p.share] := Blk.new _ _ _
    go_enter Try.func5, Try.ntmps5
    go_wp2_with fail
    refine (awake_any _).mono ?_
    rintro e w1 ⟨rfl, hb1⟩
    have hB1 := hB0.trans (hb1.mono hB0.size)
    have hk1 := hk0.below hb1 hk0.lt
    clear hB0 hk0 hb1
    have a0 := hk1.cell 0; have a1 := hk1.cell 1; have a2 := hk1.cell 2; have a3 := hk1.cell 3; have a4 := hk1.cell 4; have a5 := hk1.cell 5; have a6 := hk1.cell 6; have a7 := hk1.cell 7; have a8 := hk1.cell 8
    simp only [List.getElem?_toArray, List.getElem?_cons_zero, List.getElem?_cons_succ] at a0 a1 a2 a3 a4 a5 a6 a7 a8
    go_wp2_with fail
    refine (rlong_any p _).mono ?_
    rw [HL.out]
    rintro e w2 ⟨rfl, hb2⟩
    clear a0 a1 a2 a3 a4 a5 a6 a7 a8
    have hB2 := hB1.trans (hb2.mono hB1.size)
    have hk2 := hk1.below hb2 hk1.lt
    clear hB1 hk1 hb2
    have a0 := hk2.cell 0; have a1 := hk2.cell 1; have a2 := hk2.cell 2; have a3 := hk2.cell 3; have a4 := hk2.cell 4; have a5 := hk2.cell 5; have a6 := hk2.cell 6; have a7 := hk2.cell 7; have a8 := hk2.cell 8
    simp only [List.getElem?_toArray, List.getElem?_cons_zero, List.getElem?_cons_succ] at a0 a1 a2 a3 a4 a5 a6 a7 a8
    go_wp2_with fail
    go_ret
    exact ⟨rfl, hB2⟩
set_option maxRecDepth 100000 in
set_option maxHeartbeats 6400000 in
theorem shares_in (p : Pol) (s l v N M K : Int) (b : Bool) (w : World) (hp : p.ok w) (hl : longB p = false) (hs : 1 ≤ s ∧ s ≤ 999)
    (QN : Hid (∀ W : World, p.ok W → Calls Try.prog 12 #[.agg #[.string p.ins, .string p.fr, .string p.dst, .int .i64 p.sum, .int .i64 p.own, .slice p.cA p.cn p.cc, .int .i64 p.first, .int .i64 p.last, .int .i64 1000], .int .i64 l, .int .i64 v] W fun e w' => e = .returned (.tuple #[.int .i64 N, .bool b]) ∧ Below W.heap.size W w'))
    (QM : Hid (∀ W : World, p.ok W → Calls Try.prog 12 #[.agg #[.string p.ins, .string p.fr, .string p.dst, .int .i64 p.sum, .int .i64 p.own, .slice p.cA p.cn p.cc, .int .i64 p.first, .int .i64 p.last, .int .i64 s], .int .i64 l, .int .i64 v] W fun e w' => e = .returned (.tuple #[.int .i64 M, .bool b]) ∧ Below W.heap.size W w'))
    (QK : Hid (∀ W : World, p.ok W → Calls Try.prog 12 #[.agg #[.string p.ins, .string p.fr, .string p.dst, .int .i64 p.sum, .int .i64 p.own, .slice p.cA p.cn p.cc, .int .i64 p.first, .int .i64 p.last, .int .i64 (1000 - s)], .int .i64 l, .int .i64 v] W fun e w' => e = .returned (.tuple #[.int .i64 K, .bool b]) ∧ Below W.heap.size W w'))
    (hb0 : b = false → M = 0 ∧ K = 0) (hb1 : b = true → 0 ≤ N ∧ N ≤ 1099511627776 ∧ 0 ≤ M ∧ 0 ≤ K ∧ M + K ≤ N ∧ N - 1 ≤ M + K) : Calls Try.prog 5 #[.agg #[.string p.ins, .string p.fr, .string p.dst, .int .i64 p.sum, .int .i64 p.own, .slice p.cA p.cn p.cc, .int .i64 p.first, .int .i64 p.last, .int .i64 p.share], .int .i64 s, .int .i64 l, .int .i64 v] w fun e w' => e = .returned (.bool true) ∧ Below w.heap.size w w' := by
  have d1 : decide (s < 1) = false := decide_eq_false (by omega)
  have d2 : decide (999 < s) = false := decide_eq_false (by omega)
  have hw : wrap64 (1000 - s) = 1000 - s := by unfold wrap64; omega
  have HL := Lib.hid hl
  have HB0 := Lib.hid hb0; have HB1 := Lib.hid hb1
  clear hl hs hb0 hb1
  have HP := Lib.hid hp
  clear hp
  have hB0 : Below w.heap.size w (w.alloc (.cells #[.string p.ins, .string p.fr, .string p.dst, .int .i64 p.sum, .int .i64 p.own, .slice p.cA p.cn p.cc, .int .i64 p.first, .int .i64 p.last, .int .i64 p.share] 24)) := (Below.refl _ _).alloc (Nat.le_refl _) _
  have hk0 : Blk (w.alloc (.cells #[.string p.ins, .string p.fr, .string p.dst, .int .i64 p.sum, .int .i64 p.own, .slice p.cA p.cn p.cc, .int .i64 p.first, .int .i64 p.last, .int .i64 p.share] 24)) w.heap.size 24 #[.string p.ins, .string p.fr, .string p.dst, .int .i64 p.sum, .int .i64 p.own, .slice p.cA p.cn p.cc, .int .i64 p.first, .int .i64 p.last, .int .i64 p.share] := Blk.new _ _ _
  go_enter Try.func5, Try.ntmps5
  go_wp2_with fail
  refine (awake_any _).mono ?_
  rintro e w1 ⟨rfl, hb1⟩
  have hB1 := hB0.trans (hb1.mono hB0.size)
  have hk1 := hk0.below hb1 hk0.lt
  clear hB0 hk0 hb1
  have a0 := hk1.cell 0; have a1 := hk1.cell 1; have a2 := hk1.cell 2; have a3 := hk1.cell 3; have a4 := hk1.cell 4; have a5 := hk1.cell 5; have a6 := hk1.cell 6; have a7 := hk1.cell 7; have a8 := hk1.cell 8
  simp only [List.getElem?_toArray, List.getElem?_cons_zero, List.getElem?_cons_succ] at a0 a1 a2 a3 a4 a5 a6 a7 a8
  go_wp2_with fail
  refine (rlong_any p _).mono ?_
  rw [HL.out]
  rintro e w2 ⟨rfl, hb2⟩
  clear a0 a1 a2 a3 a4 a5 a6 a7 a8
  have hB2 := hB1.trans (hb2.mono hB1.size)
  have hk2 := hk1.below hb2 hk1.lt
  clear hB1 hk1 hb2
  have a0 := hk2.cell 0; have a1 := hk2.cell 1; have a2 := hk2.cell 2; have a3 := hk2.cell 3; have a4 := hk2.cell 4; have a5 := hk2.cell 5; have a6 := hk2.cell 6; have a7 := hk2.cell 7; have a8 := hk2.cell 8
  simp only [List.getElem?_toArray, List.getElem?_cons_zero, List.getElem?_cons_succ] at a0 a1 a2 a3 a4 a5 a6 a7 a8
  have z8 := hk2.frozen 8
  go_wp2_with fail
  have hk3 : Blk (w2.setCell ⟨w.heap.size, 8, none⟩ (.int .i64 1000)) w.heap.size 24 #[.string p.ins, .string p.fr, .string p.dst, .int .i64 p.sum, .int .i64 p.own, .slice p.cA p.cn p.cc, .int .i64 p.first, .int .i64 p.last, .int .i64 1000] := hk2.set_ 8 _
  have hB3 : Below w.heap.size w (w2.setCell ⟨w.heap.size, 8, none⟩ (.int .i64 1000)) := hB2.setCell (Nat.le_refl _) _
  generalize w2.setCell ⟨w.heap.size, 8, none⟩ (.int .i64 1000) = w3 at hk3 hB3 ⊢
  clear hk2 hB2 z8
  clear a0 a1 a2 a3 a4 a5 a6 a7 a8
  have a0 := hk3.cell 0; have a1 := hk3.cell 1; have a2 := hk3.cell 2; have a3 := hk3.cell 3; have a4 := hk3.cell 4; have a5 := hk3.cell 5; have a6 := hk3.cell 6; have a7 := hk3.cell 7; have a8 := hk3.cell 8
  simp only [List.getElem?_toArray, List.getElem?_cons_zero, List.getElem?_cons_succ] at a0 a1 a2 a3 a4 a5 a6 a7 a8
  have hlt3 : w.heap.size < w3.heap.size := hk3.lt
  have hsz3 := hB3.size
  go_region
  · have hk4 : Blk (((w3.alloc (.cells #[.string p.ins, .string p.fr, .string p.dst, .int .i64 p.sum, .int .i64 p.own, .slice p.cA p.cn p.cc, .int .i64 p.first, .int .i64 p.last, .int .i64 s] 24)).alloc (.cells #[.string p.ins, .string p.fr, .string p.dst, .int .i64 p.sum, .int .i64 p.own, .slice p.cA p.cn p.cc, .int .i64 p.first, .int .i64 p.last, .int .i64 (1000 - s)] 24)).drew) w.heap.size 24 #[.string p.ins, .string p.fr, .string p.dst, .int .i64 p.sum, .int .i64 p.own, .slice p.cA p.cn p.cc, .int .i64 p.first, .int .i64 p.last, .int .i64 1000] := ((hk3.alloc _).alloc _).drew
    have hB4 : Below w.heap.size w (((w3.alloc (.cells #[.string p.ins, .string p.fr, .string p.dst, .int .i64 p.sum, .int .i64 p.own, .slice p.cA p.cn p.cc, .int .i64 p.first, .int .i64 p.last, .int .i64 s] 24)).alloc (.cells #[.string p.ins, .string p.fr, .string p.dst, .int .i64 p.sum, .int .i64 p.own, .slice p.cA p.cn p.cc, .int .i64 p.first, .int .i64 p.last, .int .i64 (1000 - s)] 24)).drew) := ((hB3.alloc hsz3 _).alloc (hB3.alloc hsz3 _).size _).drew
    have hu4 : Blk (((w3.alloc (.cells #[.string p.ins, .string p.fr, .string p.dst, .int .i64 p.sum, .int .i64 p.own, .slice p.cA p.cn p.cc, .int .i64 p.first, .int .i64 p.last, .int .i64 s] 24)).alloc (.cells #[.string p.ins, .string p.fr, .string p.dst, .int .i64 p.sum, .int .i64 p.own, .slice p.cA p.cn p.cc, .int .i64 p.first, .int .i64 p.last, .int .i64 (1000 - s)] 24)).drew) w3.heap.size 24 #[.string p.ins, .string p.fr, .string p.dst, .int .i64 p.sum, .int .i64 p.own, .slice p.cA p.cn p.cc, .int .i64 p.first, .int .i64 p.last, .int .i64 s] := ((Blk.new _ _ _).alloc _).drew
    have hv4 : Blk (((w3.alloc (.cells #[.string p.ins, .string p.fr, .string p.dst, .int .i64 p.sum, .int .i64 p.own, .slice p.cA p.cn p.cc, .int .i64 p.first, .int .i64 p.last, .int .i64 s] 24)).alloc (.cells #[.string p.ins, .string p.fr, .string p.dst, .int .i64 p.sum, .int .i64 p.own, .slice p.cA p.cn p.cc, .int .i64 p.first, .int .i64 p.last, .int .i64 (1000 - s)] 24)).drew) (w3.heap.size + 1) 24 #[.string p.ins, .string p.fr, .string p.dst, .int .i64 p.sum, .int .i64 p.own, .slice p.cA p.cn p.cc, .int .i64 p.first, .int .i64 p.last, .int .i64 (1000 - s)] := (Blk.new_at _ _ _ _ (by simp)).drew
    go_wp2_with (refine stop_load 24 _ rfl ?_; refine wpList_load_want rfl 24 _ rfl w.heap.size rfl 24 _ _ hk4 Try.underlying24 rfl (by kernel_rfl) ?_)
    refine (QN.out _ (HP.out.below hB4)).mono ?_
    rintro e w5 ⟨rfl, hb5⟩
    have hB5 := hB4.trans (hb5.mono hB4.size); have hu5 := hu4.below hb5 hu4.lt; have hv5 := hv4.below hb5 hv4.lt
    clear hk4 hB4 hu4 hv4 hb5 hk3 hB3
    clear a0 a1 a2 a3 a4 a5 a6 a7 a8
    go_wp2_with (refine stop_load 24 _ rfl ?_; refine wpList_load_want rfl 24 _ rfl w3.heap.size rfl 24 _ _ hu5 Try.underlying24 rfl (by kernel_rfl) ?_)
    refine (QM.out _ (HP.out.below hB5)).mono ?_
    rintro e w6 ⟨rfl, hb6⟩
    have hB6 := hB5.trans (hb6.mono hB5.size); have hu6 := hu5.below hb6 hu5.lt; have hv6 := hv5.below hb6 hv5.lt
    clear hB5 hu5 hv5 hb6
    go_wp2_with (refine stop_load 24 _ rfl ?_; refine wpList_load_want rfl 24 _ rfl (w3.heap.size + 1) rfl 24 _ _ hv6 Try.underlying24 rfl (by kernel_rfl) ?_)
    refine (QK.out _ (HP.out.below hB6)).mono ?_
    rintro e w7 ⟨rfl, hb7⟩
    have hB7 := hB6.trans (hb7.mono hB6.size)
    clear hB6 hu6 hv6 hb7
    cases b
    · obtain ⟨rfl, rfl⟩ := HB0.out rfl
      go_wp2_with fail
      go_ret
      exact ⟨rfl, hB7⟩
    · obtain ⟨x1, x2, x3, x4, x5, x6⟩ := HB1.out rfl
      have y0 : wrap64 (M + K) = M + K := by unfold wrap64; omega
      have y0' : wrap64 (N - 1) = N - 1 := by unfold wrap64; omega
      have y1 : decide (M + K ≤ N) = true := decide_eq_true x5
      have y2 : decide (N - 1 ≤ M + K) = true := decide_eq_true x6
      clear x1 x2 x3 x4 x5 x6
      go_wp2_with fail
      go_ret
      exact ⟨rfl, hB7⟩
  · have hk4 : Blk (((w3.alloc (.cells #[.string p.ins, .string p.fr, .string p.dst, .int .i64 p.sum, .int .i64 p.own, .slice p.cA p.cn p.cc, .int .i64 p.first, .int .i64 p.last, .int .i64 (1000 - s)] 24)).alloc (.cells #[.string p.ins, .string p.fr, .string p.dst, .int .i64 p.sum, .int .i64 p.own, .slice p.cA p.cn p.cc, .int .i64 p.first, .int .i64 p.last, .int .i64 s] 24)).drew) w.heap.size 24 #[.string p.ins, .string p.fr, .string p.dst, .int .i64 p.sum, .int .i64 p.own, .slice p.cA p.cn p.cc, .int .i64 p.first, .int .i64 p.last, .int .i64 1000] := ((hk3.alloc _).alloc _).drew
    have hB4 : Below w.heap.size w (((w3.alloc (.cells #[.string p.ins, .string p.fr, .string p.dst, .int .i64 p.sum, .int .i64 p.own, .slice p.cA p.cn p.cc, .int .i64 p.first, .int .i64 p.last, .int .i64 (1000 - s)] 24)).alloc (.cells #[.string p.ins, .string p.fr, .string p.dst, .int .i64 p.sum, .int .i64 p.own, .slice p.cA p.cn p.cc, .int .i64 p.first, .int .i64 p.last, .int .i64 s] 24)).drew) := ((hB3.alloc hsz3 _).alloc (hB3.alloc hsz3 _).size _).drew
    have hu4 : Blk (((w3.alloc (.cells #[.string p.ins, .string p.fr, .string p.dst, .int .i64 p.sum, .int .i64 p.own, .slice p.cA p.cn p.cc, .int .i64 p.first, .int .i64 p.last, .int .i64 (1000 - s)] 24)).alloc (.cells #[.string p.ins, .string p.fr, .string p.dst, .int .i64 p.sum, .int .i64 p.own, .slice p.cA p.cn p.cc, .int .i64 p.first, .int .i64 p.last, .int .i64 s] 24)).drew) w3.heap.size 24 #[.string p.ins, .string p.fr, .string p.dst, .int .i64 p.sum, .int .i64 p.own, .slice p.cA p.cn p.cc, .int .i64 p.first, .int .i64 p.last, .int .i64 (1000 - s)] := ((Blk.new _ _ _).alloc _).drew
    have hv4 : Blk (((w3.alloc (.cells #[.string p.ins, .string p.fr, .string p.dst, .int .i64 p.sum, .int .i64 p.own, .slice p.cA p.cn p.cc, .int .i64 p.first, .int .i64 p.last, .int .i64 (1000 - s)] 24)).alloc (.cells #[.string p.ins, .string p.fr, .string p.dst, .int .i64 p.sum, .int .i64 p.own, .slice p.cA p.cn p.cc, .int .i64 p.first, .int .i64 p.last, .int .i64 s] 24)).drew) (w3.heap.size + 1) 24 #[.string p.ins, .string p.fr, .string p.dst, .int .i64 p.sum, .int .i64 p.own, .slice p.cA p.cn p.cc, .int .i64 p.first, .int .i64 p.last, .int .i64 s] := (Blk.new_at _ _ _ _ (by simp)).drew
    go_wp2_with (refine stop_load 24 _ rfl ?_; refine wpList_load_want rfl 24 _ rfl w.heap.size rfl 24 _ _ hk4 Try.underlying24 rfl (by kernel_rfl) ?_)
    refine (QN.out _ (HP.out.below hB4)).mono ?_
    rintro e w5 ⟨rfl, hb5⟩
    have hB5 := hB4.trans (hb5.mono hB4.size); have hu5 := hu4.below hb5 hu4.lt; have hv5 := hv4.below hb5 hv4.lt
    clear hk4 hB4 hu4 hv4 hb5 hk3 hB3
    clear a0 a1 a2 a3 a4 a5 a6 a7 a8
    go_wp2_with (refine stop_load 24 _ rfl ?_; refine wpList_load_want rfl 24 _ rfl (w3.heap.size + 1) rfl 24 _ _ hv5 Try.underlying24 rfl (by kernel_rfl) ?_)
    refine (QM.out _ (HP.out.below hB5)).mono ?_
    rintro e w6 ⟨rfl, hb6⟩
    have hB6 := hB5.trans (hb6.mono hB5.size); have hu6 := hu5.below hb6 hu5.lt; have hv6 := hv5.below hb6 hv5.lt
    clear hB5 hu5 hv5 hb6
    go_wp2_with (refine stop_load 24 _ rfl ?_; refine wpList_load_want rfl 24 _ rfl w3.heap.size rfl 24 _ _ hu6 Try.underlying24 rfl (by kernel_rfl) ?_)
    refine (QK.out _ (HP.out.below hB6)).mono ?_
    rintro e w7 ⟨rfl, hb7⟩
    have hB7 := hB6.trans (hb7.mono hB6.size)
    clear hB6 hu6 hv6 hb7
    cases b
    · obtain ⟨rfl, rfl⟩ := HB0.out rfl
      go_wp2_with fail
      go_ret
      exact ⟨rfl, hB7⟩
    · obtain ⟨x1, x2, x3, x4, x5, x6⟩ := HB1.out rfl
      have y0 : wrap64 (M + K) = M + K := by unfold wrap64; omega
      have y0' : wrap64 (N - 1) = N - 1 := by unfold wrap64; omega
      have y1 : decide (M + K ≤ N) = true := decide_eq_true x5
      have y2 : decide (N - 1 ≤ M + K) = true := decide_eq_true x6
      clear x1 x2 x3 x4 x5 x6
      go_wp2_with fail
      go_ret
      exact ⟨rfl, hB7⟩
theorem policyShares_walk (p : Pol) (s l v : Int) (w : World) (hp : p.ok w) : Calls Try.prog 5 #[.agg #[.string p.ins, .string p.fr, .string p.dst, .int .i64 p.sum, .int .i64 p.own, .slice p.cA p.cn p.cc, .int .i64 p.first, .int .i64 p.last, .int .i64 p.share], .int .i64 s, .int .i64 l, .int .i64 v] w fun e w' => e = .returned (.bool true) ∧ Below w.heap.size w w' := by
  cases hl : longB p
  · by_cases hs : 1 ≤ s ∧ s ≤ 999
    · have hok : ∀ (x : Int) (W : World), p.ok W → Pol.ok { p with share := x } W := fun x W h => ⟨h.i, h.f, h.t, h.n, h.nc, h.c⟩
      have hm1 : mayP { p with share := s } = mayP { p with share := 1000 } := may_share (by omega) (by omega)
      have hm2 : mayP { p with share := 1000 - s } = mayP { p with share := 1000 } := may_share (by omega) (by omega)
      cases hy : paysB { p with share := 1000 } l v
      · have hf : ∀ x, mayP { p with share := x } = mayP { p with share := 1000 } → paysB { p with share := x } l v = false := fun x hx => by
          unfold paysB fineB at hy ⊢; rw [hx]; exact hy
        exact shares_in p s l v 0 0 0 false w hp hl hs (Lib.hid fun W h => pays_no { p with share := 1000 } l v W (hok _ W h) hy) (Lib.hid fun W h => pays_no { p with share := s } l v W (hok _ W h) (hf _ hm1)) (Lib.hid fun W h => pays_no { p with share := 1000 - s } l v W (hok _ W h) (hf _ hm2)) (fun _ => ⟨rfl, rfl⟩) (fun h => by cases h)
      · simp only [paysB, fineB, inr, Bool.and_eq_true, decide_eq_true_eq] at hy
        obtain ⟨⟨hm, hv⟩, hlb⟩ := hy
        have hb := pay_bd hv.1 hlb.1 hm
        have hb1 := pay_bd hv.1 hlb.1 (hm1.trans hm)
        have hb2 := pay_bd hv.1 hlb.1 (hm2.trans hm)
        have ht := thou_two (x := max (partV p l v - p.own) 0) (s := s) (by omega)
        exact shares_in p s l v (payV { p with share := 1000 } l v) (payV { p with share := s } l v) (payV { p with share := 1000 - s } l v) true w hp hl hs (Lib.hid fun W h => pays_yes { p with share := 1000 } l v W (hok _ W h) hm hv hlb) (Lib.hid fun W h => pays_yes { p with share := s } l v W (hok _ W h) (hm1.trans hm) hv hlb) (Lib.hid fun W h => pays_yes { p with share := 1000 - s } l v W (hok _ W h) (hm2.trans hm) hv hlb) (fun h => by cases h)
          (fun _ => ⟨hb.1, by omega, hb1.1, hb2.1, ht.1, ht.2⟩)
    · exact shares_out p s l v w hp (by omega)
  · exact shares_out p s l v w hp (.inl hl)
end Go.Proofs.Ytembipmficppnaa
