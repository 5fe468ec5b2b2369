/- What is insured, and paid: the document; the length of a policy's texts; the chapter's example. No condition. -/
import Derived.Test.YtembipmficppnaaPays
import Derived.Test.YtembipmficppnaaMayR
import Derived.Test.YtembipmficppnaaScaled
namespace Go.Proofs.Ytembipmficppnaa.kit
open Go.RowKit
set_option linter.unusedVariables false

theorem rins_any (p : Pol) (v : Int) (w : World) : Calls Try.prog 14 #[.agg #[.string p.ins, .string p.fr, .string p.dst, .int .i64 p.sum, .int .i64 p.own, .slice p.cA p.cn p.cc, .int .i64 p.first, .int .i64 p.last, .int .i64 p.share], .int .i64 v] w fun e w' => e = .returned (.int .i64 (insV p v)) ∧ Below w.heap.size w w' := by
  have hB0 : Below w.heap.size w (w.alloc (.cells #[.string p.ins, .string p.fr, .string p.dst, .int .i64 p.sum, .int .i64 p.own, .slice p.cA p.cn p.cc, .int .i64 p.first, .int .i64 p.last, .int .i64 p.share] 24)) := (Below.refl _ _).alloc (Nat.le_refl _) _
  have hk0 : Blk (w.alloc (.cells #[.string p.ins, .string p.fr, .string p.dst, .int .i64 p.sum, .int .i64 p.own, .slice p.cA p.cn p.cc, .int .i64 p.first, .int .i64 p.last, .int .i64 p.share] 24)) w.heap.size 24 #[.string p.ins, .string p.fr, .string p.dst, .int .i64 p.sum, .int .i64 p.own, .slice p.cA p.cn p.cc, .int .i64 p.first, .int .i64 p.last, .int .i64 p.share] := Blk.new _ _ _
  have a0 := hk0.cell 0; have a1 := hk0.cell 1; have a2 := hk0.cell 2; have a3 := hk0.cell 3; have a4 := hk0.cell 4; have a5 := hk0.cell 5; have a6 := hk0.cell 6; have a7 := hk0.cell 7; have a8 := hk0.cell 8
  simp only [List.getElem?_toArray, List.getElem?_cons_zero, List.getElem?_cons_succ] at a0 a1 a2 a3 a4 a5 a6 a7 a8
  rcases Int.lt_or_le v p.sum with k | k
  · have E : Hid (v = insV p v) := Lib.hid (by unfold insV; omega)
    go_enter Try.func14, Try.ntmps14
    go_wp2_with fail
    go_ret
    exact ⟨ret_int E.out, hB0⟩
  · have E : Hid (p.sum = insV p v) := Lib.hid (by unfold insV; omega)
    have k' : ¬ v < p.sum := by omega
    go_enter Try.func14, Try.ntmps14
    go_wp2_with fail
    go_ret
    exact ⟨ret_int E.out, hB0⟩
theorem scaled_int (a b c : Int) (ha : 0 ≤ a ∧ a ≤ c) (hb : 0 ≤ b ∧ b ≤ 1099511627776) (hc : 0 < c ∧ c ≤ 1099511627776) (w : World) :
    Calls Try.prog 25 #[.int .i64 a, .int .i64 b, .int .i64 c] w fun e w' => e = .returned (.int .i64 (a * b / c)) ∧ Below w.heap.size w w' := by
  obtain ⟨a, rfl⟩ := Int.eq_ofNat_of_zero_le ha.1
  obtain ⟨b, rfl⟩ := Int.eq_ofNat_of_zero_le hb.1
  obtain ⟨c, rfl⟩ := Int.eq_ofNat_of_zero_le (Int.le_of_lt hc.1)
  have e : ((a : Int) * (b : Int) / (c : Int)) = ((a * b / c : Nat) : Int) := by rw [Int.natCast_ediv, Int.natCast_mul]
  rw [e]
  exact scaled_nat a b c (by omega) (by omega) (by omega) (by omega) w
set_option maxRecDepth 100000 in
set_option maxHeartbeats 3200000 in
theorem rlong_any (p : Pol) (w : World) : Calls Try.prog 10 #[.agg #[.string p.ins, .string p.fr, .string p.dst, .int .i64 p.sum, .int .i64 p.own, .slice p.cA p.cn p.cc, .int .i64 p.first, .int .i64 p.last, .int .i64 p.share]] w fun e w' => e = .returned (.bool (longB p)) ∧ Below w.heap.size w w' := by
  have hB0 : Below w.heap.size w (w.alloc (.cells #[.string p.ins, .string p.fr, .string p.dst, .int .i64 p.sum, .int .i64 p.own, .slice p.cA p.cn p.cc, .int .i64 p.first, .int .i64 p.last, .int .i64 p.share] 24)) := (Below.refl _ _).alloc (Nat.le_refl _) _
  have hk0 : Blk (w.alloc (.cells #[.string p.ins, .string p.fr, .string p.dst, .int .i64 p.sum, .int .i64 p.own, .slice p.cA p.cn p.cc, .int .i64 p.first, .int .i64 p.last, .int .i64 p.share] 24)) w.heap.size 24 #[.string p.ins, .string p.fr, .string p.dst, .int .i64 p.sum, .int .i64 p.own, .slice p.cA p.cn p.cc, .int .i64 p.first, .int .i64 p.last, .int .i64 p.share] := Blk.new _ _ _
  have a0 := hk0.cell 0; have a1 := hk0.cell 1; have a2 := hk0.cell 2; have a3 := hk0.cell 3; have a4 := hk0.cell 4; have a5 := hk0.cell 5; have a6 := hk0.cell 6; have a7 := hk0.cell 7; have a8 := hk0.cell 8
  simp only [List.getElem?_toArray, List.getElem?_cons_zero, List.getElem?_cons_succ] at a0 a1 a2 a3 a4 a5 a6 a7 a8
  cases e0 : decide (100 < p.ins.size)
  rotate_left
  · have E : Hid (true = longB p) := Lib.hid (by unfold longB; rw [e0]; rfl)
    have i0 : decide ((100 : Int) < (p.ins.size : Int)) = true := decide_eq_true (by have := of_decide_eq_true e0; omega)
    go_enter Try.func10, Try.ntmps10
    go_wp2_with fail
    go_ret
    exact ⟨ret_bool E.out, hB0⟩
  have i0 : decide ((100 : Int) < (p.ins.size : Int)) = false := decide_eq_false (by have := of_decide_eq_false e0; omega)
  cases e1 : decide (100 < p.fr.size)
  rotate_left
  · have E : Hid (true = longB p) := Lib.hid (by unfold longB; rw [e0, e1]; rfl)
    have i1 : decide ((100 : Int) < (p.fr.size : Int)) = true := decide_eq_true (by have := of_decide_eq_true e1; omega)
    go_enter Try.func10, Try.ntmps10
    go_wp2_with fail
    go_ret
    exact ⟨ret_bool E.out, hB0⟩
  have i1 : decide ((100 : Int) < (p.fr.size : Int)) = false := decide_eq_false (by have := of_decide_eq_false e1; omega)
  cases e2 : decide (100 < p.dst.size)
  rotate_left
  · have E : Hid (true = longB p) := Lib.hid (by unfold longB; rw [e0, e1, e2]; rfl)
    have i2 : decide ((100 : Int) < (p.dst.size : Int)) = true := decide_eq_true (by have := of_decide_eq_true e2; omega)
    go_enter Try.func10, Try.ntmps10
    go_wp2_with fail
    go_ret
    exact ⟨ret_bool E.out, hB0⟩
  have i2 : decide ((100 : Int) < (p.dst.size : Int)) = false := decide_eq_false (by have := of_decide_eq_false e2; omega)
  have E : Hid (decide (100 < p.cn) = longB p) := Lib.hid (by unfold longB; rw [e0, e1, e2]; rfl)
  cases e3 : decide (100 < p.cn)
  · have i3 : decide ((100 : Int) < (p.cn : Int)) = false := decide_eq_false (by have := of_decide_eq_false e3; omega)
    rw [e3] at E
    go_enter Try.func10, Try.ntmps10
    go_wp2_with fail
    go_ret
    exact ⟨ret_bool E.out, hB0⟩
  · have i3 : decide ((100 : Int) < (p.cn : Int)) = true := decide_eq_true (by have := of_decide_eq_true e3; omega)
    rw [e3] at E
    go_enter Try.func10, Try.ntmps10
    go_wp2_with fail
    go_ret
    exact ⟨ret_bool E.out, hB0⟩

def polA : Pol := ⟨⟨#[110]⟩, ⟨#[97]⟩, ⟨#[98]⟩, 600, 50, none, 0, 0, 0, 0, 1000, []⟩
theorem polA_ok (w : World) : polA.ok w := ⟨by decide, by decide, by decide, by decide, by decide, SliceOf.none_⟩
theorem polA_may : mayP polA = true := by decide +kernel
theorem polA_pay : payV polA 500 1000 = 250 := by decide +kernel
set_option maxRecDepth 100000 in
theorem awake_any (w : World) : Calls Try.prog 9 #[] w fun e w' => e = .returned (.bool true) ∧ Below w.heap.size w w' := by
  go_enter Try.func9, Try.ntmps9
  go_wp2_with fail
  refine (pays_yes polA 500 1000 _ (polA_ok _) polA_may (by decide) (by decide)).mono ?_
  rw [polA_pay]
  rintro e w1 ⟨rfl, hb1⟩
  go_wp2_with fail
  go_ret
  exact ⟨rfl, hb1⟩

set_option maxRecDepth 100000 in
set_option maxHeartbeats 3200000 in
theorem rpays_any (p : Pol) (l v : Int) (w : World) (hp : p.ok w) (hm : mayP p = true) (hv : 1 ≤ v ∧ v ≤ 1099511627776) (hl : 0 ≤ l ∧ l ≤ 1099511627776) :
    Calls Try.prog 15 #[.agg #[.string p.ins, .string p.fr, .string p.dst, .int .i64 p.sum, .int .i64 p.own, .slice p.cA p.cn p.cc, .int .i64 p.first, .int .i64 p.last, .int .i64 p.share], .int .i64 l, .int .i64 v] w fun e w' => e = .returned (.int .i64 (payV p l v)) ∧ Below w.heap.size w w' := by
  obtain ⟨h1, h2, h3, h4⟩ := may_iff hm
  have hb := part_bd (p := p) hv.1 hl.1 h1.1
  have hi := ins_bd (p := p) hv.1 h1.1
  have hpay : payV p l v = max (partV p l v - p.own) 0 * p.share / 1000 := rfl
  have hpart : partV p l v = min l v * insV p v / v := rfl
  clear hm h4 hp
  obtain ⟨I, hI'⟩ : ∃ x, insV p v = x := ⟨_, rfl⟩
  obtain ⟨q, hq⟩ : ∃ x, partV p l v = x := ⟨_, rfl⟩
  rw [hq] at hpay hpart hb
  rw [hI'] at hpart hb hi
  have hI := Lib.hid hI'
  rw [hpay]
  clear hpay hq hI'
  have hqo : wrap64 (q - p.own) = q - p.own := by unfold wrap64; omega
  have hth := fun n hn => thou_le (n := n) (s := p.share) hn (by omega)
  have hmb : 0 ≤ min l v ∧ min l v ≤ v := by omega
  obtain ⟨m, hmm⟩ : ∃ x, min l v = x := ⟨_, rfl⟩
  rw [hmm] at hpart hmb
  have QI : Hid (∀ W : World, Calls Try.prog 14 #[.agg #[.string p.ins, .string p.fr, .string p.dst, .int .i64 p.sum, .int .i64 p.own, .slice p.cA p.cn p.cc, .int .i64 p.first, .int .i64 p.last, .int .i64 p.share], .int .i64 v] W fun e w' => e = .returned (.int .i64 I) ∧ Below W.heap.size W w') := Lib.hid fun W => by
    have := rins_any p v W
    rw [hI.out] at this
    exact this
  have QS : Hid (∀ W : World, Calls Try.prog 25 #[.int .i64 m, .int .i64 I, .int .i64 v] W fun e w' => e = .returned (.int .i64 q) ∧ Below W.heap.size W w') := Lib.hid fun W => by
    have := scaled_int m I v hmb (by omega) (by omega) W
    rw [← hpart] at this
    exact this
  clear hpart
  have hB0 : Below w.heap.size w (w.alloc (.cells #[.string p.ins, .string p.fr, .string p.dst, .int .i64 p.sum, .int .i64 p.own, .slice p.cA p.cn p.cc, .int .i64 p.first, .int .i64 p.last, .int .i64 p.share] 24)) := (Below.refl _ _).alloc (Nat.le_refl _) _
  have hk0 : Blk (w.alloc (.cells #[.string p.ins, .string p.fr, .string p.dst, .int .i64 p.sum, .int .i64 p.own, .slice p.cA p.cn p.cc, .int .i64 p.first, .int .i64 p.last, .int .i64 p.share] 24)) w.heap.size 24 #[.string p.ins, .string p.fr, .string p.dst, .int .i64 p.sum, .int .i64 p.own, .slice p.cA p.cn p.cc, .int .i64 p.first, .int .i64 p.last, .int .i64 p.share] := Blk.new _ _ _
  have a0 := hk0.cell 0; have a1 := hk0.cell 1; have a2 := hk0.cell 2; have a3 := hk0.cell 3; have a4 := hk0.cell 4; have a5 := hk0.cell 5; have a6 := hk0.cell 6; have a7 := hk0.cell 7; have a8 := hk0.cell 8
  simp only [List.getElem?_toArray, List.getElem?_cons_zero, List.getElem?_cons_succ] at a0 a1 a2 a3 a4 a5 a6 a7 a8
  have p0 := wof_cell a0; have p1 := wof_cell a1; have p2 := wof_cell a2; have p3 := wof_cell a3; have p4 := wof_cell a4; have p5 := wof_cell a5; have p6 := wof_cell a6; have p7 := wof_cell a7; have p8 := wof_cell a8
  have HTH := Lib.hid hth
  clear hth
  rcases Int.lt_or_le (q - p.own) 0 with k2 | k2
  · have E : Hid ((0 : Int) = max (q - p.own) 0 * p.share / 1000) := Lib.hid (by rw [show max (q - p.own) 0 = 0 by omega]; omega)
    rcases Int.lt_or_le v l with k1 | k1
    · obtain rfl : m = v := by omega
      go_enter Try.func15, Try.ntmps15
      go_wp2_with fail
      refine wp_region_quiet_below (by kernel_rfl) (by kernel_rfl) ?_
      repeat (go_big_quiet_step ((first | (go_at_call 14; exact quiet_below (QI.out _)) | (go_at_call 25; exact quiet_below (QS.out _)))))
      refine wpQuiet_nil ?_
      intro w7 hb7
      have hB7 := hB0.trans (hb7.mono hB0.size)
      have hk7 := hk0.below hb7 hk0.lt
      clear p0 p1 p2 p3 p4 p5 p6 p7 p8
      clear a0 a1 a2 a3 a4 a5 a6 a7 a8
      have a0 := hk7.cell 0; have a1 := hk7.cell 1; have a2 := hk7.cell 2; have a3 := hk7.cell 3; have a4 := hk7.cell 4; have a5 := hk7.cell 5; have a6 := hk7.cell 6; have a7 := hk7.cell 7; have a8 := hk7.cell 8
      simp only [List.getElem?_toArray, List.getElem?_cons_zero, List.getElem?_cons_succ] at a0 a1 a2 a3 a4 a5 a6 a7 a8
      go_wp2_with fail
      go_ret
      exact ⟨ret_int E.out, hB7⟩
    · obtain rfl : m = l := by omega
      have k1' : ¬ v < m := by omega
      go_enter Try.func15, Try.ntmps15
      go_wp2_with fail
      refine wp_region_quiet_below (by kernel_rfl) (by kernel_rfl) ?_
      repeat (go_big_quiet_step ((first | (go_at_call 14; exact quiet_below (QI.out _)) | (go_at_call 25; exact quiet_below (QS.out _)))))
      refine wpQuiet_nil ?_
      intro w7 hb7
      have hB7 := hB0.trans (hb7.mono hB0.size)
      have hk7 := hk0.below hb7 hk0.lt
      clear p0 p1 p2 p3 p4 p5 p6 p7 p8
      clear a0 a1 a2 a3 a4 a5 a6 a7 a8
      have a0 := hk7.cell 0; have a1 := hk7.cell 1; have a2 := hk7.cell 2; have a3 := hk7.cell 3; have a4 := hk7.cell 4; have a5 := hk7.cell 5; have a6 := hk7.cell 6; have a7 := hk7.cell 7; have a8 := hk7.cell 8
      simp only [List.getElem?_toArray, List.getElem?_cons_zero, List.getElem?_cons_succ] at a0 a1 a2 a3 a4 a5 a6 a7 a8
      go_wp2_with fail
      go_ret
      exact ⟨ret_int E.out, hB7⟩
  · have hx := HTH.out (q - p.own) k2
    have E : Hid ((q - p.own) * p.share / 1000 = max (q - p.own) 0 * p.share / 1000) := Lib.hid (by rw [show max (q - p.own) 0 = q - p.own by omega])
    have k2' : ¬ q - p.own < 0 := by omega
    rcases Int.lt_or_le v l with k1 | k1
    · obtain rfl : m = v := by omega
      go_enter Try.func15, Try.ntmps15
      go_wp2_with fail
      refine wp_region_quiet_below (by kernel_rfl) (by kernel_rfl) ?_
      repeat (go_big_quiet_step ((first | (go_at_call 14; exact quiet_below (QI.out _)) | (go_at_call 25; exact quiet_below (QS.out _)))))
      refine wpQuiet_nil ?_
      intro w7 hb7
      have hB7 := hB0.trans (hb7.mono hB0.size)
      have hk7 := hk0.below hb7 hk0.lt
      clear p0 p1 p2 p3 p4 p5 p6 p7 p8
      clear a0 a1 a2 a3 a4 a5 a6 a7 a8
      have a0 := hk7.cell 0; have a1 := hk7.cell 1; have a2 := hk7.cell 2; have a3 := hk7.cell 3; have a4 := hk7.cell 4; have a5 := hk7.cell 5; have a6 := hk7.cell 6; have a7 := hk7.cell 7; have a8 := hk7.cell 8
      simp only [List.getElem?_toArray, List.getElem?_cons_zero, List.getElem?_cons_succ] at a0 a1 a2 a3 a4 a5 a6 a7 a8
      go_wp2_with fail
      go_ret
      exact ⟨ret_int E.out, hB7⟩
    · obtain rfl : m = l := by omega
      have k1' : ¬ v < m := by omega
      go_enter Try.func15, Try.ntmps15
      go_wp2_with fail
      refine wp_region_quiet_below (by kernel_rfl) (by kernel_rfl) ?_
      repeat (go_big_quiet_step ((first | (go_at_call 14; exact quiet_below (QI.out _)) | (go_at_call 25; exact quiet_below (QS.out _)))))
      refine wpQuiet_nil ?_
      intro w7 hb7
      have hB7 := hB0.trans (hb7.mono hB0.size)
      have hk7 := hk0.below hb7 hk0.lt
      clear p0 p1 p2 p3 p4 p5 p6 p7 p8
      clear a0 a1 a2 a3 a4 a5 a6 a7 a8
      have a0 := hk7.cell 0; have a1 := hk7.cell 1; have a2 := hk7.cell 2; have a3 := hk7.cell 3; have a4 := hk7.cell 4; have a5 := hk7.cell 5; have a6 := hk7.cell 6; have a7 := hk7.cell 7; have a8 := hk7.cell 8
      simp only [List.getElem?_toArray, List.getElem?_cons_zero, List.getElem?_cons_succ] at a0 a1 a2 a3 a4 a5 a6 a7 a8
      go_wp2_with fail
      go_ret
      exact ⟨ret_int E.out, hB7⟩
end Go.Proofs.Ytembipmficppnaa.kit
