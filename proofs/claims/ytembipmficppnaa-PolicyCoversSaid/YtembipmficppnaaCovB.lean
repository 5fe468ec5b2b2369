/- Whether a box is on its way, and what is covered: the program. No condition. -/
import Derived.Test.YtembipmficppnaaCovA
import Derived.Test.YtembipmficppnaaMore
namespace Go.Proofs.Ytembipmficppnaa.kit
open Go.RowKit
set_option linter.unusedVariables false

set_option maxRecDepth 100000 in
set_option maxHeartbeats 3200000 in
theorem onWay_any (p : Pol) (A : Option Addr) (n c : Nat) (xs : List Hd) (day : Int) (w : World) (hx : SliceOf w 5 hdC A n xs) (hm : n ≤ 1000) (hnc : n ≤ c) (hcm : c ≤ maxLen) :
    Calls Try.prog 30 #[.agg #[.string p.ins, .string p.fr, .string p.dst, .int .i64 p.sum, .int .i64 p.own, .slice p.cA p.cn p.cc, .int .i64 p.first, .int .i64 p.last, .int .i64 p.share], .slice A n c, .int .i64 day] w fun e w' => e = .returned (.bool (wayA p.fr p.dst day xs)) ∧ Below w.heap.size w w' := by
  have HX := Lib.hid hx
  have hxl := hx.len
  have hm' : n ≤ maxLen := by unfold maxLen; omega
  unfold maxLen at hcm
  clear hx
  have hB0 : Below w.heap.size w (w.alloc (.cells #[.string p.ins, .string p.fr, .string p.dst, .int .i64 p.sum, .int .i64 p.own, .slice p.cA p.cn p.cc, .int .i64 p.first, .int .i64 p.last, .int .i64 p.share] 24)) := (Below.refl _ _).alloc (Nat.le_refl _) _
  have hk0 : Blk (w.alloc (.cells #[.string p.ins, .string p.fr, .string p.dst, .int .i64 p.sum, .int .i64 p.own, .slice p.cA p.cn p.cc, .int .i64 p.first, .int .i64 p.last, .int .i64 p.share] 24)) w.heap.size 24 #[.string p.ins, .string p.fr, .string p.dst, .int .i64 p.sum, .int .i64 p.own, .slice p.cA p.cn p.cc, .int .i64 p.first, .int .i64 p.last, .int .i64 p.share] := Blk.new _ _ _
  rcases first_or p.fr xs with hall | ⟨k, x, hk, hxp, hall⟩
  · have E := Lib.hid (wayA_none (q := p.dst) (day := day) hall)
    have HA := Lib.hid hall
    clear hall
    have a0 := hk0.cell 0; have a1 := hk0.cell 1; have a2 := hk0.cell 2; have a3 := hk0.cell 3; have a4 := hk0.cell 4; have a5 := hk0.cell 5; have a6 := hk0.cell 6; have a7 := hk0.cell 7; have a8 := hk0.cell 8
    simp only [List.getElem?_toArray, List.getElem?_cons_zero, List.getElem?_cons_succ] at a0 a1 a2 a3 a4 a5 a6 a7 a8
    go_enter Try.func30, Try.ntmps30
    go_wp2_with fail
    refine (idx_a_none p w.heap.size A n c xs _ hk0 (HX.out.below hB0) hm' HA.out).mono ?_
    skip
    rintro e w1 ⟨rfl, hb1⟩
    clear a0 a1 a2 a3 a4 a5 a6 a7 a8
    have hB1 := hB0.trans (hb1.mono hB0.size)
    have hk1 := hk0.below hb1 hk0.lt
    clear hB0 hk0 hb1
    have a0 := hk1.cell 0; have a1 := hk1.cell 1; have a2 := hk1.cell 2; have a3 := hk1.cell 3; have a4 := hk1.cell 4; have a5 := hk1.cell 5; have a6 := hk1.cell 6; have a7 := hk1.cell 7; have a8 := hk1.cell 8
    simp only [List.getElem?_toArray, List.getElem?_cons_zero, List.getElem?_cons_succ] at a0 a1 a2 a3 a4 a5 a6 a7 a8
    go_wp2_with fail
    go_ret
    exact ⟨ret_bool E.out.symm, hB1⟩
  have hkn : k < n := by have := (List.getElem?_eq_some_iff.1 hk).1; omega
  have E := Lib.hid (wayA_some (q := p.dst) (day := day) hk hxp hall)
  have HA := Lib.hid hall; have HP := Lib.hid hxp; have HK := Lib.hid hk
  have hD := HX.out.drop_ (k := k + 1) (by omega) hnc
  obtain ⟨b, off, rfl, hb, hc⟩ := HX.out.at_ (by omega)
  have c4 : ∀ w', Below w.heap.size w w' → w'.cell? ⟨b, off + k * 5 + 4, none⟩ = some (.int .i64 x.day) := fun w' hbel => (hbel.cell hb).trans (hc k _ hk 4 _ rfl)
  have HC4 := Lib.hid c4
  have hki : (k : Int) < (n : Int) := by omega
  clear hall hxp hk hc c4
  by_cases q1 : day < x.day
  · have d1 : decide (day < x.day) = true := decide_eq_true q1
    rw [d1] at E
    have a0 := hk0.cell 0; have a1 := hk0.cell 1; have a2 := hk0.cell 2; have a3 := hk0.cell 3; have a4 := hk0.cell 4; have a5 := hk0.cell 5; have a6 := hk0.cell 6; have a7 := hk0.cell 7; have a8 := hk0.cell 8
    simp only [List.getElem?_toArray, List.getElem?_cons_zero, List.getElem?_cons_succ] at a0 a1 a2 a3 a4 a5 a6 a7 a8
    go_enter Try.func30, Try.ntmps30
    go_wp2_with fail
    refine (idx_a_some p w.heap.size (some ⟨b, off, none⟩) n c xs _ hk0 (HX.out.below hB0) hm' k x HK.out HP.out HA.out).mono ?_
    skip
    rintro e w1 ⟨rfl, hb1⟩
    clear a0 a1 a2 a3 a4 a5 a6 a7 a8
    have hB1 := hB0.trans (hb1.mono hB0.size)
    have hk1 := hk0.below hb1 hk0.lt
    clear hB0 hk0 hb1
    have a0 := hk1.cell 0; have a1 := hk1.cell 1; have a2 := hk1.cell 2; have a3 := hk1.cell 3; have a4 := hk1.cell 4; have a5 := hk1.cell 5; have a6 := hk1.cell 6; have a7 := hk1.cell 7; have a8 := hk1.cell 8
    simp only [List.getElem?_toArray, List.getElem?_cons_zero, List.getElem?_cons_succ] at a0 a1 a2 a3 a4 a5 a6 a7 a8
    have e4 := HC4.out _ hB1
    go_wp2_with fail
    go_ret
    exact ⟨ret_bool E.out.symm, hB1⟩
  have d1 : decide (day < x.day) = false := decide_eq_false q1
  rw [d1] at E
  by_cases hck : c = k + 1
  · subst hck
    obtain rfl : n = k + 1 := by omega
    have hnil : xs.drop (k + 1) = [] := List.drop_eq_nil_of_le (by omega)
    rw [hnil] at E
    clear hD
    have a0 := hk0.cell 0; have a1 := hk0.cell 1; have a2 := hk0.cell 2; have a3 := hk0.cell 3; have a4 := hk0.cell 4; have a5 := hk0.cell 5; have a6 := hk0.cell 6; have a7 := hk0.cell 7; have a8 := hk0.cell 8
    simp only [List.getElem?_toArray, List.getElem?_cons_zero, List.getElem?_cons_succ] at a0 a1 a2 a3 a4 a5 a6 a7 a8
    go_enter Try.func30, Try.ntmps30
    go_wp2_with fail
    refine (idx_a_some p w.heap.size (some ⟨b, off, none⟩) (k + 1) (k + 1) xs _ hk0 (HX.out.below hB0) hm' k x HK.out HP.out HA.out).mono ?_
    skip
    rintro e w1 ⟨rfl, hb1⟩
    clear a0 a1 a2 a3 a4 a5 a6 a7 a8
    have hB1 := hB0.trans (hb1.mono hB0.size)
    have hk1 := hk0.below hb1 hk0.lt
    clear hB0 hk0 hb1
    have a0 := hk1.cell 0; have a1 := hk1.cell 1; have a2 := hk1.cell 2; have a3 := hk1.cell 3; have a4 := hk1.cell 4; have a5 := hk1.cell 5; have a6 := hk1.cell 6; have a7 := hk1.cell 7; have a8 := hk1.cell 8
    simp only [List.getElem?_toArray, List.getElem?_cons_zero, List.getElem?_cons_succ] at a0 a1 a2 a3 a4 a5 a6 a7 a8
    have e4 := HC4.out _ hB1
    go_wp2_with fail
    refine (idx_b_none p w.heap.size _ 0 _ [] _ hk1 SliceOf.none_ (by decide) (by simp)).mono ?_
    rintro e w2 ⟨rfl, hb2⟩
    have hB2 := hB1.trans (hb2.mono hB1.size)
    clear e4
    go_wp2_with fail
    go_ret
    exact ⟨ret_bool E.out.symm, hB2⟩
  have hD' : SliceOf w 5 hdC (some ⟨b, off + (k + 1) * 5, none⟩) (n - (k + 1)) (xs.drop (k + 1)) := by
    rw [if_neg hck] at hD
    simpa [addr_add] using hD
  have HD := Lib.hid hD'
  have hdl := hD'.len
  clear hD hD'
  obtain ⟨ys, hys⟩ : ∃ ys, xs.drop (k + 1) = ys := ⟨_, rfl⟩
  rw [hys] at E HD hdl
  clear hys
  have hkc : (k : Int) + 1 ≤ (c : Int) := by omega
  have hkn1 : (k : Int) + 1 ≤ (n : Int) := by omega
  have hmm : n - (k + 1) ≤ maxLen := by unfold maxLen; omega
  rcases first_or p.dst ys with hall2 | ⟨k2, y, hk2, hyp, hall2⟩
  · have E2 := Lib.hid (wayB_none (day := day) hall2)
    have HA2 := Lib.hid hall2
    clear hall2
    have a0 := hk0.cell 0; have a1 := hk0.cell 1; have a2 := hk0.cell 2; have a3 := hk0.cell 3; have a4 := hk0.cell 4; have a5 := hk0.cell 5; have a6 := hk0.cell 6; have a7 := hk0.cell 7; have a8 := hk0.cell 8
    simp only [List.getElem?_toArray, List.getElem?_cons_zero, List.getElem?_cons_succ] at a0 a1 a2 a3 a4 a5 a6 a7 a8
    go_enter Try.func30, Try.ntmps30
    go_wp2_with fail
    refine (idx_a_some p w.heap.size (some ⟨b, off, none⟩) n c xs _ hk0 (HX.out.below hB0) hm' k x HK.out HP.out HA.out).mono ?_
    skip
    rintro e w1 ⟨rfl, hb1⟩
    clear a0 a1 a2 a3 a4 a5 a6 a7 a8
    have hB1 := hB0.trans (hb1.mono hB0.size)
    have hk1 := hk0.below hb1 hk0.lt
    clear hB0 hk0 hb1
    have a0 := hk1.cell 0; have a1 := hk1.cell 1; have a2 := hk1.cell 2; have a3 := hk1.cell 3; have a4 := hk1.cell 4; have a5 := hk1.cell 5; have a6 := hk1.cell 6; have a7 := hk1.cell 7; have a8 := hk1.cell 8
    simp only [List.getElem?_toArray, List.getElem?_cons_zero, List.getElem?_cons_succ] at a0 a1 a2 a3 a4 a5 a6 a7 a8
    have e4 := HC4.out _ hB1
    go_wp2_with fail
    refine (idx_b_none p w.heap.size _ (n - (k + 1)) _ ys _ hk1 (HD.out.below hB1) hmm HA2.out).mono ?_
    rintro e w2 ⟨rfl, hb2⟩
    have hB2 := hB1.trans (hb2.mono hB1.size)
    clear e4
    go_wp2_with fail
    go_ret
    exact ⟨ret_bool (E.out.trans (by rw [E2.out]; rfl)).symm, hB2⟩
  · have E2 := Lib.hid (wayB_some (day := day) hk2 hyp hall2)
    have HA2 := Lib.hid hall2; have HP2 := Lib.hid hyp; have HK2 := Lib.hid hk2
    have hk2n : k2 < n - (k + 1) := by have := (List.getElem?_eq_some_iff.1 hk2).1; omega
    obtain ⟨b', off', hA', hb', hc'⟩ := HD.out.at_ (by omega)
    have hA'' : b' = b ∧ off' = off + (k + 1) * 5 := by
      injection hA' with hA'; injection hA' with h1 h2; exact ⟨h1.symm, h2.symm⟩
    obtain ⟨rfl, rfl⟩ := hA''
    have c5 : ∀ w', Below w.heap.size w w' → w'.cell? ⟨b', off + (k + 1) * 5 + k2 * 5 + 4, none⟩ = some (.int .i64 y.day) := fun w' hbel => (hbel.cell hb').trans (hc' k2 _ hk2 4 _ rfl)
    have HC5 := Lib.hid c5
    have hk2i : (k2 : Int) < ((n - (k + 1) : Nat) : Int) := by omega
    clear hall2 hyp hk2 hA' hc' c5
    have a0 := hk0.cell 0; have a1 := hk0.cell 1; have a2 := hk0.cell 2; have a3 := hk0.cell 3; have a4 := hk0.cell 4; have a5 := hk0.cell 5; have a6 := hk0.cell 6; have a7 := hk0.cell 7; have a8 := hk0.cell 8
    simp only [List.getElem?_toArray, List.getElem?_cons_zero, List.getElem?_cons_succ] at a0 a1 a2 a3 a4 a5 a6 a7 a8
    go_enter Try.func30, Try.ntmps30
    go_wp2_with fail
    refine (idx_a_some p w.heap.size (some ⟨b', off, none⟩) n c xs _ hk0 (HX.out.below hB0) hm' k x HK.out HP.out HA.out).mono ?_
    skip
    rintro e w1 ⟨rfl, hb1⟩
    clear a0 a1 a2 a3 a4 a5 a6 a7 a8
    have hB1 := hB0.trans (hb1.mono hB0.size)
    have hk1 := hk0.below hb1 hk0.lt
    clear hB0 hk0 hb1
    have a0 := hk1.cell 0; have a1 := hk1.cell 1; have a2 := hk1.cell 2; have a3 := hk1.cell 3; have a4 := hk1.cell 4; have a5 := hk1.cell 5; have a6 := hk1.cell 6; have a7 := hk1.cell 7; have a8 := hk1.cell 8
    simp only [List.getElem?_toArray, List.getElem?_cons_zero, List.getElem?_cons_succ] at a0 a1 a2 a3 a4 a5 a6 a7 a8
    have e4 := HC4.out _ hB1
    go_wp2_with fail
    refine (idx_b_some p w.heap.size _ (n - (k + 1)) _ ys _ hk1 (HD.out.below hB1) hmm k2 y HK2.out HP2.out HA2.out).mono ?_
    rintro e w2 ⟨rfl, hb2⟩
    have hB2 := hB1.trans (hb2.mono hB1.size)
    have e5 := HC5.out _ hB2
    clear e4
    go_wp2_with fail
    go_ret
    exact ⟨ret_bool (by rw [E.out, E2.out]; simp; omega), hB2⟩

theorem contains_any (A : Option Addr) (n c : Nat) (xs : List Int) (q : Int) (w : World) (hx : SliceOf w 1 intC A n xs) (hm : n ≤ maxLen) :
    Calls Try.prog 29 #[.slice A n c, .int .i64 q] w fun e w' => e = .returned (.bool (xs.contains q)) ∧ w' = w := by
  have hl := hx.len
  rcases hx.cells with rfl | ⟨b, off, rfl, hb, hc⟩
  · obtain rfl : xs = [] := List.length_eq_zero_iff.1 hl
    exact Try.slices_Contains_int_empty A c q w
  · have := Try.slices_Contains_int b off n c xs q w (by omega) (by unfold maxLen at hm; omega) (fun j hj => by
      have h := hc j xs[j] (List.getElem?_eq_getElem hj) 0 _ rfl
      simp only [Nat.mul_one, Nat.add_zero] at h
      rw [h, List.getD_eq_getElem?_getD, List.getElem?_eq_getElem hj]
      rfl)
    rwa [List.take_of_length_le (by omega)] at this

set_option maxRecDepth 100000 in
set_option maxHeartbeats 3200000 in
theorem covers_any (p : Pol) (A : Option Addr) (n c : Nat) (xs : List Hd) (cause day : Int) (w : World) (hp : p.ok w) (hx : SliceOf w 5 hdC A n xs) (hm : n ≤ 1000) (hnc : n ≤ c) (hcm : c ≤ maxLen) :
    Calls Try.prog 18 #[.agg #[.string p.ins, .string p.fr, .string p.dst, .int .i64 p.sum, .int .i64 p.own, .slice p.cA p.cn p.cc, .int .i64 p.first, .int .i64 p.last, .int .i64 p.share], .slice A n c, .int .i64 cause, .int .i64 day] w fun e w' => e = .returned (.bool (covB p xs cause day)) ∧ Below w.heap.size w w' := by
  have HX := Lib.hid hx
  have HP := Lib.hid hp
  have HC := Lib.hid hp.n
  clear hx hp
  have hB0 : Below w.heap.size w (w.alloc (.cells #[.string p.ins, .string p.fr, .string p.dst, .int .i64 p.sum, .int .i64 p.own, .slice p.cA p.cn p.cc, .int .i64 p.first, .int .i64 p.last, .int .i64 p.share] 24)) := (Below.refl _ _).alloc (Nat.le_refl _) _
  have hk0 : Blk (w.alloc (.cells #[.string p.ins, .string p.fr, .string p.dst, .int .i64 p.sum, .int .i64 p.own, .slice p.cA p.cn p.cc, .int .i64 p.first, .int .i64 p.last, .int .i64 p.share] 24)) w.heap.size 24 #[.string p.ins, .string p.fr, .string p.dst, .int .i64 p.sum, .int .i64 p.own, .slice p.cA p.cn p.cc, .int .i64 p.first, .int .i64 p.last, .int .i64 p.share] := Blk.new _ _ _
  have a0 := hk0.cell 0; have a1 := hk0.cell 1; have a2 := hk0.cell 2; have a3 := hk0.cell 3; have a4 := hk0.cell 4; have a5 := hk0.cell 5; have a6 := hk0.cell 6; have a7 := hk0.cell 7; have a8 := hk0.cell 8
  simp only [List.getElem?_toArray, List.getElem?_cons_zero, List.getElem?_cons_succ] at a0 a1 a2 a3 a4 a5 a6 a7 a8
  cases e0 : mayP p
  · have HM := Lib.hid e0
    have E := Lib.hid (show false = covB p xs cause day by simp only [covB, e0, Bool.false_and])
    clear e0
    go_enter Try.func18, Try.ntmps18
    go_wp2_with fail
    refine (may_any p _ (HP.out.below hB0)).mono ?_
    rw [HM.out]
    rintro e w1 ⟨rfl, hb1⟩
    clear a0 a1 a2 a3 a4 a5 a6 a7 a8
    have hB1 := hB0.trans (hb1.mono hB0.size)
    have hk1 := hk0.below hb1 hk0.lt
    clear hB0 hk0 hb1
    have a0 := hk1.cell 0; have a1 := hk1.cell 1; have a2 := hk1.cell 2; have a3 := hk1.cell 3; have a4 := hk1.cell 4; have a5 := hk1.cell 5; have a6 := hk1.cell 6; have a7 := hk1.cell 7; have a8 := hk1.cell 8
    simp only [List.getElem?_toArray, List.getElem?_cons_zero, List.getElem?_cons_succ] at a0 a1 a2 a3 a4 a5 a6 a7 a8
    go_wp2_with fail
    go_ret
    exact ⟨ret_bool E.out, hB1⟩
  have HM := Lib.hid e0
  cases e1 : p.causes.contains cause
  · have HN := Lib.hid e1
    have E := Lib.hid (show false = covB p xs cause day by simp only [covB, e1, Bool.false_and, Bool.and_false])
    clear e0 e1
    go_enter Try.func18, Try.ntmps18
    go_wp2_with fail
    refine (may_any p _ (HP.out.below hB0)).mono ?_
    rw [HM.out]
    rintro e w1 ⟨rfl, hb1⟩
    clear a0 a1 a2 a3 a4 a5 a6 a7 a8
    have hB1 := hB0.trans (hb1.mono hB0.size)
    have hk1 := hk0.below hb1 hk0.lt
    clear hB0 hk0 hb1
    have a0 := hk1.cell 0; have a1 := hk1.cell 1; have a2 := hk1.cell 2; have a3 := hk1.cell 3; have a4 := hk1.cell 4; have a5 := hk1.cell 5; have a6 := hk1.cell 6; have a7 := hk1.cell 7; have a8 := hk1.cell 8
    simp only [List.getElem?_toArray, List.getElem?_cons_zero, List.getElem?_cons_succ] at a0 a1 a2 a3 a4 a5 a6 a7 a8
    go_wp2_with fail
    refine (contains_any p.cA p.cn p.cc p.causes cause _ (HP.out.c.below hB1) HC.out).mono ?_
    rw [HN.out]
    rintro e w2 ⟨rfl, rfl⟩
    go_wp2_with fail
    go_ret
    exact ⟨ret_bool E.out, hB1⟩
  have HN := Lib.hid e1
  cases e2 : decide (p.first ≤ day)
  · have E := Lib.hid (show false = covB p xs cause day by simp only [covB, e2, Bool.false_and, Bool.and_false])
    clear e0 e1
    go_enter Try.func18, Try.ntmps18
    go_wp2_with fail
    refine (may_any p _ (HP.out.below hB0)).mono ?_
    rw [HM.out]
    rintro e w1 ⟨rfl, hb1⟩
    clear a0 a1 a2 a3 a4 a5 a6 a7 a8
    have hB1 := hB0.trans (hb1.mono hB0.size)
    have hk1 := hk0.below hb1 hk0.lt
    clear hB0 hk0 hb1
    have a0 := hk1.cell 0; have a1 := hk1.cell 1; have a2 := hk1.cell 2; have a3 := hk1.cell 3; have a4 := hk1.cell 4; have a5 := hk1.cell 5; have a6 := hk1.cell 6; have a7 := hk1.cell 7; have a8 := hk1.cell 8
    simp only [List.getElem?_toArray, List.getElem?_cons_zero, List.getElem?_cons_succ] at a0 a1 a2 a3 a4 a5 a6 a7 a8
    go_wp2_with fail
    refine (contains_any p.cA p.cn p.cc p.causes cause _ (HP.out.c.below hB1) HC.out).mono ?_
    rw [HN.out]
    rintro e w2 ⟨rfl, rfl⟩
    go_wp2_with fail
    go_ret
    exact ⟨ret_bool E.out, hB1⟩
  cases e3 : decide (day ≤ p.last)
  · have E := Lib.hid (show false = covB p xs cause day by simp only [covB, e3, Bool.false_and, Bool.and_false])
    clear e0 e1
    go_enter Try.func18, Try.ntmps18
    go_wp2_with fail
    refine (may_any p _ (HP.out.below hB0)).mono ?_
    rw [HM.out]
    rintro e w1 ⟨rfl, hb1⟩
    clear a0 a1 a2 a3 a4 a5 a6 a7 a8
    have hB1 := hB0.trans (hb1.mono hB0.size)
    have hk1 := hk0.below hb1 hk0.lt
    clear hB0 hk0 hb1
    have a0 := hk1.cell 0; have a1 := hk1.cell 1; have a2 := hk1.cell 2; have a3 := hk1.cell 3; have a4 := hk1.cell 4; have a5 := hk1.cell 5; have a6 := hk1.cell 6; have a7 := hk1.cell 7; have a8 := hk1.cell 8
    simp only [List.getElem?_toArray, List.getElem?_cons_zero, List.getElem?_cons_succ] at a0 a1 a2 a3 a4 a5 a6 a7 a8
    go_wp2_with fail
    refine (contains_any p.cA p.cn p.cc p.causes cause _ (HP.out.c.below hB1) HC.out).mono ?_
    rw [HN.out]
    rintro e w2 ⟨rfl, rfl⟩
    go_wp2_with fail
    go_ret
    exact ⟨ret_bool E.out, hB1⟩
  have E := Lib.hid (show wayA p.fr p.dst day xs = covB p xs cause day by simp only [covB, e0, e1, e2, e3, Bool.true_and])
  clear e0 e1
  obtain ⟨R, hR⟩ : ∃ R, wayA p.fr p.dst day xs = R := ⟨_, rfl⟩
  rw [hR] at E
  have HR := Lib.hid hR
  clear hR
  go_enter Try.func18, Try.ntmps18
  go_wp2_with fail
  refine (may_any p _ (HP.out.below hB0)).mono ?_
  rw [HM.out]
  rintro e w1 ⟨rfl, hb1⟩
  clear a0 a1 a2 a3 a4 a5 a6 a7 a8
  have hB1 := hB0.trans (hb1.mono hB0.size)
  have hk1 := hk0.below hb1 hk0.lt
  clear hB0 hk0 hb1
  have a0 := hk1.cell 0; have a1 := hk1.cell 1; have a2 := hk1.cell 2; have a3 := hk1.cell 3; have a4 := hk1.cell 4; have a5 := hk1.cell 5; have a6 := hk1.cell 6; have a7 := hk1.cell 7; have a8 := hk1.cell 8
  simp only [List.getElem?_toArray, List.getElem?_cons_zero, List.getElem?_cons_succ] at a0 a1 a2 a3 a4 a5 a6 a7 a8
  go_wp2_with fail
  refine (contains_any p.cA p.cn p.cc p.causes cause _ (HP.out.c.below hB1) HC.out).mono ?_
  rw [HN.out]
  rintro e w2 ⟨rfl, rfl⟩
  go_wp2_with fail
  refine (onWay_any p A n c xs day _ (HX.out.below hB1) hm hnc hcm).mono ?_
  rw [HR.out]
  rintro e w3 ⟨rfl, hb3⟩
  clear a0 a1 a2 a3 a4 a5 a6 a7 a8
  have hB3 := hB1.trans (hb3.mono hB1.size)
  have hk3 := hk1.below hb3 hk1.lt
  clear hB1 hk1 hb3
  have a0 := hk3.cell 0; have a1 := hk3.cell 1; have a2 := hk3.cell 2; have a3 := hk3.cell 3; have a4 := hk3.cell 4; have a5 := hk3.cell 5; have a6 := hk3.cell 6; have a7 := hk3.cell 7; have a8 := hk3.cell 8
  simp only [List.getElem?_toArray, List.getElem?_cons_zero, List.getElem?_cons_succ] at a0 a1 a2 a3 a4 a5 a6 a7 a8
  go_wp2_with fail
  go_ret
  exact ⟨ret_bool E.out, hB3⟩
end Go.Proofs.Ytembipmficppnaa.kit
