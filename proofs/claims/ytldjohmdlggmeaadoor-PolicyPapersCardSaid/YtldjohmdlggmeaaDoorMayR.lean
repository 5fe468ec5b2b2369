/- The document's May. No condition. -/
import Derived.Test.YtldjohmdlggmeaaDoorCauseA
namespace Go.Proofs.YtldjohmdlggmeaaDoor.kit
open Go.RowKit
set_option linter.unusedVariables false

theorem rin_any (x lo hi : Int) (w : World) : Calls Tryd.prog 21 #[.int .i64 x, .int .i64 lo, .int .i64 hi] w fun e w' => e = .returned (.bool (inr x lo hi)) ∧ w = w' := by
  by_cases h0 : lo ≤ x
  all_goals
    go_enter Tryd.func21, Tryd.ntmps21
    go_wp2
    go_ret
    exact ⟨ret_bool (by unfold inr; first | (simp; done) | (simp; omega)), rfl⟩
theorem may_eqR (p : Pol) (hn : p.causes.length = p.cn) : mayP p = (nameB p.ins.data.toList && (nameB p.fr.data.toList && (nameB p.dst.data.toList && (!decide (p.sum < 1) && (!decide (1099511627776 < p.sum) && (!decide (p.own < 0) && (!decide (p.sum < p.own) && (inr p.share 1 1000 && (inr p.first 0 1048576 && (inr p.last p.first 1048576 && (!decide (64 < p.cn) && (risesF 1048576 (-1) p.causes)))))))))))) := by
  rw [Bool.eq_iff_iff]
  simp only [mayP, inr, causesB, Bool.and_eq_true, decide_eq_true_eq, Bool.not_eq_true', decide_eq_false_iff_not]
  constructor
  · rintro ⟨⟨⟨⟨⟨⟨⟨⟨h0, h1⟩, h2⟩, h3⟩, h4⟩, h5⟩, h6⟩, h7⟩, h8, h9⟩
    exact ⟨h0, h1, h2, by omega, by omega, by omega, by omega, h5, h6, h7, by omega, h9⟩
  · rintro ⟨h0, h1, h2, h3, h4, h5, h6, h7, h8, h9, h10, h11⟩
    exact ⟨⟨⟨⟨⟨⟨⟨⟨h0, h1⟩, h2⟩, by omega⟩, by omega⟩, h7⟩, h8⟩, h9⟩, by omega, h11⟩

set_option maxRecDepth 100000 in
set_option maxHeartbeats 6400000 in
theorem rmay_any (p : Pol) (w : World) (hp : p.ok w) : Calls Tryd.prog 9 #[.agg #[.string p.ins, .string p.fr, .string p.dst, .int .i64 p.sum, .int .i64 p.own, .slice p.cA p.cn p.cc, .int .i64 p.first, .int .i64 p.last, .int .i64 p.share]] w fun e w' => e = .returned (.bool (mayP p)) ∧ Below w.heap.size w w' := by
  have hi := hp.i; have hf := hp.f; have ht := hp.t; have hcn := hp.n; have hxl := hp.c.len
  unfold maxLen at hcn
  have HPP := Lib.hid hp
  have HE := Lib.hid (may_eqR p hp.c.len)
  clear hp
  have hB0 : Below w.heap.size w (w.alloc (.cells #[.string p.ins, .string p.fr, .string p.dst, .int .i64 p.sum, .int .i64 p.own, .slice p.cA p.cn p.cc, .int .i64 p.first, .int .i64 p.last, .int .i64 p.share] 24)) := (Below.refl _ _).alloc (Nat.le_refl _) _
  have hk0 : Blk (w.alloc (.cells #[.string p.ins, .string p.fr, .string p.dst, .int .i64 p.sum, .int .i64 p.own, .slice p.cA p.cn p.cc, .int .i64 p.first, .int .i64 p.last, .int .i64 p.share] 24)) w.heap.size 24 #[.string p.ins, .string p.fr, .string p.dst, .int .i64 p.sum, .int .i64 p.own, .slice p.cA p.cn p.cc, .int .i64 p.first, .int .i64 p.last, .int .i64 p.share] := Blk.new _ _ _
  have a0 := hk0.cell 0; have a1 := hk0.cell 1; have a2 := hk0.cell 2; have a3 := hk0.cell 3; have a4 := hk0.cell 4; have a5 := hk0.cell 5; have a6 := hk0.cell 6; have a7 := hk0.cell 7; have a8 := hk0.cell 8
  simp only [List.getElem?_toArray, List.getElem?_cons_zero, List.getElem?_cons_succ] at a0 a1 a2 a3 a4 a5 a6 a7 a8
  cases e0 : nameB p.ins.data.toList
  · have E : Hid (false = mayP p) := Lib.hid (by rw [HE.out]; simp only [e0, Bool.false_and])
    go_enter Tryd.func9, Tryd.ntmps9
    go_wp2_with (first | (go_at_call 10; refine (rname_any _ _ (by assumption)).mono ?_; rintro e w' ⟨rfl, rfl⟩) | (go_at_call 21; refine (rin_any _ _ _ _).mono ?_; rintro e w' ⟨rfl, rfl⟩))
    go_ret
    exact ⟨ret_bool E.out, hB0⟩
  cases e1 : nameB p.fr.data.toList
  · have E : Hid (false = mayP p) := Lib.hid (by rw [HE.out]; simp only [e1, Bool.false_and, Bool.and_false])
    go_enter Tryd.func9, Tryd.ntmps9
    go_wp2_with (first | (go_at_call 10; refine (rname_any _ _ (by assumption)).mono ?_; rintro e w' ⟨rfl, rfl⟩) | (go_at_call 21; refine (rin_any _ _ _ _).mono ?_; rintro e w' ⟨rfl, rfl⟩))
    go_ret
    exact ⟨ret_bool E.out, hB0⟩
  cases e2 : nameB p.dst.data.toList
  · have E : Hid (false = mayP p) := Lib.hid (by rw [HE.out]; simp only [e2, Bool.false_and, Bool.and_false])
    go_enter Tryd.func9, Tryd.ntmps9
    go_wp2_with (first | (go_at_call 10; refine (rname_any _ _ (by assumption)).mono ?_; rintro e w' ⟨rfl, rfl⟩) | (go_at_call 21; refine (rin_any _ _ _ _).mono ?_; rintro e w' ⟨rfl, rfl⟩))
    go_ret
    exact ⟨ret_bool E.out, hB0⟩
  cases e3 : decide (p.sum < 1)
  rotate_left
  · have E : Hid (false = mayP p) := Lib.hid (by rw [HE.out]; simp only [e3, Bool.not_true, Bool.false_and, Bool.and_false])
    go_enter Tryd.func9, Tryd.ntmps9
    go_wp2_with (first | (go_at_call 10; refine (rname_any _ _ (by assumption)).mono ?_; rintro e w' ⟨rfl, rfl⟩) | (go_at_call 21; refine (rin_any _ _ _ _).mono ?_; rintro e w' ⟨rfl, rfl⟩))
    go_ret
    exact ⟨ret_bool E.out, hB0⟩
  cases e4 : decide (1099511627776 < p.sum)
  rotate_left
  · have E : Hid (false = mayP p) := Lib.hid (by rw [HE.out]; simp only [e4, Bool.not_true, Bool.false_and, Bool.and_false])
    go_enter Tryd.func9, Tryd.ntmps9
    go_wp2_with (first | (go_at_call 10; refine (rname_any _ _ (by assumption)).mono ?_; rintro e w' ⟨rfl, rfl⟩) | (go_at_call 21; refine (rin_any _ _ _ _).mono ?_; rintro e w' ⟨rfl, rfl⟩))
    go_ret
    exact ⟨ret_bool E.out, hB0⟩
  cases e5 : decide (p.own < 0)
  rotate_left
  · have E : Hid (false = mayP p) := Lib.hid (by rw [HE.out]; simp only [e5, Bool.not_true, Bool.false_and, Bool.and_false])
    go_enter Tryd.func9, Tryd.ntmps9
    go_wp2_with (first | (go_at_call 10; refine (rname_any _ _ (by assumption)).mono ?_; rintro e w' ⟨rfl, rfl⟩) | (go_at_call 21; refine (rin_any _ _ _ _).mono ?_; rintro e w' ⟨rfl, rfl⟩))
    go_ret
    exact ⟨ret_bool E.out, hB0⟩
  cases e6 : decide (p.sum < p.own)
  rotate_left
  · have E : Hid (false = mayP p) := Lib.hid (by rw [HE.out]; simp only [e6, Bool.not_true, Bool.false_and, Bool.and_false])
    go_enter Tryd.func9, Tryd.ntmps9
    go_wp2_with (first | (go_at_call 10; refine (rname_any _ _ (by assumption)).mono ?_; rintro e w' ⟨rfl, rfl⟩) | (go_at_call 21; refine (rin_any _ _ _ _).mono ?_; rintro e w' ⟨rfl, rfl⟩))
    go_ret
    exact ⟨ret_bool E.out, hB0⟩
  cases e7 : inr p.share 1 1000
  · have E : Hid (false = mayP p) := Lib.hid (by rw [HE.out]; simp only [e7, Bool.false_and, Bool.and_false])
    go_enter Tryd.func9, Tryd.ntmps9
    go_wp2_with (first | (go_at_call 10; refine (rname_any _ _ (by assumption)).mono ?_; rintro e w' ⟨rfl, rfl⟩) | (go_at_call 21; refine (rin_any _ _ _ _).mono ?_; rintro e w' ⟨rfl, rfl⟩))
    go_ret
    exact ⟨ret_bool E.out, hB0⟩
  cases e8 : inr p.first 0 1048576
  · have E : Hid (false = mayP p) := Lib.hid (by rw [HE.out]; simp only [e8, Bool.false_and, Bool.and_false])
    go_enter Tryd.func9, Tryd.ntmps9
    go_wp2_with (first | (go_at_call 10; refine (rname_any _ _ (by assumption)).mono ?_; rintro e w' ⟨rfl, rfl⟩) | (go_at_call 21; refine (rin_any _ _ _ _).mono ?_; rintro e w' ⟨rfl, rfl⟩))
    go_ret
    exact ⟨ret_bool E.out, hB0⟩
  cases e9 : inr p.last p.first 1048576
  · have E : Hid (false = mayP p) := Lib.hid (by rw [HE.out]; simp only [e9, Bool.false_and, Bool.and_false])
    go_enter Tryd.func9, Tryd.ntmps9
    go_wp2_with (first | (go_at_call 10; refine (rname_any _ _ (by assumption)).mono ?_; rintro e w' ⟨rfl, rfl⟩) | (go_at_call 21; refine (rin_any _ _ _ _).mono ?_; rintro e w' ⟨rfl, rfl⟩))
    go_ret
    exact ⟨ret_bool E.out, hB0⟩
  cases e10 : decide (64 < p.cn)
  rotate_left
  · have e10i : decide ((64 : Int) < (p.cn : Int)) = true := decide_eq_true (by have := of_decide_eq_true e10; omega)
    have E : Hid (false = mayP p) := Lib.hid (by rw [HE.out]; simp only [e10, Bool.not_true, Bool.false_and, Bool.and_false])
    go_enter Tryd.func9, Tryd.ntmps9
    go_wp2_with (first | (go_at_call 10; refine (rname_any _ _ (by assumption)).mono ?_; rintro e w' ⟨rfl, rfl⟩) | (go_at_call 21; refine (rin_any _ _ _ _).mono ?_; rintro e w' ⟨rfl, rfl⟩))
    go_ret
    exact ⟨ret_bool E.out, hB0⟩
  have E : Hid (risesF 1048576 (-1) p.causes = mayP p) := Lib.hid (by rw [HE.out]; simp only [e0, e1, e2, e3, e4, e5, e6, e7, e8, e9, e10, Bool.not_false, Bool.true_and])
  have e10i : decide ((64 : Int) < (p.cn : Int)) = false := decide_eq_false (by have := of_decide_eq_false e10; omega)
  have HX := Lib.hid (HPP.out.c)
  go_enter Tryd.func9, Tryd.ntmps9
  go_wp2_with (first | (go_at_call 10; refine (rname_any _ _ (by assumption)).mono ?_; rintro e w' ⟨rfl, rfl⟩) | (go_at_call 21; refine (rin_any _ _ _ _).mono ?_; rintro e w' ⟨rfl, rfl⟩))
  clear a0 a1 a2 a3 a4 a5 a6 a7 a8
  go_loopw [3] (fun i wr => ∃ k : Nat, k ≤ p.cn ∧ i = .int .i64 k ∧ Below w.heap.size w wr ∧ Blk wr w.heap.size 24 #[.string p.ins, .string p.fr, .string p.dst, .int .i64 p.sum, .int .i64 p.own, .slice p.cA p.cn p.cc, .int .i64 p.first, .int .i64 p.last, .int .i64 p.share] ∧ Hid (risesF 1048576 (prevF p.causes k) (p.causes.drop k) = risesF 1048576 (-1) p.causes)) (fun i _ => p.cn - (intOf i).toNat)
  case atStart => exact ⟨0, Nat.zero_le _, rfl, hB0, hk0, Lib.hid rfl⟩
  case round =>
    obtain ⟨k, hk, rfl, hbel, hk2, hd⟩ := hrel
    clear hB0 hk0
    by_cases hlt : k < p.cn
    · obtain ⟨x, hxk⟩ : ∃ x, p.causes[k]? = some x := ⟨_, List.getElem?_eq_getElem (by omega)⟩
      obtain ⟨b, off, hA, hb, hc⟩ := HX.out.at_ (by omega)
      have c0 : wr.cell? ⟨b, off + k, none⟩ = some (.int .i64 x) := (hbel.cell hb).trans (by simpa using hc k _ hxk 0 _ rfl)
      obtain ⟨y, hp⟩ : ∃ y, prevF p.causes k = y := ⟨_, rfl⟩
      have cp : 0 < k → wr.cell? ⟨b, off + (k - 1), none⟩ = some (.int .i64 y) := fun h0 => by
        have := hc (k - 1) y (by rw [← hp]; unfold prevF; rw [if_neg (by omega), List.getD_eq_getElem?_getD, List.getElem?_eq_getElem (by omega)]; rfl) 0 _ rfl
        exact (hbel.cell hb).trans (by simpa using this)
      have hp0 : k = 0 → y = -1 := fun h => by rw [← hp, h]; rfl
      have hd' := hd.out
      rw [hp] at hd'
      have HS := Lib.hid ((rises_step (top := 1048576) (p := y) hxk).symm.trans hd')
      have HP := Lib.hid (prev_succ hxk)
      have a0 := hk2.cell 0; have a1 := hk2.cell 1; have a2 := hk2.cell 2; have a3 := hk2.cell 3; have a4 := hk2.cell 4; have a5 := hk2.cell 5; have a6 := hk2.cell 6; have a7 := hk2.cell 7; have a8 := hk2.cell 8
      simp only [List.getElem?_toArray, List.getElem?_cons_zero, List.getElem?_cons_succ] at a0 a1 a2 a3 a4 a5 a6 a7 a8
      rw [hA] at a5
      clear hc hxk hp hd hd' hA
      have hk1 : (k : Int) < (p.cn : Int) := by omega
      have hk0' : (0 : Int) ≤ (k : Int) := by omega
      have r0 : inr x 0 1048576 = decide (0 ≤ x ∧ x ≤ 1048576) := rfl
      by_cases q0 : 0 ≤ x ∧ x ≤ 1048576
      · rw [decide_eq_true q0] at r0
        by_cases q2 : k = 0
        · have e1 : Hid (risesF 1048576 (prevF p.causes (k + 1)) (p.causes.drop (k + 1)) = risesF 1048576 (-1) p.causes) := Lib.hid (by rw [← HS.out, HP.out, decide_eq_true (by have := hp0 q2; omega)]; rfl)
          have q2' : decide ((0 : Int) < (k : Int)) = false := by simp; omega
          have q2n : decide (0 < k) = false := by simp; omega
          have q2'' : ¬ (0 : Int) < (k : Int) := by omega
          clear hp0 cp q2 q0
          go_wp2_with fail
          go_quiet ((go_at_call 21; exact Calls.quiet_of_same ((rin_any _ _ _ _).mono fun _ _ h => ⟨h.1, h.2.symm⟩)))
          go_wp2_with fail
          go_roundw
          case rel => exact ⟨k + 1, by omega, by go_num, below_drewN hbel _, hk2.drewN _, e1⟩
          case measure => simp [intOf]; omega
        · have cp' := cp (by omega)
          have q2' : (0 : Int) < (k : Int) := by omega
          have d2 : decide ((0 : Int) < (k : Int)) = true := decide_eq_true q2'
          have d2n : decide (0 < k) = true := decide_eq_true (by omega)
          have q3' : (0 : Int) ≤ (k : Int) - 1 := by omega
          have q4' : (k : Int) - 1 < (p.cn : Int) := by omega
          clear hp0 cp q2
          by_cases q3 : x ≤ y
          · have e0 : Hid (risesF 1048576 (-1) p.causes = false) := Lib.hid (by rw [← HS.out, decide_eq_false (by omega)]; rfl)
            have d3 : decide (x ≤ y) = true := decide_eq_true q3
            clear q0
            go_wp2_with fail
            go_quiet ((go_at_call 21; exact Calls.quiet_of_same ((rin_any _ _ _ _).mono fun _ _ h => ⟨h.1, h.2.symm⟩)))
            go_wp2_with fail
            go_ret
            exact ⟨ret_bool (e0.out.symm.trans E.out), below_drewN hbel _⟩
          · have e1 : Hid (risesF 1048576 (prevF p.causes (k + 1)) (p.causes.drop (k + 1)) = risesF 1048576 (-1) p.causes) := Lib.hid (by rw [← HS.out, HP.out, decide_eq_true (by omega)]; rfl)
            have d3 : decide (x ≤ y) = false := decide_eq_false q3
            clear q0
            go_wp2_with fail
            go_quiet ((go_at_call 21; exact Calls.quiet_of_same ((rin_any _ _ _ _).mono fun _ _ h => ⟨h.1, h.2.symm⟩)))
            go_wp2_with fail
            go_roundw
            case rel => exact ⟨k + 1, by omega, by go_num, below_drewN hbel _, hk2.drewN _, e1⟩
            case measure => simp [intOf]; omega
      · rw [decide_eq_false q0] at r0
        have e0 : Hid (risesF 1048576 (-1) p.causes = false) := Lib.hid (by rw [← HS.out, decide_eq_false (by omega)]; rfl)
        clear hp0 cp q0
        go_wp2_with fail
        go_quiet ((go_at_call 21; exact Calls.quiet_of_same ((rin_any _ _ _ _).mono fun _ _ h => ⟨h.1, h.2.symm⟩)))
        go_wp2_with fail
        go_ret
        exact ⟨ret_bool (e0.out.symm.trans E.out), below_drewN hbel _⟩
    · have e0 : Hid (risesF 1048576 (-1) p.causes = true) := Lib.hid (by rw [← hd.out]; exact rises_end (by omega))
      have a0 := hk2.cell 0; have a1 := hk2.cell 1; have a2 := hk2.cell 2; have a3 := hk2.cell 3; have a4 := hk2.cell 4; have a5 := hk2.cell 5; have a6 := hk2.cell 6; have a7 := hk2.cell 7; have a8 := hk2.cell 8
      simp only [List.getElem?_toArray, List.getElem?_cons_zero, List.getElem?_cons_succ] at a0 a1 a2 a3 a4 a5 a6 a7 a8
      go_wp2_with fail
      go_ret
      exact ⟨ret_bool (e0.out.symm.trans E.out), hbel⟩
end Go.Proofs.YtldjohmdlggmeaaDoor.kit
