/- policy.May and its parts. No condition. -/
import Derived.Test.YtldjohmdlggmeaaDoorCauseA
namespace Go.Proofs.YtldjohmdlggmeaaDoor.kit
open Go.RowKit
set_option linter.unusedVariables false

theorem may_eq (p : Pol) : mayP p = (nameB p.ins.data.toList && (nameB p.fr.data.toList && (nameB p.dst.data.toList && (decide (1 ≤ p.sum) && (decide (p.sum ≤ 1099511627776) && (decide (0 ≤ p.own) && (decide (p.own ≤ p.sum) && (decide (1 ≤ p.share) && (decide (p.share ≤ 1000) && (causesB p.causes && (isD p.first && (isD p.last && (decide (p.first ≤ p.last)))))))))))))) := by
  rw [Bool.eq_iff_iff]
  simp only [mayP, inr, isD, Bool.and_eq_true, decide_eq_true_eq]
  constructor
  · rintro ⟨⟨⟨⟨⟨⟨⟨⟨h0, h1⟩, h2⟩, h3⟩, h4⟩, h5⟩, h6⟩, h7⟩, h8⟩
    exact ⟨h0, h1, h2, by omega, by omega, by omega, by omega, by omega, by omega, h8, by omega, by omega, by omega⟩
  · rintro ⟨h0, h1, h2, h3, h4, h5, h6, h7, h8, h9, h10, h11, h12⟩
    exact ⟨⟨⟨⟨⟨⟨⟨⟨h0, h1⟩, h2⟩, by omega⟩, by omega⟩, by omega⟩, by omega⟩, by omega⟩, h9⟩

set_option maxRecDepth 100000 in
set_option maxHeartbeats 6400000 in
theorem may_any (p : Pol) (w : World) (hp : p.ok w) : Calls Tryd.prog 14 #[.agg #[.string p.ins, .string p.fr, .string p.dst, .int .i64 p.sum, .int .i64 p.own, .slice p.cA p.cn p.cc, .int .i64 p.first, .int .i64 p.last, .int .i64 p.share]] w fun e w' => e = .returned (.bool (mayP p)) ∧ Below w.heap.size w w' := by
  have hi := hp.i; have hf := hp.f; have ht := hp.t; have hcn := hp.n
  have HP := Lib.hid hp
  clear hp
  have hB0 : Below w.heap.size w (w.alloc (.cells #[.string p.ins, .string p.fr, .string p.dst, .int .i64 p.sum, .int .i64 p.own, .slice p.cA p.cn p.cc, .int .i64 p.first, .int .i64 p.last, .int .i64 p.share] 24)) := (Below.refl _ _).alloc (Nat.le_refl _) _
  have hk0 : Blk (w.alloc (.cells #[.string p.ins, .string p.fr, .string p.dst, .int .i64 p.sum, .int .i64 p.own, .slice p.cA p.cn p.cc, .int .i64 p.first, .int .i64 p.last, .int .i64 p.share] 24)) w.heap.size 24 #[.string p.ins, .string p.fr, .string p.dst, .int .i64 p.sum, .int .i64 p.own, .slice p.cA p.cn p.cc, .int .i64 p.first, .int .i64 p.last, .int .i64 p.share] := Blk.new _ _ _
  have a0 := hk0.cell 0; have a1 := hk0.cell 1; have a2 := hk0.cell 2; have a3 := hk0.cell 3; have a4 := hk0.cell 4; have a5 := hk0.cell 5; have a6 := hk0.cell 6; have a7 := hk0.cell 7; have a8 := hk0.cell 8
  simp only [List.getElem?_toArray, List.getElem?_cons_zero, List.getElem?_cons_succ] at a0 a1 a2 a3 a4 a5 a6 a7 a8
  have HC := Lib.hid (HP.out.c.below hB0)
  cases e0 : nameB p.ins.data.toList
  · have E : Hid (false = mayP p) := Lib.hid (by rw [may_eq]; simp only [e0, Bool.false_and])
    go_enter Tryd.func14, Tryd.ntmps14
    go_wp2_with (first | (go_at_call 15; refine (name_any _ _ (by assumption)).mono ?_; rintro e w' ⟨rfl, rfl⟩) | (go_at_call 26; refine (isD_any _ _).mono ?_; rintro e w' ⟨rfl, rfl⟩) | (go_at_call 25; refine (causes_any p.cA p.cn p.cc p.causes _ HC.out hcn).mono ?_; rintro e w' ⟨rfl, rfl⟩))
    go_ret
    exact ⟨ret_bool E.out, hB0⟩
  cases e1 : nameB p.fr.data.toList
  · have E : Hid (false = mayP p) := Lib.hid (by rw [may_eq]; simp only [e1, Bool.false_and, Bool.and_false])
    go_enter Tryd.func14, Tryd.ntmps14
    go_wp2_with (first | (go_at_call 15; refine (name_any _ _ (by assumption)).mono ?_; rintro e w' ⟨rfl, rfl⟩) | (go_at_call 26; refine (isD_any _ _).mono ?_; rintro e w' ⟨rfl, rfl⟩) | (go_at_call 25; refine (causes_any p.cA p.cn p.cc p.causes _ HC.out hcn).mono ?_; rintro e w' ⟨rfl, rfl⟩))
    go_ret
    exact ⟨ret_bool E.out, hB0⟩
  cases e2 : nameB p.dst.data.toList
  · have E : Hid (false = mayP p) := Lib.hid (by rw [may_eq]; simp only [e2, Bool.false_and, Bool.and_false])
    go_enter Tryd.func14, Tryd.ntmps14
    go_wp2_with (first | (go_at_call 15; refine (name_any _ _ (by assumption)).mono ?_; rintro e w' ⟨rfl, rfl⟩) | (go_at_call 26; refine (isD_any _ _).mono ?_; rintro e w' ⟨rfl, rfl⟩) | (go_at_call 25; refine (causes_any p.cA p.cn p.cc p.causes _ HC.out hcn).mono ?_; rintro e w' ⟨rfl, rfl⟩))
    go_ret
    exact ⟨ret_bool E.out, hB0⟩
  cases e3 : decide (1 ≤ p.sum)
  · have E : Hid (false = mayP p) := Lib.hid (by rw [may_eq]; simp only [e3, Bool.false_and, Bool.and_false])
    go_enter Tryd.func14, Tryd.ntmps14
    go_wp2_with (first | (go_at_call 15; refine (name_any _ _ (by assumption)).mono ?_; rintro e w' ⟨rfl, rfl⟩) | (go_at_call 26; refine (isD_any _ _).mono ?_; rintro e w' ⟨rfl, rfl⟩) | (go_at_call 25; refine (causes_any p.cA p.cn p.cc p.causes _ HC.out hcn).mono ?_; rintro e w' ⟨rfl, rfl⟩))
    go_ret
    exact ⟨ret_bool E.out, hB0⟩
  cases e4 : decide (p.sum ≤ 1099511627776)
  · have E : Hid (false = mayP p) := Lib.hid (by rw [may_eq]; simp only [e4, Bool.false_and, Bool.and_false])
    go_enter Tryd.func14, Tryd.ntmps14
    go_wp2_with (first | (go_at_call 15; refine (name_any _ _ (by assumption)).mono ?_; rintro e w' ⟨rfl, rfl⟩) | (go_at_call 26; refine (isD_any _ _).mono ?_; rintro e w' ⟨rfl, rfl⟩) | (go_at_call 25; refine (causes_any p.cA p.cn p.cc p.causes _ HC.out hcn).mono ?_; rintro e w' ⟨rfl, rfl⟩))
    go_ret
    exact ⟨ret_bool E.out, hB0⟩
  cases e5 : decide (0 ≤ p.own)
  · have E : Hid (false = mayP p) := Lib.hid (by rw [may_eq]; simp only [e5, Bool.false_and, Bool.and_false])
    go_enter Tryd.func14, Tryd.ntmps14
    go_wp2_with (first | (go_at_call 15; refine (name_any _ _ (by assumption)).mono ?_; rintro e w' ⟨rfl, rfl⟩) | (go_at_call 26; refine (isD_any _ _).mono ?_; rintro e w' ⟨rfl, rfl⟩) | (go_at_call 25; refine (causes_any p.cA p.cn p.cc p.causes _ HC.out hcn).mono ?_; rintro e w' ⟨rfl, rfl⟩))
    go_ret
    exact ⟨ret_bool E.out, hB0⟩
  cases e6 : decide (p.own ≤ p.sum)
  · have E : Hid (false = mayP p) := Lib.hid (by rw [may_eq]; simp only [e6, Bool.false_and, Bool.and_false])
    go_enter Tryd.func14, Tryd.ntmps14
    go_wp2_with (first | (go_at_call 15; refine (name_any _ _ (by assumption)).mono ?_; rintro e w' ⟨rfl, rfl⟩) | (go_at_call 26; refine (isD_any _ _).mono ?_; rintro e w' ⟨rfl, rfl⟩) | (go_at_call 25; refine (causes_any p.cA p.cn p.cc p.causes _ HC.out hcn).mono ?_; rintro e w' ⟨rfl, rfl⟩))
    go_ret
    exact ⟨ret_bool E.out, hB0⟩
  cases e7 : decide (1 ≤ p.share)
  · have E : Hid (false = mayP p) := Lib.hid (by rw [may_eq]; simp only [e7, Bool.false_and, Bool.and_false])
    go_enter Tryd.func14, Tryd.ntmps14
    go_wp2_with (first | (go_at_call 15; refine (name_any _ _ (by assumption)).mono ?_; rintro e w' ⟨rfl, rfl⟩) | (go_at_call 26; refine (isD_any _ _).mono ?_; rintro e w' ⟨rfl, rfl⟩) | (go_at_call 25; refine (causes_any p.cA p.cn p.cc p.causes _ HC.out hcn).mono ?_; rintro e w' ⟨rfl, rfl⟩))
    go_ret
    exact ⟨ret_bool E.out, hB0⟩
  cases e8 : decide (p.share ≤ 1000)
  · have E : Hid (false = mayP p) := Lib.hid (by rw [may_eq]; simp only [e8, Bool.false_and, Bool.and_false])
    go_enter Tryd.func14, Tryd.ntmps14
    go_wp2_with (first | (go_at_call 15; refine (name_any _ _ (by assumption)).mono ?_; rintro e w' ⟨rfl, rfl⟩) | (go_at_call 26; refine (isD_any _ _).mono ?_; rintro e w' ⟨rfl, rfl⟩) | (go_at_call 25; refine (causes_any p.cA p.cn p.cc p.causes _ HC.out hcn).mono ?_; rintro e w' ⟨rfl, rfl⟩))
    go_ret
    exact ⟨ret_bool E.out, hB0⟩
  cases e9 : causesB p.causes
  · have E : Hid (false = mayP p) := Lib.hid (by rw [may_eq]; simp only [e9, Bool.false_and, Bool.and_false])
    go_enter Tryd.func14, Tryd.ntmps14
    go_wp2_with (first | (go_at_call 15; refine (name_any _ _ (by assumption)).mono ?_; rintro e w' ⟨rfl, rfl⟩) | (go_at_call 26; refine (isD_any _ _).mono ?_; rintro e w' ⟨rfl, rfl⟩) | (go_at_call 25; refine (causes_any p.cA p.cn p.cc p.causes _ HC.out hcn).mono ?_; rintro e w' ⟨rfl, rfl⟩))
    go_ret
    exact ⟨ret_bool E.out, hB0⟩
  cases e10 : isD p.first
  · have E : Hid (false = mayP p) := Lib.hid (by rw [may_eq]; simp only [e10, Bool.false_and, Bool.and_false])
    go_enter Tryd.func14, Tryd.ntmps14
    go_wp2_with (first | (go_at_call 15; refine (name_any _ _ (by assumption)).mono ?_; rintro e w' ⟨rfl, rfl⟩) | (go_at_call 26; refine (isD_any _ _).mono ?_; rintro e w' ⟨rfl, rfl⟩) | (go_at_call 25; refine (causes_any p.cA p.cn p.cc p.causes _ HC.out hcn).mono ?_; rintro e w' ⟨rfl, rfl⟩))
    go_ret
    exact ⟨ret_bool E.out, hB0⟩
  cases e11 : isD p.last
  · have E : Hid (false = mayP p) := Lib.hid (by rw [may_eq]; simp only [e11, Bool.false_and, Bool.and_false])
    go_enter Tryd.func14, Tryd.ntmps14
    go_wp2_with (first | (go_at_call 15; refine (name_any _ _ (by assumption)).mono ?_; rintro e w' ⟨rfl, rfl⟩) | (go_at_call 26; refine (isD_any _ _).mono ?_; rintro e w' ⟨rfl, rfl⟩) | (go_at_call 25; refine (causes_any p.cA p.cn p.cc p.causes _ HC.out hcn).mono ?_; rintro e w' ⟨rfl, rfl⟩))
    go_ret
    exact ⟨ret_bool E.out, hB0⟩
  cases e12 : decide (p.first ≤ p.last)
  · have E : Hid (false = mayP p) := Lib.hid (by rw [may_eq]; simp only [e12, Bool.and_false])
    go_enter Tryd.func14, Tryd.ntmps14
    go_wp2_with (first | (go_at_call 15; refine (name_any _ _ (by assumption)).mono ?_; rintro e w' ⟨rfl, rfl⟩) | (go_at_call 26; refine (isD_any _ _).mono ?_; rintro e w' ⟨rfl, rfl⟩) | (go_at_call 25; refine (causes_any p.cA p.cn p.cc p.causes _ HC.out hcn).mono ?_; rintro e w' ⟨rfl, rfl⟩))
    go_ret
    exact ⟨ret_bool E.out, hB0⟩
  have E : Hid (true = mayP p) := Lib.hid (by rw [may_eq]; simp only [e0, e1, e2, e3, e4, e5, e6, e7, e8, e9, e10, e11, e12, Bool.and_self])
  go_enter Tryd.func14, Tryd.ntmps14
  go_wp2_with (first | (go_at_call 15; refine (name_any _ _ (by assumption)).mono ?_; rintro e w' ⟨rfl, rfl⟩) | (go_at_call 26; refine (isD_any _ _).mono ?_; rintro e w' ⟨rfl, rfl⟩) | (go_at_call 25; refine (causes_any p.cA p.cn p.cc p.causes _ HC.out hcn).mono ?_; rintro e w' ⟨rfl, rfl⟩))
  go_ret
  exact ⟨ret_bool E.out, hB0⟩
end Go.Proofs.YtldjohmdlggmeaaDoor.kit
