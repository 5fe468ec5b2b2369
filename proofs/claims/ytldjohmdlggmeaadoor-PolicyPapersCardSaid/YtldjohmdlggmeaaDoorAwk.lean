/- The example; how long a policy is. No condition. -/
import Derived.Test.YtldjohmdlggmeaaDoorPays
namespace Go.Proofs.YtldjohmdlggmeaaDoor.kit
open Go.RowKit
set_option linter.unusedVariables false

set_option maxRecDepth 100000 in
set_option maxHeartbeats 3200000 in
theorem rlong_any (p : Pol) (w : World) : Calls Tryd.prog 5 #[.agg #[.string p.ins, .string p.fr, .string p.dst, .int .i64 p.sum, .int .i64 p.own, .slice p.cA p.cn p.cc, .int .i64 p.first, .int .i64 p.last, .int .i64 p.share]] w fun e w' => e = .returned (.bool (longB p)) ∧ Below w.heap.size w w' := by
  have hB0 : Below w.heap.size w (w.alloc (.cells #[.string p.ins, .string p.fr, .string p.dst, .int .i64 p.sum, .int .i64 p.own, .slice p.cA p.cn p.cc, .int .i64 p.first, .int .i64 p.last, .int .i64 p.share] 24)) := (Below.refl _ _).alloc (Nat.le_refl _) _
  have hk0 : Blk (w.alloc (.cells #[.string p.ins, .string p.fr, .string p.dst, .int .i64 p.sum, .int .i64 p.own, .slice p.cA p.cn p.cc, .int .i64 p.first, .int .i64 p.last, .int .i64 p.share] 24)) w.heap.size 24 #[.string p.ins, .string p.fr, .string p.dst, .int .i64 p.sum, .int .i64 p.own, .slice p.cA p.cn p.cc, .int .i64 p.first, .int .i64 p.last, .int .i64 p.share] := Blk.new _ _ _
  have a0 := hk0.cell 0; have a1 := hk0.cell 1; have a2 := hk0.cell 2; have a3 := hk0.cell 3; have a4 := hk0.cell 4; have a5 := hk0.cell 5; have a6 := hk0.cell 6; have a7 := hk0.cell 7; have a8 := hk0.cell 8
  simp only [List.getElem?_toArray, List.getElem?_cons_zero, List.getElem?_cons_succ] at a0 a1 a2 a3 a4 a5 a6 a7 a8
  cases e0 : decide (100 < p.ins.size)
  rotate_left
  · have E : Hid (true = longB p) := Lib.hid (by unfold longB; rw [e0]; rfl)
    have i0 : decide ((100 : Int) < (p.ins.size : Int)) = true := decide_eq_true (by have := of_decide_eq_true e0; omega)
    go_enter Tryd.func5, Tryd.ntmps5
    go_wp2_with fail
    go_ret
    exact ⟨ret_bool E.out, hB0⟩
  have i0 : decide ((100 : Int) < (p.ins.size : Int)) = false := decide_eq_false (by have := of_decide_eq_false e0; omega)
  cases e1 : decide (100 < p.fr.size)
  rotate_left
  · have E : Hid (true = longB p) := Lib.hid (by unfold longB; rw [e0, e1]; rfl)
    have i1 : decide ((100 : Int) < (p.fr.size : Int)) = true := decide_eq_true (by have := of_decide_eq_true e1; omega)
    go_enter Tryd.func5, Tryd.ntmps5
    go_wp2_with fail
    go_ret
    exact ⟨ret_bool E.out, hB0⟩
  have i1 : decide ((100 : Int) < (p.fr.size : Int)) = false := decide_eq_false (by have := of_decide_eq_false e1; omega)
  cases e2 : decide (100 < p.dst.size)
  rotate_left
  · have E : Hid (true = longB p) := Lib.hid (by unfold longB; rw [e0, e1, e2]; rfl)
    have i2 : decide ((100 : Int) < (p.dst.size : Int)) = true := decide_eq_true (by have := of_decide_eq_true e2; omega)
    go_enter Tryd.func5, Tryd.ntmps5
    go_wp2_with fail
    go_ret
    exact ⟨ret_bool E.out, hB0⟩
  have i2 : decide ((100 : Int) < (p.dst.size : Int)) = false := decide_eq_false (by have := of_decide_eq_false e2; omega)
  have E : Hid (decide (100 < p.cn) = longB p) := Lib.hid (by unfold longB; rw [e0, e1, e2]; rfl)
  cases e3 : decide (100 < p.cn)
  · have i3 : decide ((100 : Int) < (p.cn : Int)) = false := decide_eq_false (by have := of_decide_eq_false e3; omega)
    rw [e3] at E
    go_enter Tryd.func5, Tryd.ntmps5
    go_wp2_with fail
    go_ret
    exact ⟨ret_bool E.out, hB0⟩
  · have i3 : decide ((100 : Int) < (p.cn : Int)) = true := decide_eq_true (by have := of_decide_eq_true e3; omega)
    rw [e3] at E
    go_enter Tryd.func5, Tryd.ntmps5
    go_wp2_with fail
    go_ret
    exact ⟨ret_bool E.out, hB0⟩

def polA : Pol := ⟨⟨#[110]⟩, ⟨#[97]⟩, ⟨#[98]⟩, 600, 50, none, 0, 0, 0, 0, 1000, []⟩
theorem polA_ok (w : World) : polA.ok w := ⟨by decide, by decide, by decide, by decide, by decide, SliceOf.none_⟩
theorem polA_may : mayP polA = true := by decide +kernel
theorem polA_pay : payV polA 500 1000 = 250 := by decide +kernel
set_option maxRecDepth 100000 in
theorem awake_any (w : World) : Calls Tryd.prog 4 #[] w fun e w' => e = .returned (.bool true) ∧ Below w.heap.size w w' := by
  go_enter Tryd.func4, Tryd.ntmps4
  go_wp2_with fail
  refine (pays_yes polA 500 1000 _ (polA_ok _) polA_may (by decide) (by decide)).mono ?_
  rw [polA_pay]
  rintro e w1 ⟨rfl, hb1⟩
  go_wp2_with fail
  go_ret
  exact ⟨rfl, hb1⟩

end Go.Proofs.YtldjohmdlggmeaaDoor.kit
