/- The example. No condition. -/
import Derived.Test.YtlaclkiedjhphaaGreatDoorDgX
import Derived.Test.YtlaclkiedjhphaaGreatDoorDfD
import Derived.Test.YtlaclkiedjhphaaGreatDoorDfF
import Derived.Test.YtlaclkiedjhphaaGreatDoorDfL
namespace Go.Proofs.YtlaclkiedjhphaaGreatDoor.kit
open Go.RowKit Go.PlainAid Go.Maps
set_option linter.unusedVariables false

def tk : ByteArray := ⟨#[107]⟩
def tp : ByteArray := ⟨#[112]⟩
def tq : ByteArray := ⟨#[113]⟩
def ts : ByteArray := ⟨#[115]⟩
def d0 : Dr := ⟨⟨#[110]⟩, ⟨#[115]⟩, ⟨#[107]⟩, ⟨#[112]⟩, ⟨#[85, 83, 68]⟩, 5, 1, 30, 0⟩
def a1 : Bl := nextV (newV d0) 0 tk tk 1
def a2 : Bl := nextV a1 1 tp tq 2
theorem d0_ok : d0.ok := ⟨by unfold maxLen; exact Nat.le_of_ble_eq_true rfl, by unfold maxLen; exact Nat.le_of_ble_eq_true rfl, by unfold maxLen; exact Nat.le_of_ble_eq_true rfl, by unfold maxLen; exact Nat.le_of_ble_eq_true rfl, by unfold maxLen; exact Nat.le_of_ble_eq_true rfl⟩
theorem d0_may : mayD d0 = true := by kernel_rfl
theorem a1_code : codeV (newV d0) 0 tk tk 1 = 0 := by kernel_rfl
theorem a2_code : codeV a1 1 tp tq 2 = 0 := by kernel_rfl
theorem a2_lia : liaV a2 = [tk, tp, ts] := by kernel_rfl
theorem a2_hol : a2.hol = tq := by kernel_rfl
theorem a1_pas : a1.pas = [] := by kernel_rfl
set_option maxRecDepth 100000 in
set_option maxHeartbeats 3200000 in
theorem awake_any (w : World) : Calls Tryz.prog 4 #[] w fun e w' => e = .returned (.bool true) ∧ Below w.heap.size w w' := by
  have k1 : tk.size ≤ maxLen := by unfold maxLen; exact Nat.le_of_ble_eq_true rfl
  have k2 : tp.size ≤ maxLen := by unfold maxLen; exact Nat.le_of_ble_eq_true rfl
  have k3 : tq.size ≤ maxLen := by unfold maxLen; exact Nat.le_of_ble_eq_true rfl
  go_enter Tryz.func4, Tryz.ntmps4
  go_wp2_with fail
  refine (new_yes d0 _ d0_ok d0_may).mono ?_
  rintro e w1 ⟨g, mb, rfl, hb1, hg, hm, hbel⟩
  have HB1 := Lib.hid hb1
  have HBW1 := Lib.hid hbel
  clear hb1 hbel
  go_wp2_with fail
  refine (accept_any g mb (newV d0) tk tk 1 w1 HB1.out k1).mono ?_
  rw [a1_code]
  rintro e w2 ⟨rfl, hb2, ht2⟩
  have HB2 : Hid (IsBill w2 g mb a1) := Lib.hid hb2
  have HBW2 := Lib.hid (ht2.bel _ _ HBW1.out hg hm)
  clear hb2 ht2
  go_wp2_with fail
  refine (pass_any g mb a1 tp tq 2 w2 HB2.out k2 k3 (by rw [a1_pas]; exact Nat.zero_lt_succ _)).mono ?_
  rw [a2_code]
  rintro e w3 ⟨rfl, hb3, ht3⟩
  have HB3 : Hid (IsBill w3 g mb a2) := Lib.hid hb3
  have HBW3 := Lib.hid (ht3.bel _ _ HBW2.out hg hm)
  clear hb3 ht3
  go_wp2_with fail
  refine (liable_any g mb a2 w3 HB3.out).mono ?_
  rintro e w4 ⟨v, rfl, A1, c1, rfl, hs1, hb4⟩
  rw [a2_lia] at hs1 ⊢
  have HS1 := Lib.hid hs1
  have HB4 := Lib.hid (HB3.out.below hb4)
  have HBW4 := Lib.hid (HBW3.out.trans (hb4.mono HBW3.out.size))
  clear hs1 hb4
  go_wp2_with fail
  refine (texts_any A1 3 c1 [tk, tp, ts] (some ⟨w4.heap.size, 0, none⟩) 3 3 [tk, tp, ts] (w4.alloc (.cells #[.string tk, .string tp, .string ts] 9)) (HS1.out.below (one_alloc _ _)) (SliceOf.blk (en := strC) (Blk.new_at _ 9 #[.string tk, .string tp, .string ts] _ rfl) [tk, tp, ts] rfl (fun _ => rfl) rfl) (by unfold maxLen; omega) (by unfold maxLen; omega)).mono ?_
  rw [decide_eq_true (rfl : [tk, tp, ts] = [tk, tp, ts])]
  rintro e w5 ⟨rfl, hb5⟩
  have HBW5 := Lib.hid ((HBW4.out.alloc HBW4.out.size _).trans (hb5.mono (HBW4.out.alloc HBW4.out.size _).size))
  have HB5 := Lib.hid ((HB4.out.below (one_alloc _ _)).below hb5)
  clear hb5
  go_wp2_with fail
  refine (holder_any g mb a2 w5 HB5.out).mono ?_
  rw [a2_hol]
  rintro e w6 ⟨rfl, rfl⟩
  have d9 : (tq.toList == tq.toList) = true := by rw [eq_str]; simp
  go_wp2_with fail
  go_ret
  exact ⟨ret_bool (by kernel_rfl), HBW5.out⟩
end Go.Proofs.YtlaclkiedjhphaaGreatDoor.kit
