/- MarkTells: the law. Condition: the table of powers of ten. -/
import Derived.Test.YtjemmddgeejffaaDoorMkE
namespace Go.Proofs.YtjemmddgeejffaaDoor
open Go.RowKit Go.Proofs.YtjemmddgeejffaaDoor.kit Go.PlainAid
set_option linter.unusedVariables false

set_option maxRecDepth 100000 in
set_option maxHeartbeats 3200000 in
theorem markTells_walk (s : ByteArray) (w : World) (hs : s.size ≤ maxLen) (ht : PowTab w) : Calls Tryd.prog 5 #[.string s] w fun e w' => e = .returned (.bool true) ∧ Below w.heap.size w w' := by
  have HZ := Lib.hid hs
  have HT := Lib.hid ht
  clear ht
  unfold maxLen at hs
  by_cases h200 : 200 < s.size
  · have d0 : decide ((200 : Int) < (s.size : Int)) = true := decide_eq_true (by omega)
    have d0n : decide (200 < s.size) = true := decide_eq_true h200
    go_enter Tryd.func5, Tryd.ntmps5
    go_wp2_with fail
    refine (awake_any _ HT.out).mono ?_
    rintro e w1 ⟨rfl, hb1⟩
    have HB1 := Lib.hid hb1
    clear hb1
    go_wp2_with fail
    go_ret
    exact ⟨rfl, HB1.out⟩
  have d0 : decide ((200 : Int) < (s.size : Int)) = false := decide_eq_false (by omega)
  have d0n : decide (200 < s.size) = false := decide_eq_false h200
  cases hr : rightB s
  · have HR := Lib.hid hr
    clear hr
    go_enter Tryd.func5, Tryd.ntmps5
    go_wp2_with fail
    refine (awake_any _ HT.out).mono ?_
    rintro e w1 ⟨rfl, hb1⟩
    have HB1 := Lib.hid hb1
    clear hb1
    go_wp2_with fail
    refine (rright_any s _ HZ.out).mono ?_
    rw [HR.out]
    rintro e w2 ⟨rfl, hb2⟩
    have HB2 := Lib.hid (HB1.out.trans (hb2.mono HB1.out.size))
    clear hb2
    go_wp2_with fail
    refine (name_any s _ HZ.out).mono ?_
    rintro e w' ⟨rfl, rfl⟩
    go_wp2_with fail
    refine (rname_any s _ HZ.out).mono ?_
    rintro e w' ⟨rfl, rfl⟩
    go_wp2_with fail
    refine (sum_any s _ HZ.out).mono ?_
    rintro e w' ⟨rfl, rfl⟩
    go_wp2_with fail
    refine (rsum_any s _ HZ.out).mono ?_
    rintro e w' ⟨rfl, rfl⟩
    go_wp2_with fail
    refine (right_any s _ HZ.out).mono ?_
    rw [HR.out]
    rintro e w3 ⟨rfl, hb3⟩
    have HB3 := Lib.hid (HB2.out.trans (hb3.mono HB2.out.size))
    clear hb3
    go_wp2_with fail
    refine (rright_any s _ HZ.out).mono ?_
    rw [HR.out]
    rintro e w4 ⟨rfl, hb4⟩
    have HB4 := Lib.hid (HB3.out.trans (hb4.mono HB3.out.size))
    clear hb4
    go_wp2_with fail
    refine (owner_any s _ HZ.out).mono ?_
    rw [HR.out, if_neg (by simp)]
    rintro e w5 ⟨rfl, hb5⟩
    have HB5 := Lib.hid (HB4.out.trans (hb5.mono HB4.out.size))
    clear hb5
    go_wp2_with fail
    refine (number_any s _ HZ.out).mono ?_
    rw [HR.out, if_neg (by simp)]
    rintro e w6 ⟨rfl, hb6⟩
    have HB6 := Lib.hid (HB5.out.trans (hb6.mono HB5.out.size))
    clear hb6
    go_wp2_with fail
    go_ret
    exact ⟨ret_bool (by simp), HB6.out⟩
  · have h12 : s.size = 12 := by unfold rightB at hr; simp at hr; exact hr.1
    have HH : Hid (headF s 10 = true) := Lib.hid (by unfold rightB at hr; simp at hr; exact hr.2.1)
    have HR := Lib.hid hr
    clear hr
    have HN := Lib.hid (fun w => rnumber_any s w HH.out (by omega))
    go_enter Tryd.func5, Tryd.ntmps5
    go_wp2_with fail
    refine (awake_any _ HT.out).mono ?_
    rintro e w1 ⟨rfl, hb1⟩
    have HB1 := Lib.hid hb1
    clear hb1
    go_wp2_with fail
    refine (rright_any s _ HZ.out).mono ?_
    rw [HR.out]
    rintro e w2 ⟨rfl, hb2⟩
    have HB2 := Lib.hid (HB1.out.trans (hb2.mono HB1.out.size))
    clear hb2
    go_wp2_with fail
    go_quiet ((go_at_call 17; exact Calls.quiet_of_same ((HN.out _).mono fun _ _ h => ⟨h.1, h.2.symm⟩)))
    have HB3 := Lib.hid (below_drewN HB2.out nq)
    go_wp2_with fail
    refine (name_any s _ HZ.out).mono ?_
    rintro e w' ⟨rfl, rfl⟩
    go_wp2_with fail
    refine (rname_any s _ HZ.out).mono ?_
    rintro e w' ⟨rfl, rfl⟩
    go_wp2_with fail
    refine (sum_any s _ HZ.out).mono ?_
    rintro e w' ⟨rfl, rfl⟩
    go_wp2_with fail
    refine (rsum_any s _ HZ.out).mono ?_
    rintro e w' ⟨rfl, rfl⟩
    go_wp2_with fail
    refine (right_any s _ HZ.out).mono ?_
    rw [HR.out]
    rintro e w4 ⟨rfl, hb4⟩
    have HB4 := Lib.hid (HB3.out.trans (hb4.mono HB3.out.size))
    clear hb4
    go_wp2_with fail
    refine (rright_any s _ HZ.out).mono ?_
    rw [HR.out]
    rintro e w5 ⟨rfl, hb5⟩
    have HB5 := Lib.hid (HB4.out.trans (hb5.mono HB4.out.size))
    clear hb5
    go_wp2_with fail
    refine (owner_any s _ HZ.out).mono ?_
    rw [HR.out, if_pos rfl]
    rintro e w6 ⟨rfl, hb6⟩
    have HB6 := Lib.hid (HB5.out.trans (hb6.mono HB5.out.size))
    clear hb6
    go_wp2_with fail
    refine (number_any s _ HZ.out).mono ?_
    rw [HR.out, if_pos rfl]
    rintro e w7 ⟨rfl, hb7⟩
    have HB7 := Lib.hid (HB6.out.trans (hb7.mono HB6.out.size))
    clear hb7
    go_wp2_with fail
    go_ret
    exact ⟨ret_bool (by simp), HB7.out⟩
end Go.Proofs.YtjemmddgeejffaaDoor
