/- MarkMends: the law. Condition: the table of powers of ten. -/
import Derived.Test.YtjemmddgeejffaaDoorMeD
namespace Go.Proofs.YtjemmddgeejffaaDoor
open Go.RowKit Go.Proofs.YtjemmddgeejffaaDoor.kit Go.PlainAid
set_option linter.unusedVariables false

set_option maxRecDepth 100000 in
set_option maxHeartbeats 3200000 in
theorem markMends_walk (s : ByteArray) (w : World) (hs : s.size ≤ maxLen) (ht : PowTab w) :
    Calls Tryd.prog 8 #[.string s] w fun e w' => e = .returned (.bool true) ∧ Below w.heap.size w w' := by
  have HZ := Lib.hid hs
  have HT := Lib.hid ht
  unfold maxLen at hs
  clear ht
  by_cases h200 : 200 < s.size
  · have h200' : (200 : Int) < (s.size : Int) := by omega
    go_enter Tryd.func8, Tryd.ntmps8
    go_wp2_with fail
    refine (awake_any _ HT.out).mono ?_
    rintro e w1 ⟨rfl, hb1⟩
    have HB1 := Lib.hid hb1
    clear hb1
    go_wp2_with fail
    go_ret
    exact ⟨rfl, HB1.out⟩
  have h200' : ¬ (200 : Int) < (s.size : Int) := by omega
  have HM : Hid (∀ w, Calls Tryd.prog 23 #[.string s] w fun e w' => ∃ (A : Option Addr) (n c : Nat), e = .returned (.slice A n c) ∧ SliceOf w' 1 strC A n (mendV s) ∧ n ≤ 432 ∧ Below w.heap.size w w') := Lib.hid (fun w => by
    by_cases hz : s.size = 12
    · exact mend_any s w hz
    · refine (mend_short s w hz (by omega)).mono ?_
      rintro e w' ⟨rfl, hb⟩
      exact ⟨none, 0, 0, rfl, by unfold mendV; rw [if_neg hz]; exact SliceOf.none_, by omega, hb⟩)
  have HR := Lib.hid (fun w => right_any s w HZ.out)
  have HRM := Lib.hid (fun h => congrArg List.length (right_mend (s := s) h))
  go_enter Tryd.func8, Tryd.ntmps8
  go_wp2_with fail
  refine (awake_any _ HT.out).mono ?_
  rintro e w1 ⟨rfl, hb1⟩
  have HB1 := Lib.hid hb1
  clear hb1
  go_wp2_with fail
  refine (HM.out _).mono ?_
  rintro e w2 ⟨A, n, c, rfl, hs2, hn, hb2⟩
  have HS2 := Lib.hid hs2
  have HL := Lib.hid hs2.len
  have HB2 := Lib.hid (HB1.out.trans (hb2.mono HB1.out.size))
  clear hs2 hb2
  go_wp2_with fail
  refine (rmend_any s w2 (by omega)).mono ?_
  rintro e w3 ⟨A3, n3, c3, rfl, hs3, hn3, hb3⟩
  have HS3 := Lib.hid hs3
  have HS2' := Lib.hid (HS2.out.below hb3)
  have HB3 := Lib.hid (HB2.out.trans (hb3.mono HB2.out.size))
  clear hs3 hb3
  go_wp2_with fail
  refine (same_any A n c (mendV s) A3 n3 c3 w3 HS2'.out HS3.out (by unfold maxLen; omega) (by unfold maxLen; omega)).mono ?_
  rintro e w9 ⟨rfl, hb9⟩
  have HB9 := Lib.hid (HB3.out.trans (hb9.mono HB3.out.size))
  clear hb9
  cases hr : rightB s
  · rw [hr] at HR
    clear hr
    go_wp2_with fail
    refine (HR.out _).mono ?_
    rintro e w4 ⟨rfl, hb4⟩
    have HB4 := Lib.hid (HB9.out.trans (hb4.mono HB9.out.size))
    clear hb4
    go_wp2_with fail
    go_ret
    exact ⟨rfl, HB4.out⟩
  · have hn0 : n = 0 := by have := HRM.out hr; rw [HL.out] at this; exact this
    subst hn0
    rw [hr] at HR
    clear hr
    go_wp2_with fail
    refine (HR.out _).mono ?_
    rintro e w4 ⟨rfl, hb4⟩
    have HB4 := Lib.hid (HB9.out.trans (hb4.mono HB9.out.size))
    clear hb4
    go_wp2_with fail
    go_ret
    exact ⟨rfl, HB4.out⟩
end Go.Proofs.YtjemmddgeejffaaDoor
