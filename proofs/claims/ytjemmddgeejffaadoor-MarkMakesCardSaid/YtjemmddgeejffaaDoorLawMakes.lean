/- MarkMakes: the law. Condition: the table of powers of ten. -/
import Derived.Test.YtjemmddgeejffaaDoorMkF
namespace Go.Proofs.YtjemmddgeejffaaDoor
open Go.RowKit Go.Proofs.YtjemmddgeejffaaDoor.kit Go.PlainAid
set_option linter.unusedVariables false

def zeros6 : ByteArray := ⟨#[48, 48, 48, 48, 48, 48]⟩
theorem zeros_head {o : ByteArray} (h4 : o.size = 4) : headB (o ++ (⟨#[48, 48, 48, 48, 48, 48]⟩ : ByteArray)) = letF o 4 := by
  have hz : (o ++ (⟨#[48, 48, 48, 48, 48, 48]⟩ : ByteArray)).size = 10 := by rw [size_app, h4]; rfl
  have hlo : ∀ i, i < 4 → bt (o ++ (⟨#[48, 48, 48, 48, 48, 48]⟩ : ByteArray)) i = bt o i := fun i hi => by rw [bt_app, if_pos (by omega)]
  unfold headB
  rw [decide_eq_true (by omega), Bool.true_and]
  cases e : letF o 4
  · cases e2 : headF (o ++ (⟨#[48, 48, 48, 48, 48, 48]⟩ : ByteArray)) 10
    · rfl
    · exfalso
      have : letF o 4 = true := by
        have h := fun i (hi : i < 4) => headF_at e2 i (by omega)
        have g : ∀ i, i < 4 → letB (bt o i) = true := fun i hi => by
          have := h i hi
          unfold okAt at this
          rw [if_pos hi, hlo i hi] at this
          exact this
        simp only [letF, g 0 (by omega), g 1 (by omega), g 2 (by omega), g 3 (by omega), Bool.and_self]
      rw [this] at e; cases e
  · apply headF_of
    intro i hi
    unfold okAt
    by_cases h4i : i < 4
    · rw [if_pos h4i, hlo i h4i]; exact letF_at e i h4i
    · rw [if_neg h4i, bt_app, if_neg (by omega), h4]
      have : i = 4 ∨ i = 5 ∨ i = 6 ∨ i = 7 ∨ i = 8 ∨ i = 9 := by omega
      rcases this with rfl | rfl | rfl | rfl | rfl | rfl <;> decide +kernel
set_option maxRecDepth 100000 in
set_option maxHeartbeats 3200000 in
theorem markMakes_walk (o : ByteArray) (n : Int) (w : World) (hs : o.size ≤ maxLen) (ht : PowTab w) : Calls Tryd.prog 3 #[.string o, .int .i64 n] w fun e w' => e = .returned (.bool true) ∧ Below w.heap.size w w' := by
  have HZ := Lib.hid hs
  have HT := Lib.hid ht
  have HTB := Lib.hid (Lib.tabBelow_of_tabIs ht)
  clear ht
  unfold maxLen at hs
  by_cases h200 : 200 < o.size
  · have d0 : decide ((200 : Int) < (o.size : Int)) = true := decide_eq_true (by omega)
    have d0n : decide (200 < o.size) = true := decide_eq_true h200
    go_enter Tryd.func3, Tryd.ntmps3
    go_wp2_with fail
    refine (awake_any _ HT.out).mono ?_
    rintro e w1 ⟨rfl, hb1⟩
    have HB1 := Lib.hid hb1
    clear hb1
    go_wp2_with fail
    go_ret
    exact ⟨rfl, HB1.out⟩
  have d0 : decide ((200 : Int) < (o.size : Int)) = false := decide_eq_false (by omega)
  have d0n : decide (200 < o.size) = false := decide_eq_false h200
  by_cases h4 : o.size = 4
  rotate_left
  · have HE : Hid (makeE o n = (⟨#[]⟩, 1)) := Lib.hid (by unfold makeE; rw [if_neg (by unfold ownB; rw [decide_eq_false h4]; simp)])
    have h4' : ((o.size : Int) != 4) = true := by simp; omega
    have h4n : (o.size != 4) = true := by simp; omega
    go_enter Tryd.func3, Tryd.ntmps3
    go_wp2_with fail
    refine (awake_any _ HT.out).mono ?_
    rintro e w1 ⟨rfl, hb1⟩
    have HB1 := Lib.hid hb1
    clear hb1
    go_wp2_with fail
    refine (make_any o _ _ HZ.out (HTB.out.on HB1.out).here).mono ?_
    rw [HE.out]
    rintro e w2 ⟨rfl, hb2⟩
    have HB2 := Lib.hid (HB1.out.trans (hb2.mono HB1.out.size))
    clear hb2
    go_wp2_with fail
    go_ret
    exact ⟨rfl, HB2.out⟩
  have hz := zeros_head h4
  have HS := Lib.hid (fun w => rsum_any (o ++ (⟨#[48, 48, 48, 48, 48, 48]⟩ : ByteArray)) w (by unfold maxLen; rw [size_app, h4]; decide))
  cases hl : letF o 4
  · have HE : Hid (makeE o n = (⟨#[]⟩, 1)) := Lib.hid (by unfold makeE; rw [if_neg (by unfold ownB; rw [hl, Bool.and_false]; simp)])
    rw [sumV_out (hz.trans hl)] at HS
    clear hz
    go_enter Tryd.func3, Tryd.ntmps3
    go_wp2_with fail
    refine (awake_any _ HT.out).mono ?_
    rintro e w1 ⟨rfl, hb1⟩
    have HB1 := Lib.hid hb1
    clear hb1
    go_wp2_with fail
    refine (make_any o _ _ HZ.out (HTB.out.on HB1.out).here).mono ?_
    rw [HE.out]
    rintro e w2 ⟨rfl, hb2⟩
    have HB2 := Lib.hid (HB1.out.trans (hb2.mono HB1.out.size))
    clear hb2
    go_wp2_with fail
    refine (HS.out _).mono ?_
    rintro e w' ⟨rfl, rfl⟩
    go_wp2_with fail
    go_ret
    exact ⟨rfl, HB2.out⟩
  have hq := sumV_in (hz.trans hl)
  obtain ⟨q, hq'⟩ : ∃ q, sumV (o ++ (⟨#[48, 48, 48, 48, 48, 48]⟩ : ByteArray)) = q := ⟨_, rfl⟩
  rw [hq'] at HS hq
  have ho : ownB o = true := by unfold ownB; rw [hl, decide_eq_true h4]; rfl
  have hq0 : ¬ q < 0 := by omega
  clear hz hq'
  by_cases hn : 0 ≤ n ∧ n ≤ 999999
  rotate_left
  · have HE : Hid (makeE o n = (⟨#[]⟩, 3)) := Lib.hid (by unfold makeE; rw [if_pos ho, if_neg hn])
    by_cases n0 : n < 0
    · clear hn
      go_enter Tryd.func3, Tryd.ntmps3
      go_wp2_with fail
      refine (awake_any _ HT.out).mono ?_
      rintro e w1 ⟨rfl, hb1⟩
      have HB1 := Lib.hid hb1
      clear hb1
      go_wp2_with fail
      refine (make_any o _ _ HZ.out (HTB.out.on HB1.out).here).mono ?_
      rw [HE.out]
      rintro e w2 ⟨rfl, hb2⟩
      have HB2 := Lib.hid (HB1.out.trans (hb2.mono HB1.out.size))
      clear hb2
      go_wp2_with fail
      refine (HS.out _).mono ?_
      rintro e w' ⟨rfl, rfl⟩
      go_wp2_with fail
      go_ret
      exact ⟨rfl, HB2.out⟩
    · have n1 : 999999 < n := by omega
      clear hn
      go_enter Tryd.func3, Tryd.ntmps3
      go_wp2_with fail
      refine (awake_any _ HT.out).mono ?_
      rintro e w1 ⟨rfl, hb1⟩
      have HB1 := Lib.hid hb1
      clear hb1
      go_wp2_with fail
      refine (make_any o _ _ HZ.out (HTB.out.on HB1.out).here).mono ?_
      rw [HE.out]
      rintro e w2 ⟨rfl, hb2⟩
      have HB2 := Lib.hid (HB1.out.trans (hb2.mono HB1.out.size))
      clear hb2
      go_wp2_with fail
      refine (HS.out _).mono ?_
      rintro e w' ⟨rfl, rfl⟩
      go_wp2_with fail
      go_ret
      exact ⟨rfl, HB2.out⟩
  obtain ⟨m, rfl⟩ : ∃ m : Nat, n = m := ⟨n.toNat, by omega⟩
  have HE : Hid (makeE o m = (makeV o m, 0)) := Lib.hid (by unfold makeE; rw [if_pos ho, if_pos hn]; rfl)
  have n0 : ¬ (m : Int) < 0 := by omega
  have n1 : ¬ 999999 < (m : Int) := by omega
  have HR := Lib.hid (fun w => rmake_any o m w ho (by omega))
  clear hn
  go_enter Tryd.func3, Tryd.ntmps3
  go_wp2_with fail
  refine (awake_any _ HT.out).mono ?_
  rintro e w1 ⟨rfl, hb1⟩
  have HB1 := Lib.hid hb1
  clear hb1
  go_wp2_with fail
  refine (make_any o _ _ HZ.out (HTB.out.on HB1.out).here).mono ?_
  rw [HE.out]
  rintro e w2 ⟨rfl, hb2⟩
  have HB2 := Lib.hid (HB1.out.trans (hb2.mono HB1.out.size))
  clear hb2
  go_wp2_with fail
  refine (HS.out _).mono ?_
  rintro e w' ⟨rfl, rfl⟩
  go_wp2_with fail
  refine (HR.out _).mono ?_
  rintro e w3 ⟨rfl, hb3⟩
  have HB3 := Lib.hid (HB2.out.trans (hb3.mono HB2.out.size))
  clear hb3
  go_wp2_with fail
  go_ret
  exact ⟨ret_bool (by simp), HB3.out⟩
end Go.Proofs.YtjemmddgeejffaaDoor
