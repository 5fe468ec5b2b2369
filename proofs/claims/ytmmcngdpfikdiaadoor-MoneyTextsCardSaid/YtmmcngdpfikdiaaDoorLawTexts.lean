/- MoneyTexts: the law. Condition: the table of powers of ten. -/
import Derived.Test.YtmmcngdpfikdiaaDoorMyAll
import Derived.Test.YtmmcngdpfikdiaaDoorMyW
import Derived.Test.YtmmcngdpfikdiaaDoorMyTx
import Derived.Test.YtmmcngdpfikdiaaDoorMyTextR
namespace Go.Proofs.YtmmcngdpfikdiaaDoor
open Go.RowKit Go.Proofs.YtmmcngdpfikdiaaDoor.kit Go.PlainAid
set_option linter.unusedVariables false

theorem rtext_may (m : Mon) (w : World) (hc : m.cur.size ≤ maxLen) (hm : mayM m = true) :
    Calls Tryd.prog 17 #[.agg #[.string m.cur, .int .i64 m.amt]] w fun e w' => e = .returned (.string (textV m)) ∧ Below w.heap.size w w' := by
  have hma := (may_iff.1 hm).2
  obtain ⟨c, a⟩ := m
  simp only [] at hma hc ⊢
  by_cases h : a < 0
  · obtain ⟨A, hA⟩ : ∃ A : Nat, a = -(A : Int) := ⟨a.natAbs, by omega⟩
    subst hA
    exact rtext_neg c A w hc (by omega) (by omega)
  · obtain ⟨A, hA⟩ : ∃ A : Nat, a = (A : Int) := ⟨a.natAbs, by omega⟩
    subst hA
    exact rtext_pos c A w hc (by omega) (by omega)
theorem parse_nil : parseV ⟨#[]⟩ = (noM, 2) := by unfold parseV; rw [if_neg (fun h => absurd h.1 (by decide))]
set_option maxRecDepth 100000 in
set_option maxHeartbeats 3200000 in
theorem moneyTexts_walk (m : Mon) (w : World) (hc : m.cur.size ≤ maxLen) (ht : PowTab w) :
    Calls Tryd.prog 6 #[.agg #[.string m.cur, .int .i64 m.amt]] w fun e w' => e = .returned (.bool true) ∧ Below w.heap.size w w' := by
  have HT := Lib.hid (Lib.tabBelow_of_tabIs ht)
  have HX := Lib.hid (fun w ht => text_any m w hc ht)
  have HM := Lib.hid (fun w => rmay_any m w hc)
  have hA0 : Blk (w.alloc (.cells #[.string m.cur, .int .i64 m.amt] 23)) w.heap.size 23 #[.string m.cur, .int .i64 m.amt] := Blk.new _ _ _
  have hB0 : Below w.heap.size w (w.alloc (.cells #[.string m.cur, .int .i64 m.amt] 23)) := (Below.refl _ _).alloc (Nat.le_refl _) _
  have a0 := hA0.cell 0; have a1 := hA0.cell 1
  simp only [List.getElem?_toArray, List.getElem?_cons_zero, List.getElem?_cons_succ] at a0 a1
  clear ht
  by_cases hq : mayM m = true
  rotate_left
  · have hq' : mayM m = false := by simpa using hq
    rw [hq'] at HM
    rw [text_no hq'] at HX
    have HP := Lib.hid (fun w ht => parse_any ⟨#[]⟩ w (by decide) ht)
    rw [parse_nil] at HP
    clear hq hq'
    by_cases h60 : 60 < m.cur.size
    · have d0 : decide ((60 : Int) < (m.cur.size : Int)) = true := decide_eq_true (by omega)
      have d0n : decide (60 < m.cur.size) = true := decide_eq_true h60
      clear HM HP
      go_enter Tryd.func6, Tryd.ntmps6
      go_wp2_with fail
      refine (HX.out _ (HT.out.on hB0).here).mono ?_
      rintro e1 w1 ⟨rfl, hb1⟩
      have hB1 := hB0.trans (hb1.mono hB0.size)
      have hA1 := hA0.below hb1 hA0.lt
      clear a0 a1 hA0 hB0 hb1
      have a0 := hA1.cell 0; have a1 := hA1.cell 1
      simp only [List.getElem?_toArray, List.getElem?_cons_zero, List.getElem?_cons_succ] at a0 a1
      go_wp2_with fail
      refine (awake_any _ (HT.out.on hB1).here).mono ?_
      rintro e1 w2 ⟨rfl, hb2⟩
      have hB2 := hB1.trans (hb2.mono hB1.size)
      go_wp2_with fail
      go_ret
      exact ⟨ret_bool (by simp), hB2⟩
    · have d0 : decide ((60 : Int) < (m.cur.size : Int)) = false := decide_eq_false (by omega)
      have d0n : decide (60 < m.cur.size) = false := decide_eq_false h60
      go_enter Tryd.func6, Tryd.ntmps6
      go_wp2_with fail
      refine (HX.out _ (HT.out.on hB0).here).mono ?_
      rintro e1 w1 ⟨rfl, hb1⟩
      have hB1 := hB0.trans (hb1.mono hB0.size)
      have hA1 := hA0.below hb1 hA0.lt
      clear a0 a1 hA0 hB0 hb1
      have a0 := hA1.cell 0; have a1 := hA1.cell 1
      simp only [List.getElem?_toArray, List.getElem?_cons_zero, List.getElem?_cons_succ] at a0 a1
      go_wp2_with fail
      refine (HP.out _ (HT.out.on hB1).here).mono ?_
      rintro e1 w2 ⟨rfl, hb2⟩
      have hB2 := hB1.trans (hb2.mono hB1.size)
      have hA2 := hA1.below hb2 hA1.lt
      have hB3 : Below w.heap.size w (w2.alloc (.cells #[.string noM.cur, .int .i64 noM.amt] 23)) := hB2.alloc hB2.size _
      have hA3 := hA2.alloc (.cells #[.string noM.cur, .int .i64 noM.amt] 23)
      have hP3 : Blk (w2.alloc (.cells #[.string noM.cur, .int .i64 noM.amt] 23)) w2.heap.size 23 #[.string noM.cur, .int .i64 noM.amt] := Blk.new _ _ _
      clear a0 a1 hA2 hB2
      have a0 := hA3.cell 0; have a1 := hA3.cell 1
      simp only [List.getElem?_toArray, List.getElem?_cons_zero, List.getElem?_cons_succ] at a0 a1
      go_wp2_with fail
      refine (HM.out _).mono ?_
      rintro e1 w4 ⟨rfl, hb4⟩
      have hB4 := hB3.trans (hb4.mono hB3.size)
      have hA4 := hA3.below hb4 hA3.lt
      clear a0 a1 hA3 hB3 hb4
      have a0 := hA4.cell 0; have a1 := hA4.cell 1
      simp only [List.getElem?_toArray, List.getElem?_cons_zero, List.getElem?_cons_succ] at a0 a1
      go_wp2_with fail
      refine (awake_any _ (HT.out.on hB4).here).mono ?_
      rintro e1 w5 ⟨rfl, hb5⟩
      have hB5 := hB4.trans (hb5.mono hB4.size)
      go_wp2_with fail
      go_ret
      exact ⟨ret_bool (by simp), hB5⟩
  · have HR := Lib.hid (fun w => rtext_may m w hc hq)
    have hc3 := cur_size (may_iff.1 hq).1
    have hts := (text_facts hq).2.1
    have HP := Lib.hid (fun w ht => parse_any (textV m) w (by unfold maxLen; omega) ht)
    rw [parse_text hq] at HP
    rw [hq] at HM
    obtain ⟨T, hT⟩ : ∃ T, textV m = T := ⟨_, rfl⟩
    rw [hT] at HX HR HP hts
    have d0 : decide ((60 : Int) < (m.cur.size : Int)) = false := decide_eq_false (by omega)
    have d0n : decide (60 < m.cur.size) = false := decide_eq_false (by omega)
    have q1 := eqMon
    have q2 := eqMonGuard
    have q3 : (T.toList == T.toList) = true := by simp
    have q4 : (m.cur.toList == m.cur.toList) = true := by simp
    clear hq hT hc
    go_enter Tryd.func6, Tryd.ntmps6
    go_wp2_with fail
    refine (HX.out _ (HT.out.on hB0).here).mono ?_
    rintro e1 w1 ⟨rfl, hb1⟩
    have hB1 := hB0.trans (hb1.mono hB0.size)
    have hA1 := hA0.below hb1 hA0.lt
    clear a0 a1 hA0 hB0 hb1
    have a0 := hA1.cell 0; have a1 := hA1.cell 1
    simp only [List.getElem?_toArray, List.getElem?_cons_zero, List.getElem?_cons_succ] at a0 a1
    go_wp2_with fail
    refine (HP.out _ (HT.out.on hB1).here).mono ?_
    rintro e1 w2 ⟨rfl, hb2⟩
    have hB2 := hB1.trans (hb2.mono hB1.size)
    have hA2 := hA1.below hb2 hA1.lt
    have hB3 : Below w.heap.size w (w2.alloc (.cells #[.string m.cur, .int .i64 m.amt] 23)) := hB2.alloc hB2.size _
    have hA3 := hA2.alloc (.cells #[.string m.cur, .int .i64 m.amt] 23)
    have hP3 : Blk (w2.alloc (.cells #[.string m.cur, .int .i64 m.amt] 23)) w2.heap.size 23 #[.string m.cur, .int .i64 m.amt] := Blk.new _ _ _
    clear a0 a1 hA2 hB2
    have a0 := hA3.cell 0; have a1 := hA3.cell 1
    simp only [List.getElem?_toArray, List.getElem?_cons_zero, List.getElem?_cons_succ] at a0 a1
    go_wp2_with fail
    refine (HM.out _).mono ?_
    rintro e1 w4 ⟨rfl, hb4⟩
    have hB4 := hB3.trans (hb4.mono hB3.size)
    have hA4 := hA3.below hb4 hA3.lt
    have hP4 := hP3.below hb4 hP3.lt
    clear a0 a1 hA3 hB3 hP3 hb4
    have a0 := hA4.cell 0; have a1 := hA4.cell 1
    simp only [List.getElem?_toArray, List.getElem?_cons_zero, List.getElem?_cons_succ] at a0 a1
    go_wp2_with fail
    refine (HR.out _).mono ?_
    rintro e1 w5 ⟨rfl, hb5⟩
    have hB5 := hB4.trans (hb5.mono hB4.size)
    have hA5 := hA4.below hb5 hA4.lt
    have hP5 := hP4.below hb5 hP4.lt
    clear a0 a1 hA4 hB4 hP4 hb5
    have a0 := hA5.cell 0; have a1 := hA5.cell 1
    simp only [List.getElem?_toArray, List.getElem?_cons_zero, List.getElem?_cons_succ] at a0 a1
    have p0 := hP5.cell 0; have p1 := hP5.cell 1
    simp only [List.getElem?_toArray, List.getElem?_cons_zero, List.getElem?_cons_succ] at p0 p1
    go_wp2_with fail
    refine (awake_any _ (HT.out.on hB5).here).mono ?_
    rintro e1 w6 ⟨rfl, hb6⟩
    have hB6 := hB5.trans (hb6.mono hB5.size)
    go_wp2_with fail
    go_ret
    exact ⟨ret_bool (by simp), hB6⟩
end Go.Proofs.YtmmcngdpfikdiaaDoor
