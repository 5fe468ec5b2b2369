/- MoneyParses: the law. Condition: the table of powers of ten. -/
import Derived.Test.YtmmcngdpfikdiaaDoorMyW
import Derived.Test.YtmmcngdpfikdiaaDoorMyParseR
namespace Go.Proofs.YtmmcngdpfikdiaaDoor
open Go.RowKit Go.Proofs.YtmmcngdpfikdiaaDoor.kit Go.PlainAid
set_option linter.unusedVariables false

theorem eq_no (w : World) : (binOp .eql 23 (.agg #[.string noM.cur, .int .i64 noM.amt]) (.agg #[.string ⟨#[]⟩, .int .i64 0])).run Tryd.prog w = .ok (.bool true) w := by
  have h := eqMon noM noM w
  rw [show ((noM.cur.toList == noM.cur.toList) && (noM.amt == noM.amt)) = true by simp] at h
  exact h
set_option maxRecDepth 100000 in
set_option maxHeartbeats 3200000 in
theorem moneyParses_walk (s : ByteArray) (w : World) (hs : s.size ≤ maxLen) (ht : PowTab w) :
    Calls Tryd.prog 7 #[.string s] w fun e w' => e = .returned (.bool true) ∧ Below w.heap.size w w' := by
  have HT := Lib.hid (Lib.tabBelow_of_tabIs ht)
  have HP := Lib.hid (fun w ht => parse_any s w hs ht)
  have HR := Lib.hid (fun w => rparse_any s w hs)
  have hB0 : Below w.heap.size w w := Below.refl _ _
  have q1 := eqMon
  have q2 := eqMonGuard
  clear ht
  by_cases h60 : 60 < s.size
  · have d0 : decide ((60 : Int) < (s.size : Int)) = true := decide_eq_true (by omega)
    have d0n : decide (60 < s.size) = true := decide_eq_true h60
    go_enter Tryd.func7, Tryd.ntmps7
    go_wp2_with fail
    refine (awake_any _ (HT.out.on hB0).here).mono ?_
    rintro e1 w1 ⟨rfl, hb1⟩
    have hB1 := hB0.trans (hb1.mono hB0.size)
    go_wp2_with fail
    go_ret
    exact ⟨ret_bool (by simp), hB1⟩
  have d0 : decide ((60 : Int) < (s.size : Int)) = false := decide_eq_false (by omega)
  have d0n : decide (60 < s.size) = false := decide_eq_false h60
  rcases rparse_eq s with ⟨h1, h2⟩ | ⟨m, hm, hx, h1, h2⟩
  · rw [h1] at HP
    rw [h2] at HR
    simp only [] at HP HR
    have q5 := eq_no
    clear h1 h2
    go_enter Tryd.func7, Tryd.ntmps7
    go_wp2_with fail
    refine (HP.out _ (HT.out.on hB0).here).mono ?_
    rintro e1 w1 ⟨rfl, hb1⟩
    have hBx := hB0.trans (hb1.mono hB0.size)
    have hB1 : Below w.heap.size w (w1.alloc (.cells #[.string noM.cur, .int .i64 noM.amt] 23)) := hBx.alloc hBx.size _
    have hA1 : Blk (w1.alloc (.cells #[.string noM.cur, .int .i64 noM.amt] 23)) w1.heap.size 23 #[.string noM.cur, .int .i64 noM.amt] := Blk.new _ _ _
    clear hb1 hBx
    go_wp2_with fail
    refine (HR.out _).mono ?_
    rintro e1 w2 ⟨rfl, hb2⟩
    have hBx := hB1.trans (hb2.mono hB1.size)
    have hB2 : Below w.heap.size w (w2.alloc (.cells #[.string noM.cur, .int .i64 noM.amt] 23)) := hBx.alloc hBx.size _
    have hA2 := (hA1.below hb2 hA1.lt).alloc (.cells #[.string noM.cur, .int .i64 noM.amt] 23)
    have hC2 : Blk (w2.alloc (.cells #[.string noM.cur, .int .i64 noM.amt] 23)) w2.heap.size 23 #[.string noM.cur, .int .i64 noM.amt] := Blk.new _ _ _
    clear hb2 hBx hA1 hB1
    have a0 := (hA2).cell 0; have a1 := (hA2).cell 1
    simp only [List.getElem?_toArray, List.getElem?_cons_zero, List.getElem?_cons_succ] at a0 a1
    have c0 := (hC2).cell 0; have c1 := (hC2).cell 1
    simp only [List.getElem?_toArray, List.getElem?_cons_zero, List.getElem?_cons_succ] at c0 c1
    go_wp2_with fail
    refine (awake_any _ (HT.out.on hB2).here).mono ?_
    rintro e1 w3 ⟨rfl, hb3⟩
    have hB3 := hB2.trans (hb3.mono hB2.size)
    go_wp2_with fail
    go_ret
    exact ⟨ret_bool (by simp), hB3⟩
  · rw [h1] at HP
    rw [h2] at HR
    simp only [] at HP HR
    have hc3 := cur_size (may_iff.1 hm).1
    have HX := Lib.hid (fun w ht => text_any m w (by unfold maxLen; omega) ht)
    rw [hx] at HX
    have q3 : (s.toList == s.toList) = true := by simp
    clear h1 h2 hx hm hc3
    go_enter Tryd.func7, Tryd.ntmps7
    go_wp2_with fail
    refine (HP.out _ (HT.out.on hB0).here).mono ?_
    rintro e1 w1 ⟨rfl, hb1⟩
    have hBx := hB0.trans (hb1.mono hB0.size)
    have hB1 : Below w.heap.size w (w1.alloc (.cells #[.string m.cur, .int .i64 m.amt] 23)) := hBx.alloc hBx.size _
    have hA1 : Blk (w1.alloc (.cells #[.string m.cur, .int .i64 m.amt] 23)) w1.heap.size 23 #[.string m.cur, .int .i64 m.amt] := Blk.new _ _ _
    clear hb1 hBx
    go_wp2_with fail
    refine (HR.out _).mono ?_
    rintro e1 w2 ⟨rfl, hb2⟩
    have hBx := hB1.trans (hb2.mono hB1.size)
    have hB2 : Below w.heap.size w (w2.alloc (.cells #[.string m.cur, .int .i64 m.amt] 23)) := hBx.alloc hBx.size _
    have hA2 := (hA1.below hb2 hA1.lt).alloc (.cells #[.string m.cur, .int .i64 m.amt] 23)
    have hC2 : Blk (w2.alloc (.cells #[.string m.cur, .int .i64 m.amt] 23)) w2.heap.size 23 #[.string m.cur, .int .i64 m.amt] := Blk.new _ _ _
    clear hb2 hBx hA1 hB1
    have a0 := (hA2).cell 0; have a1 := (hA2).cell 1
    simp only [List.getElem?_toArray, List.getElem?_cons_zero, List.getElem?_cons_succ] at a0 a1
    have c0 := (hC2).cell 0; have c1 := (hC2).cell 1
    simp only [List.getElem?_toArray, List.getElem?_cons_zero, List.getElem?_cons_succ] at c0 c1
    go_wp2_with fail
    refine (HX.out _ (HT.out.on hB2).here).mono ?_
    rintro e1 w3 ⟨rfl, hb3⟩
    have hB3 := hB2.trans (hb3.mono hB2.size)
    go_wp2_with fail
    refine (awake_any _ (HT.out.on hB3).here).mono ?_
    rintro e1 w4 ⟨rfl, hb4⟩
    have hB4 := hB3.trans (hb4.mono hB3.size)
    go_wp2_with fail
    go_ret
    exact ⟨ret_bool (by simp), hB4⟩
end Go.Proofs.YtmmcngdpfikdiaaDoor
