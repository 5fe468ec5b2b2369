/- MoneyScales: the law. Condition: the table of powers of ten. -/
import Derived.Test.YtmmcngdpfikdiaaDoorMyAll
import Derived.Test.YtmmcngdpfikdiaaDoorMyW
namespace Go.Proofs.YtmmcngdpfikdiaaDoor
open Go.RowKit Go.Proofs.YtmmcngdpfikdiaaDoor.kit Go.PlainAid
set_option linter.unusedVariables false

set_option maxRecDepth 100000 in
set_option maxHeartbeats 3200000 in
theorem moneyScales_walk (m : Mon) (n d way : Int) (w : World) (hc : m.cur.size ≤ maxLen) (hn : I64 n) (hd : I64 d) (ht : PowTab w) :
    Calls Tryd.prog 3 #[.agg #[.string m.cur, .int .i64 m.amt], .agg #[.int .i64 n, .int .i64 d], .int .i64 way] w fun e w' => e = .returned (.bool true) ∧ Below w.heap.size w w' := by
  have HT := Lib.hid (Lib.tabBelow_of_tabIs ht)
  have HS := Lib.hid (fun w => scale_any m n d way w hc hn hd)
  have HR := Lib.hid (fun w => rscale_any m n d way w hc hn hd)
  obtain ⟨⟨S, ok⟩, hv⟩ : ∃ v, scaleV m n d way = v := ⟨_, rfl⟩
  rw [hv] at HS HR
  simp only [] at HS HR
  have q1 := eqMon
  have q2 := eqMonGuard
  have hA0 : Blk ((w.alloc (.cells #[.string m.cur, .int .i64 m.amt] 23)).alloc (.cells #[.int .i64 n, .int .i64 d] 25)) w.heap.size 23 #[.string m.cur, .int .i64 m.amt] := Blk.more (Blk.new _ _ _) _
  have hC0 : Blk ((w.alloc (.cells #[.string m.cur, .int .i64 m.amt] 23)).alloc (.cells #[.int .i64 n, .int .i64 d] 25)) (w.heap.size + 1) 25 #[.int .i64 n, .int .i64 d] := Blk.newAt _ _ (by simp only [size_alloc])
  have hB0 : Below w.heap.size w ((w.alloc (.cells #[.string m.cur, .int .i64 m.amt] 23)).alloc (.cells #[.int .i64 n, .int .i64 d] 25)) := by
    refine Below.alloc (Below.alloc (Below.refl _ _) ?_ _) ?_ _
    all_goals (try simp only [size_alloc]); omega
  have a0 := hA0.cell 0; have a1 := hA0.cell 1; have c0 := hC0.cell 0; have c1 := hC0.cell 1
  simp only [List.getElem?_toArray, List.getElem?_cons_zero, List.getElem?_cons_succ] at a0 a1 c0 c1
  clear hv ht hn hd hc
  go_enter Tryd.func3, Tryd.ntmps3
  go_wp2_with fail
  refine (HS.out _).mono ?_
  rintro e w1 ⟨rfl, hb1⟩
  have hB1 : Below w.heap.size w (w1.alloc (.cells #[.string S.cur, .int .i64 S.amt] 23)) := (hB0.trans (hb1.mono hB0.size)).alloc (hB0.trans (hb1.mono hB0.size)).size _
  have hA1 := (hA0.below hb1 hA0.lt).alloc (.cells #[.string S.cur, .int .i64 S.amt] 23)
  have hC1 := (hC0.below hb1 hC0.lt).alloc (.cells #[.string S.cur, .int .i64 S.amt] 23)
  have hS1 : Blk (w1.alloc (.cells #[.string S.cur, .int .i64 S.amt] 23)) w1.heap.size 23 #[.string S.cur, .int .i64 S.amt] := Blk.new _ _ _
  clear a0 a1 c0 c1 hA0 hC0 hB0 hb1
  have a0 := hA1.cell 0; have a1 := hA1.cell 1; have c0 := hC1.cell 0; have c1 := hC1.cell 1
  simp only [List.getElem?_toArray, List.getElem?_cons_zero, List.getElem?_cons_succ] at a0 a1 c0 c1
  go_wp2_with fail
  refine (HR.out _).mono ?_
  rintro e w2 ⟨rfl, hb2⟩
  have hB2' := hB1.trans (hb2.mono hB1.size)
  have hB2 : Below w.heap.size w (w2.alloc (.cells #[.string S.cur, .int .i64 S.amt] 23)) := hB2'.alloc hB2'.size _
  have hS2 := (hS1.below hb2 hS1.lt).alloc (.cells #[.string S.cur, .int .i64 S.amt] 23)
  have s0 := hS2.cell 0; have s1 := hS2.cell 1
  simp only [List.getElem?_toArray, List.getElem?_cons_zero, List.getElem?_cons_succ] at s0 s1
  clear a0 a1 c0 c1 hA1 hC1 hB1 hb2
  go_wp2_with fail
  refine (awake_any _ (HT.out.on hB2).here).mono ?_
  rintro e w3 ⟨rfl, hb3⟩
  have hB3 := hB2.trans (hb3.mono hB2.size)
  go_wp2_with fail
  go_ret
  exact ⟨ret_bool (by simp), hB3⟩
end Go.Proofs.YtmmcngdpfikdiaaDoor
