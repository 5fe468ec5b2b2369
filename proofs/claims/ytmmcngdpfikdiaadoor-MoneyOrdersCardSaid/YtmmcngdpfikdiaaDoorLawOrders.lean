/- MoneyOrders: the law. Condition: the table of powers of ten. -/
import Derived.Test.YtmmcngdpfikdiaaDoorMyW
import Derived.Test.YtmmcngdpfikdiaaDoorMyCmp
namespace Go.Proofs.YtmmcngdpfikdiaaDoor
open Go.RowKit Go.Proofs.YtmmcngdpfikdiaaDoor.kit Go.PlainAid
set_option linter.unusedVariables false

theorem cmpN_three (a b c d : Nat) : cmpN a b c d = -1 ∨ cmpN a b c d = 0 ∨ cmpN a b c d = 1 := by
  rcases Nat.lt_trichotomy (a * d) (c * b) with h | h | h
  · exact .inl (cmpN_lt h)
  · exact .inr (.inl (cmpN_eq h))
  · exact .inr (.inr (cmpN_gt h))
set_option maxRecDepth 100000 in
set_option maxHeartbeats 3200000 in
theorem moneyOrders_walk (a b c d e f : Int) (w : World) (ha : I64 a) (hb : I64 b) (hc : I64 c) (hd : I64 d) (he : I64 e) (hf : I64 f) (ht : PowTab w) :
    Calls Tryd.prog 9 #[(.agg #[.int .i64 a, .int .i64 b]), (.agg #[.int .i64 c, .int .i64 d]), (.agg #[.int .i64 e, .int .i64 f])] w fun e w' => e = .returned (.bool true) ∧ Below w.heap.size w w' := by
  have HT := Lib.hid (Lib.tabBelow_of_tabIs ht)
  have HX := Lib.hid (fun w => cmp_any a b c d w ha hb hc hd)
  have HY := Lib.hid (fun w => cmp_any c d e f w hc hd he hf)
  have HZ := Lib.hid (fun w => cmp_any a b e f w ha hb he hf)
  have HS := Lib.hid (fun w => cmp_any a b a b w ha hb ha hb)
  have hself : cmpV a b a b = 0 := cmpN_self _ _
  rw [hself] at HS
  have hord : ¬ (cmpV a b c d ≤ 0 ∧ cmpV c d e f ≤ 0 ∧ (0 < cmpV a b e f ∨ cmpV a b e f = 0 ∧ (cmpV a b c d < 0 ∨ cmpV c d e f < 0))) := cmp_orders (wD_pos a b) (wD_pos c d) (wD_pos e f)
  have t1 : cmpV a b c d = -1 ∨ cmpV a b c d = 0 ∨ cmpV a b c d = 1 := cmpN_three _ _ _ _
  have t2 : cmpV c d e f = -1 ∨ cmpV c d e f = 0 ∨ cmpV c d e f = 1 := cmpN_three _ _ _ _
  have t3 : cmpV a b e f = -1 ∨ cmpV a b e f = 0 ∨ cmpV a b e f = 1 := cmpN_three _ _ _ _
  obtain ⟨X, hX⟩ : ∃ X, cmpV a b c d = X := ⟨_, rfl⟩
  obtain ⟨Y, hY⟩ : ∃ X, cmpV c d e f = X := ⟨_, rfl⟩
  obtain ⟨Z, hZ⟩ : ∃ X, cmpV a b e f = X := ⟨_, rfl⟩
  rw [hX] at HX hord t1
  rw [hY] at HY hord t2
  rw [hZ] at HZ hord t3
  have hA0 : Blk (((w.alloc (.cells #[.int .i64 a, .int .i64 b] 25)).alloc (.cells #[.int .i64 c, .int .i64 d] 25)).alloc (.cells #[.int .i64 e, .int .i64 f] 25)) w.heap.size 25 #[.int .i64 a, .int .i64 b] := Blk.more (Blk.more (Blk.new _ _ _) _) _
  have hC0 : Blk (((w.alloc (.cells #[.int .i64 a, .int .i64 b] 25)).alloc (.cells #[.int .i64 c, .int .i64 d] 25)).alloc (.cells #[.int .i64 e, .int .i64 f] 25)) (w.heap.size + 1) 25 #[.int .i64 c, .int .i64 d] := Blk.more (Blk.newAt _ _ (by simp only [size_alloc])) _
  have hE0 : Blk (((w.alloc (.cells #[.int .i64 a, .int .i64 b] 25)).alloc (.cells #[.int .i64 c, .int .i64 d] 25)).alloc (.cells #[.int .i64 e, .int .i64 f] 25)) (w.heap.size + 1 + 1) 25 #[.int .i64 e, .int .i64 f] := Blk.newAt _ _ (by simp only [size_alloc])
  have hB0 : Below w.heap.size w (((w.alloc (.cells #[.int .i64 a, .int .i64 b] 25)).alloc (.cells #[.int .i64 c, .int .i64 d] 25)).alloc (.cells #[.int .i64 e, .int .i64 f] 25)) := by
    refine Below.alloc (Below.alloc (Below.alloc (Below.refl _ _) ?_ _) ?_ _) ?_ _
    all_goals (try simp only [size_alloc]); omega
  have HO := Lib.hid hord
  clear hX hY hZ hself hord ht ha hb hc hd he hf
  have a0 := (hA0).cell 0; have a1 := (hA0).cell 1
  simp only [List.getElem?_toArray, List.getElem?_cons_zero, List.getElem?_cons_succ] at a0 a1
  have c0 := (hC0).cell 0; have c1 := (hC0).cell 1
  simp only [List.getElem?_toArray, List.getElem?_cons_zero, List.getElem?_cons_succ] at c0 c1
  have e0 := (hE0).cell 0; have e1 := (hE0).cell 1
  simp only [List.getElem?_toArray, List.getElem?_cons_zero, List.getElem?_cons_succ] at e0 e1
  go_enter Tryd.func9, Tryd.ntmps9
  go_wp2_with fail
  generalize hW : (((w.alloc (.cells #[.int .i64 a, .int .i64 b] 25)).alloc (.cells #[.int .i64 c, .int .i64 d] 25)).alloc (.cells #[.int .i64 e, .int .i64 f] 25)) = W at *
  have p0 := wof_cell a0; have p1 := wof_cell a1; have p2 := wof_cell c0; have p3 := wof_cell c1; have p4 := wof_cell e0; have p5 := wof_cell e1
  refine wp_region_quiet_below (by kernel_rfl) (by kernel_rfl) ?_
  repeat (go_big_quiet_step ((first | (go_at_call 23; with_reducible exact quiet_below (HX.out _)) | (go_at_call 23; with_reducible exact quiet_below (HY.out _)) | (go_at_call 23; exact quiet_below (HZ.out _)))))
  refine wpQuiet_nil ?_
  intro w3 hb3
  have hB3 := hB0.trans (hb3.mono hB0.size)
  have hA3 := hA0.below hb3 hA0.lt
  clear p0 p1 p2 p3 p4 p5 a0 a1 c0 c1 e0 e1 hA0 hC0 hE0 hB0 hb3
  have a0 := (hA3).cell 0; have a1 := (hA3).cell 1
  simp only [List.getElem?_toArray, List.getElem?_cons_zero, List.getElem?_cons_succ] at a0 a1
  rcases t1 with rfl | rfl | rfl <;> rcases t2 with rfl | rfl | rfl <;> rcases t3 with rfl | rfl | rfl
  all_goals first
    | (exfalso; exact absurd HO.out (by decide))
    | skip
  all_goals
    go_wp2_with fail
    refine (HS.out _).mono ?_
    rintro e1 w4 ⟨rfl, hb4⟩
    have hB4 := hB3.trans (hb4.mono hB3.size)
    go_wp2_with fail
    refine (awake_any _ (HT.out.on hB4).here).mono ?_
    rintro e1 w5 ⟨rfl, hb5⟩
    have hB5 := hB4.trans (hb5.mono hB4.size)
    go_wp2_with fail
    go_ret
    exact ⟨ret_bool (by simp), hB5⟩
end Go.Proofs.YtmmcngdpfikdiaaDoor
