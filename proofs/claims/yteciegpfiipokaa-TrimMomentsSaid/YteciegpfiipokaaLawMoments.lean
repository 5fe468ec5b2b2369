/- TrimMoments: of any ship and loads the moments, and the means, are what the chapter says. No condition. -/
import Derived.Test.YteciegpfiipokaaAwake
import Derived.Test.YteciegpfiipokaaFit
import Derived.Test.YteciegpfiipokaaMean
import Derived.Test.YteciegpfiipokaaEq
namespace Go.Proofs.Yteciegpfiipokaa
open Go.RowKit Go.Proofs.Yteciegpfiipokaa.kit
set_option linter.unusedVariables false

theorem raFields : Try.prog.underlying 31 = some (.struct (Try.prog.fieldsOf 31)) := by kernel_rfl
theorem raStood : Try.prog.stoodInHeld 31 = false := by kernel_rfl
theorem raGuard : Try.prog.eqGuardType Try.prog.depth 31 = false := by kernel_rfl
theorem len2 {α : Type} {l : List α} (h : l.length = 2) : ∃ a b, l = [a, b] := by
  rcases l with _ | ⟨a, _ | ⟨b, _ | ⟨c, l⟩⟩⟩
  all_goals first | exact ⟨_, _, rfl⟩ | (simp at h)
theorem eqRatio (a b a' b' : Int) (w : World) : (binOp .eql 31 (.agg #[.int .i64 a, .int .i64 b]) (.agg #[.int .i64 a', .int .i64 b'])).run Try.prog w = .ok (.bool (((a, b) : Int × Int) == (a', b'))) w := by
  rw [run_eql_struct, show (10000 : Nat) = 9999 + 1 from rfl, run_equalIn_struct _ _ _ _ _ raFields raStood]
  have hf : (Try.prog.fieldsOf 31).toList.map (fun f => (f.name, f.type, f.offset)) = [("Num", 2, 0), ("Den", 2, 1)] := by kernel_rfl
  generalize (Try.prog.fieldsOf 31).toList = l at hf
  obtain ⟨f1, f2, rfl⟩ := len2 (show l.length = 2 by have := congrArg List.length hf; simpa using this)
  simp only [List.map_cons, List.map_nil, List.cons.injEq, Prod.mk.injEq, and_true] at hf
  obtain ⟨⟨h1, h2, h3⟩, h4, h5, h6⟩ := hf
  have q : ∀ (x y : Int), (Op.equalIn 9999 2 (.int .i64 x) (.int .i64 y)).run Try.prog w = .ok (x == y) w := fun x y => run_equalIn_int w 9998 _ _ _ _ _ Try.underlying2
  have hp : ∀ (x y : Int), (part 2 #[.int .i64 x, .int .i64 y] 0).run Try.prog w = .ok (.int .i64 x) w ∧ (part 2 #[.int .i64 x, .int .i64 y] 1).run Try.prog w = .ok (.int .i64 y) w := fun x y => ⟨by kernel_rfl, by kernel_rfl⟩
  simp only [Op.eqFields, h1, h2, h3, h4, h5, h6, Sem.run_bind, Sem.run_ite, (hp _ _).1, (hp _ _).2, q, Result.andThen_ok]
  cases e1 : a == a' <;> cases e2 : b == b' <;> simp_all
theorem eqRatioSame (a b : Int) (w : World) : (binOp .eql 31 (.agg #[.int .i64 a, .int .i64 b]) (.agg #[.int .i64 a, .int .i64 b])).run Try.prog w = .ok (.bool true) w := by
  rw [eqRatio]; simp
theorem eqRatioGuard (x y : Operand) (xs ys : Array Value) (w : World) : (eqGuard .eql 31 x y (.agg xs) (.agg ys)).run Try.prog w = .ok () w := run_eqGuard_agg w _ _ _ _ _ _ raGuard

theorem mean_fit {s : Ship} {xs : List Load} (h : fitB s xs = true) (hn : 0 < xs.length) : meanV s xs = ((absF (sumBy (fL s) xs), sumBy Load.we xs), (absF (sumBy (fC s) xs), sumBy Load.we xs), (sumBy fU xs, sumBy Load.we xs)) := by
  have := mom_bd h
  exact if_pos ⟨h, by omega⟩
theorem mean_none {s : Ship} {xs : List Load} (h : fitB s xs = false ∨ xs = []) : meanV s xs = ((0, 1), (0, 1), (0, 1)) := by
  refine if_neg ?_
  rintro ⟨h1, h2⟩
  rcases h with h | rfl
  · rw [h1] at h; cases h
  · exact h2 rfl

set_option maxRecDepth 100000 in
set_option maxHeartbeats 1600000 in
theorem trimMoments_walk (s : Ship) (hs : s.wf) (A : Option Addr) (n c : Nat) (xs : List Load) (w : World) (hx : SliceOf w 7 Load.cells A n xs) (hnc : n ≤ c) (hcm : c ≤ maxLen) :
    Calls Try.prog 4 #[.agg #[.string s.nm, .int .i64 s.ba, .int .i64 s.ro, .int .i64 s.ti, .int .i64 s.st, .int .i64 s.tr, .int .i64 s.li, .int .i64 s.up, .int .i64 s.mo], .slice A n c] w fun e w' => e = .returned (.bool true) ∧ Below w.heap.size w w' := by
  have qg := eqRatioGuard
  have qe := eqRatioSame
  obtain ⟨hn, _⟩ := hs
  have hm : n ≤ maxLen := by omega
  have HX := Lib.hid hx
  have hxl := hx.len
  have hB0 : Below w.heap.size w (w.alloc (.cells #[.string s.nm, .int .i64 s.ba, .int .i64 s.ro, .int .i64 s.ti, .int .i64 s.st, .int .i64 s.tr, .int .i64 s.li, .int .i64 s.up, .int .i64 s.mo] 23)) := (Below.refl _ _).alloc (Nat.le_refl _) _
  have hk0 : Blk (w.alloc (.cells #[.string s.nm, .int .i64 s.ba, .int .i64 s.ro, .int .i64 s.ti, .int .i64 s.st, .int .i64 s.tr, .int .i64 s.li, .int .i64 s.up, .int .i64 s.mo] 23)) w.heap.size 23 #[.string s.nm, .int .i64 s.ba, .int .i64 s.ro, .int .i64 s.ti, .int .i64 s.st, .int .i64 s.tr, .int .i64 s.li, .int .i64 s.up, .int .i64 s.mo] := Blk.new _ _ _
  clear hx
  go_enter Try.func4, Try.ntmps4
  go_wp2_with fail
  refine (awake_any _).mono ?_
  rintro e w1 ⟨rfl, hb1⟩
  have hB1 := hB0.trans (hb1.mono hB0.size)
  have hk1 := hk0.below hb1 hk0.lt
  clear hB0 hk0 hb1
  have a0 := hk1.cell 0; have a1 := hk1.cell 1; have a2 := hk1.cell 2; have a3 := hk1.cell 3; have a4 := hk1.cell 4; have a5 := hk1.cell 5; have a6 := hk1.cell 6; have a7 := hk1.cell 7; have a8 := hk1.cell 8; simp only [List.getElem?_toArray, List.getElem?_cons_zero, List.getElem?_cons_succ] at a0 a1 a2 a3 a4 a5 a6 a7 a8
  by_cases h1 : 60 < n
  · have h1' : (60 : Int) < (n : Int) := by omega
    go_wp2_with fail
    go_ret
    exact ⟨rfl, hB1⟩
  have h1' : ¬ (60 : Int) < (n : Int) := by omega
  by_cases h2 : 100 < s.nm.size
  · have h2' : (100 : Int) < (s.nm.size : Int) := by omega
    go_wp2_with fail
    go_ret
    exact ⟨rfl, hB1⟩
  have h2' : ¬ (100 : Int) < (s.nm.size : Int) := by omega
  have hm4 : n ≤ 4096 := by omega
  cases hf : fitB s xs
  · have E1 := Lib.hid (sum_not hf)
    have E2 := Lib.hid (mean_none (s := s) (xs := xs) (.inl hf))
    have F := Lib.hid hf
    clear hf
    go_wp2_with fail
    refine (moments_any s hn _ _ _ xs _ (HX.out.below hB1) hm).mono ?_
    rw [E1.out]
    rintro e w2 ⟨rfl, hb2⟩
    clear a0 a1 a2 a3 a4 a5 a6 a7 a8
    have hB2 := hB1.trans (hb2.mono hB1.size)
    have hk2 := hk1.below hb2 hk1.lt
    clear hB1 hk1 hb2
    have a0 := hk2.cell 0; have a1 := hk2.cell 1; have a2 := hk2.cell 2; have a3 := hk2.cell 3; have a4 := hk2.cell 4; have a5 := hk2.cell 5; have a6 := hk2.cell 6; have a7 := hk2.cell 7; have a8 := hk2.cell 8; simp only [List.getElem?_toArray, List.getElem?_cons_zero, List.getElem?_cons_succ] at a0 a1 a2 a3 a4 a5 a6 a7 a8
    go_wp2_with fail
    refine (mean_any s hn _ _ _ xs _ (HX.out.below hB2) hm).mono ?_
    rw [E2.out]
    rintro e w3 ⟨rfl, hb3⟩
    clear a0 a1 a2 a3 a4 a5 a6 a7 a8
    have hB3 := hB2.trans (hb3.mono hB2.size)
    have hk3 := hk2.below hb3 hk2.lt
    clear hB2 hk2 hb3
    have hB4 : Below w.heap.size w ((((w3.alloc (.cells #[.int .i64 0, .int .i64 1] 31)).alloc (.cells #[.int .i64 0, .int .i64 1] 31)).alloc (.cells #[.int .i64 0, .int .i64 1] 31)).alloc (.cells #[.int .i64 0, .int .i64 1] 31)) := (((hB3.alloc hB3.size _).alloc (by have := hB3.size; simp; omega) _).alloc (by have := hB3.size; simp; omega) _).alloc (by have := hB3.size; simp; omega) _
    have hk4 : Blk ((((w3.alloc (.cells #[.int .i64 0, .int .i64 1] 31)).alloc (.cells #[.int .i64 0, .int .i64 1] 31)).alloc (.cells #[.int .i64 0, .int .i64 1] 31)).alloc (.cells #[.int .i64 0, .int .i64 1] 31)) w.heap.size 23 #[.string s.nm, .int .i64 s.ba, .int .i64 s.ro, .int .i64 s.ti, .int .i64 s.st, .int .i64 s.tr, .int .i64 s.li, .int .i64 s.up, .int .i64 s.mo] := (((hk3.alloc _).alloc _).alloc _).alloc _
    have h14 : Blk ((((w3.alloc (.cells #[.int .i64 0, .int .i64 1] 31)).alloc (.cells #[.int .i64 0, .int .i64 1] 31)).alloc (.cells #[.int .i64 0, .int .i64 1] 31)).alloc (.cells #[.int .i64 0, .int .i64 1] 31)) w3.heap.size 31 #[.int .i64 0, .int .i64 1] := (((Blk.new _ _ _).alloc _).alloc _).alloc _
    have h24 : Blk ((((w3.alloc (.cells #[.int .i64 0, .int .i64 1] 31)).alloc (.cells #[.int .i64 0, .int .i64 1] 31)).alloc (.cells #[.int .i64 0, .int .i64 1] 31)).alloc (.cells #[.int .i64 0, .int .i64 1] 31)) (w3.heap.size + 1) 31 #[.int .i64 0, .int .i64 1] := ((Blk.new_at _ _ _ _ (by simp)).alloc _).alloc _
    have h34 : Blk ((((w3.alloc (.cells #[.int .i64 0, .int .i64 1] 31)).alloc (.cells #[.int .i64 0, .int .i64 1] 31)).alloc (.cells #[.int .i64 0, .int .i64 1] 31)).alloc (.cells #[.int .i64 0, .int .i64 1] 31)) (w3.heap.size + 1 + 1) 31 #[.int .i64 0, .int .i64 1] := (Blk.new_at _ _ _ _ (by simp)).alloc _
    have h44 : Blk ((((w3.alloc (.cells #[.int .i64 0, .int .i64 1] 31)).alloc (.cells #[.int .i64 0, .int .i64 1] 31)).alloc (.cells #[.int .i64 0, .int .i64 1] 31)).alloc (.cells #[.int .i64 0, .int .i64 1] 31)) (w3.heap.size + 1 + 1 + 1) 31 #[.int .i64 0, .int .i64 1] := Blk.new_at _ _ _ _ (by simp)
    clear hB3 hk3
    have a0 := hk4.cell 0; have a1 := hk4.cell 1; have a2 := hk4.cell 2; have a3 := hk4.cell 3; have a4 := hk4.cell 4; have a5 := hk4.cell 5; have a6 := hk4.cell 6; have a7 := hk4.cell 7; have a8 := hk4.cell 8; simp only [List.getElem?_toArray, List.getElem?_cons_zero, List.getElem?_cons_succ] at a0 a1 a2 a3 a4 a5 a6 a7 a8
    go_wp2_with fail
    generalize (((w3.alloc (.cells #[.int .i64 0, .int .i64 1] 31)).alloc (.cells #[.int .i64 0, .int .i64 1] 31)).alloc (.cells #[.int .i64 0, .int .i64 1] 31)).alloc (.cells #[.int .i64 0, .int .i64 1] 31) = W at *
    refine (rfit_any s hn _ _ _ xs _ (HX.out.below hB4) hm).mono ?_
    rw [F.out]
    rintro e w5 ⟨rfl, hb5⟩
    clear a0 a1 a2 a3 a4 a5 a6 a7 a8
    have hB5 := hB4.trans (hb5.mono hB4.size)
    have hk5 := hk4.below hb5 hk4.lt
    have h15 := h14.below hb5 h14.lt; have h25 := h24.below hb5 h24.lt; have h35 := h34.below hb5 h34.lt; have h45 := h44.below hb5 h44.lt
    clear hB4 hk4 h14 h24 h34 h44 hb5
    have x0 := h15.cell 0; have x1 := h15.cell 1; have y0 := h25.cell 0; have y1 := h25.cell 1; have z0 := h35.cell 0; have z1 := h35.cell 1; have t0 := h45.cell 0; have t1 := h45.cell 1; simp only [List.getElem?_toArray, List.getElem?_cons_zero, List.getElem?_cons_succ] at x0 x1 y0 y1 z0 z1 t0 t1
    go_wp2_with fail
    go_ret
    exact ⟨ret_bool (by simp), hB5⟩
  have E1 := Lib.hid (sum_fit hf)
  have F := Lib.hid hf
  have EM := Lib.hid (mom_sum s xs)
  have bd := mom_bd hf
  obtain ⟨g0, g1, g2, g3, g4, g5, g6, g7⟩ := bd
  by_cases hn0 : n = 0
  · have hxs : xs = [] := List.eq_nil_of_length_eq_zero (by omega)
    have E2 := Lib.hid (mean_none (s := s) (xs := xs) (.inr hxs))
    have hn0' : ((n : Int) == 0) = true := by simp [hn0]
    clear hf hxs hn0
    generalize sumBy (fL s) xs = L at *
    generalize sumBy (fC s) xs = C at *
    generalize sumBy fU xs = U at *
    generalize sumBy Load.we xs = M at *
    go_wp2_with fail
    refine (moments_any s hn _ _ _ xs _ (HX.out.below hB1) hm).mono ?_
    rw [E1.out]
    rintro e w2 ⟨rfl, hb2⟩
    clear a0 a1 a2 a3 a4 a5 a6 a7 a8
    have hB2 := hB1.trans (hb2.mono hB1.size)
    have hk2 := hk1.below hb2 hk1.lt
    clear hB1 hk1 hb2
    have a0 := hk2.cell 0; have a1 := hk2.cell 1; have a2 := hk2.cell 2; have a3 := hk2.cell 3; have a4 := hk2.cell 4; have a5 := hk2.cell 5; have a6 := hk2.cell 6; have a7 := hk2.cell 7; have a8 := hk2.cell 8; simp only [List.getElem?_toArray, List.getElem?_cons_zero, List.getElem?_cons_succ] at a0 a1 a2 a3 a4 a5 a6 a7 a8
    go_wp2_with fail
    refine (mean_any s hn _ _ _ xs _ (HX.out.below hB2) hm).mono ?_
    rw [E2.out]
    rintro e w3 ⟨rfl, hb3⟩
    clear a0 a1 a2 a3 a4 a5 a6 a7 a8
    have hB3 := hB2.trans (hb3.mono hB2.size)
    have hk3 := hk2.below hb3 hk2.lt
    clear hB2 hk2 hb3
    have hB4 : Below w.heap.size w ((((w3.alloc (.cells #[.int .i64 0, .int .i64 1] 31)).alloc (.cells #[.int .i64 0, .int .i64 1] 31)).alloc (.cells #[.int .i64 0, .int .i64 1] 31)).alloc (.cells #[.int .i64 0, .int .i64 1] 31)) := (((hB3.alloc hB3.size _).alloc (by have := hB3.size; simp; omega) _).alloc (by have := hB3.size; simp; omega) _).alloc (by have := hB3.size; simp; omega) _
    have hk4 : Blk ((((w3.alloc (.cells #[.int .i64 0, .int .i64 1] 31)).alloc (.cells #[.int .i64 0, .int .i64 1] 31)).alloc (.cells #[.int .i64 0, .int .i64 1] 31)).alloc (.cells #[.int .i64 0, .int .i64 1] 31)) w.heap.size 23 #[.string s.nm, .int .i64 s.ba, .int .i64 s.ro, .int .i64 s.ti, .int .i64 s.st, .int .i64 s.tr, .int .i64 s.li, .int .i64 s.up, .int .i64 s.mo] := (((hk3.alloc _).alloc _).alloc _).alloc _
    have h14 : Blk ((((w3.alloc (.cells #[.int .i64 0, .int .i64 1] 31)).alloc (.cells #[.int .i64 0, .int .i64 1] 31)).alloc (.cells #[.int .i64 0, .int .i64 1] 31)).alloc (.cells #[.int .i64 0, .int .i64 1] 31)) w3.heap.size 31 #[.int .i64 0, .int .i64 1] := (((Blk.new _ _ _).alloc _).alloc _).alloc _
    have h24 : Blk ((((w3.alloc (.cells #[.int .i64 0, .int .i64 1] 31)).alloc (.cells #[.int .i64 0, .int .i64 1] 31)).alloc (.cells #[.int .i64 0, .int .i64 1] 31)).alloc (.cells #[.int .i64 0, .int .i64 1] 31)) (w3.heap.size + 1) 31 #[.int .i64 0, .int .i64 1] := ((Blk.new_at _ _ _ _ (by simp)).alloc _).alloc _
    have h34 : Blk ((((w3.alloc (.cells #[.int .i64 0, .int .i64 1] 31)).alloc (.cells #[.int .i64 0, .int .i64 1] 31)).alloc (.cells #[.int .i64 0, .int .i64 1] 31)).alloc (.cells #[.int .i64 0, .int .i64 1] 31)) (w3.heap.size + 1 + 1) 31 #[.int .i64 0, .int .i64 1] := (Blk.new_at _ _ _ _ (by simp)).alloc _
    have h44 : Blk ((((w3.alloc (.cells #[.int .i64 0, .int .i64 1] 31)).alloc (.cells #[.int .i64 0, .int .i64 1] 31)).alloc (.cells #[.int .i64 0, .int .i64 1] 31)).alloc (.cells #[.int .i64 0, .int .i64 1] 31)) (w3.heap.size + 1 + 1 + 1) 31 #[.int .i64 0, .int .i64 1] := Blk.new_at _ _ _ _ (by simp)
    clear hB3 hk3
    have a0 := hk4.cell 0; have a1 := hk4.cell 1; have a2 := hk4.cell 2; have a3 := hk4.cell 3; have a4 := hk4.cell 4; have a5 := hk4.cell 5; have a6 := hk4.cell 6; have a7 := hk4.cell 7; have a8 := hk4.cell 8; simp only [List.getElem?_toArray, List.getElem?_cons_zero, List.getElem?_cons_succ] at a0 a1 a2 a3 a4 a5 a6 a7 a8
    go_wp2_with fail
    generalize (((w3.alloc (.cells #[.int .i64 0, .int .i64 1] 31)).alloc (.cells #[.int .i64 0, .int .i64 1] 31)).alloc (.cells #[.int .i64 0, .int .i64 1] 31)).alloc (.cells #[.int .i64 0, .int .i64 1] 31) = W at *
    refine (rfit_any s hn _ _ _ xs _ (HX.out.below hB4) hm).mono ?_
    rw [F.out]
    rintro e w5 ⟨rfl, hb5⟩
    clear a0 a1 a2 a3 a4 a5 a6 a7 a8
    have hB5 := hB4.trans (hb5.mono hB4.size)
    have hk5 := hk4.below hb5 hk4.lt
    have h15 := h14.below hb5 h14.lt; have h25 := h24.below hb5 h24.lt; have h35 := h34.below hb5 h34.lt; have h45 := h44.below hb5 h44.lt
    clear hB4 hk4 h14 h24 h34 h44 hb5
    have x0 := h15.cell 0; have x1 := h15.cell 1; have y0 := h25.cell 0; have y1 := h25.cell 1; have z0 := h35.cell 0; have z1 := h35.cell 1; have t0 := h45.cell 0; have t1 := h45.cell 1; simp only [List.getElem?_toArray, List.getElem?_cons_zero, List.getElem?_cons_succ] at x0 x1 y0 y1 z0 z1 t0 t1
    clear x0 x1 y0 y1 z0 z1 t0 t1
    have a0 := hk5.cell 0; have a1 := hk5.cell 1; have a2 := hk5.cell 2; have a3 := hk5.cell 3; have a4 := hk5.cell 4; have a5 := hk5.cell 5; have a6 := hk5.cell 6; have a7 := hk5.cell 7; have a8 := hk5.cell 8; simp only [List.getElem?_toArray, List.getElem?_cons_zero, List.getElem?_cons_succ] at a0 a1 a2 a3 a4 a5 a6 a7 a8
    go_wp2_with fail
    refine (rmoments_any s _ _ _ xs _ (HX.out.below hB5) hm4 F.out).mono ?_
    rintro e w6 ⟨g, rfl, hg, hs1, hb6⟩
    rw [EM.out] at hs1
    clear a0 a1 a2 a3 a4 a5 a6 a7 a8
    have hB6 := hB5.trans (hb6.mono hB5.size)
    have h16 := h15.below hb6 h15.lt; have h26 := h25.below hb6 h25.lt; have h36 := h35.below hb6 h35.lt; have h46 := h45.below hb6 h45.lt
    clear hB5 hk5 h15 h25 h35 h45 hb6
    have x0 := h16.cell 0; have x1 := h16.cell 1; have y0 := h26.cell 0; have y1 := h26.cell 1; have z0 := h36.cell 0; have z1 := h36.cell 1; have t0 := h46.cell 0; have t1 := h46.cell 1; simp only [List.getElem?_toArray, List.getElem?_cons_zero, List.getElem?_cons_succ] at x0 x1 y0 y1 z0 z1 t0 t1
    have m0 := hs1.cell 0; have m1 := hs1.cell 1; have m2 := hs1.cell 2; have m3 := hs1.cell 3
    simp only [List.getElem?_toArray, List.getElem?_cons_zero, List.getElem?_cons_succ] at m0 m1 m2 m3
    go_wp2_with fail
    go_ret
    exact ⟨ret_bool (by simp), hB6⟩
  · have E2 := Lib.hid (mean_fit hf (by omega))
    have hn0' : ((n : Int) == 0) = false := by simp [hn0]
    clear hf hn0
    generalize sumBy (fL s) xs = L at *
    generalize sumBy (fC s) xs = C at *
    generalize sumBy fU xs = U at *
    generalize sumBy Load.we xs = M at *
    have qL := fun w => rsize_any L ⟨by omega, by omega⟩ w
    have qC := fun w => rsize_any C ⟨by omega, by omega⟩ w
    generalize absF L = A1 at *
    generalize absF C = A2 at *
    have QL := Lib.hid qL
    have QC := Lib.hid qC
    clear qL qC
    go_wp2_with fail
    refine (moments_any s hn _ _ _ xs _ (HX.out.below hB1) hm).mono ?_
    rw [E1.out]
    rintro e w2 ⟨rfl, hb2⟩
    clear a0 a1 a2 a3 a4 a5 a6 a7 a8
    have hB2 := hB1.trans (hb2.mono hB1.size)
    have hk2 := hk1.below hb2 hk1.lt
    clear hB1 hk1 hb2
    have a0 := hk2.cell 0; have a1 := hk2.cell 1; have a2 := hk2.cell 2; have a3 := hk2.cell 3; have a4 := hk2.cell 4; have a5 := hk2.cell 5; have a6 := hk2.cell 6; have a7 := hk2.cell 7; have a8 := hk2.cell 8; simp only [List.getElem?_toArray, List.getElem?_cons_zero, List.getElem?_cons_succ] at a0 a1 a2 a3 a4 a5 a6 a7 a8
    go_wp2_with fail
    refine (mean_any s hn _ _ _ xs _ (HX.out.below hB2) hm).mono ?_
    rw [E2.out]
    rintro e w3 ⟨rfl, hb3⟩
    clear a0 a1 a2 a3 a4 a5 a6 a7 a8
    have hB3 := hB2.trans (hb3.mono hB2.size)
    have hk3 := hk2.below hb3 hk2.lt
    clear hB2 hk2 hb3
    have hB4 : Below w.heap.size w ((((w3.alloc (.cells #[.int .i64 A1, .int .i64 M] 31)).alloc (.cells #[.int .i64 A2, .int .i64 M] 31)).alloc (.cells #[.int .i64 U, .int .i64 M] 31)).alloc (.cells #[.int .i64 0, .int .i64 1] 31)) := (((hB3.alloc hB3.size _).alloc (by have := hB3.size; simp; omega) _).alloc (by have := hB3.size; simp; omega) _).alloc (by have := hB3.size; simp; omega) _
    have hk4 : Blk ((((w3.alloc (.cells #[.int .i64 A1, .int .i64 M] 31)).alloc (.cells #[.int .i64 A2, .int .i64 M] 31)).alloc (.cells #[.int .i64 U, .int .i64 M] 31)).alloc (.cells #[.int .i64 0, .int .i64 1] 31)) w.heap.size 23 #[.string s.nm, .int .i64 s.ba, .int .i64 s.ro, .int .i64 s.ti, .int .i64 s.st, .int .i64 s.tr, .int .i64 s.li, .int .i64 s.up, .int .i64 s.mo] := (((hk3.alloc _).alloc _).alloc _).alloc _
    have h14 : Blk ((((w3.alloc (.cells #[.int .i64 A1, .int .i64 M] 31)).alloc (.cells #[.int .i64 A2, .int .i64 M] 31)).alloc (.cells #[.int .i64 U, .int .i64 M] 31)).alloc (.cells #[.int .i64 0, .int .i64 1] 31)) w3.heap.size 31 #[.int .i64 A1, .int .i64 M] := (((Blk.new _ _ _).alloc _).alloc _).alloc _
    have h24 : Blk ((((w3.alloc (.cells #[.int .i64 A1, .int .i64 M] 31)).alloc (.cells #[.int .i64 A2, .int .i64 M] 31)).alloc (.cells #[.int .i64 U, .int .i64 M] 31)).alloc (.cells #[.int .i64 0, .int .i64 1] 31)) (w3.heap.size + 1) 31 #[.int .i64 A2, .int .i64 M] := ((Blk.new_at _ _ _ _ (by simp)).alloc _).alloc _
    have h34 : Blk ((((w3.alloc (.cells #[.int .i64 A1, .int .i64 M] 31)).alloc (.cells #[.int .i64 A2, .int .i64 M] 31)).alloc (.cells #[.int .i64 U, .int .i64 M] 31)).alloc (.cells #[.int .i64 0, .int .i64 1] 31)) (w3.heap.size + 1 + 1) 31 #[.int .i64 U, .int .i64 M] := (Blk.new_at _ _ _ _ (by simp)).alloc _
    have h44 : Blk ((((w3.alloc (.cells #[.int .i64 A1, .int .i64 M] 31)).alloc (.cells #[.int .i64 A2, .int .i64 M] 31)).alloc (.cells #[.int .i64 U, .int .i64 M] 31)).alloc (.cells #[.int .i64 0, .int .i64 1] 31)) (w3.heap.size + 1 + 1 + 1) 31 #[.int .i64 0, .int .i64 1] := Blk.new_at _ _ _ _ (by simp)
    clear hB3 hk3
    have a0 := hk4.cell 0; have a1 := hk4.cell 1; have a2 := hk4.cell 2; have a3 := hk4.cell 3; have a4 := hk4.cell 4; have a5 := hk4.cell 5; have a6 := hk4.cell 6; have a7 := hk4.cell 7; have a8 := hk4.cell 8; simp only [List.getElem?_toArray, List.getElem?_cons_zero, List.getElem?_cons_succ] at a0 a1 a2 a3 a4 a5 a6 a7 a8
    go_wp2_with fail
    generalize (((w3.alloc (.cells #[.int .i64 A1, .int .i64 M] 31)).alloc (.cells #[.int .i64 A2, .int .i64 M] 31)).alloc (.cells #[.int .i64 U, .int .i64 M] 31)).alloc (.cells #[.int .i64 0, .int .i64 1] 31) = W at *
    refine (rfit_any s hn _ _ _ xs _ (HX.out.below hB4) hm).mono ?_
    rw [F.out]
    rintro e w5 ⟨rfl, hb5⟩
    clear a0 a1 a2 a3 a4 a5 a6 a7 a8
    have hB5 := hB4.trans (hb5.mono hB4.size)
    have hk5 := hk4.below hb5 hk4.lt
    have h15 := h14.below hb5 h14.lt; have h25 := h24.below hb5 h24.lt; have h35 := h34.below hb5 h34.lt; have h45 := h44.below hb5 h44.lt
    clear hB4 hk4 h14 h24 h34 h44 hb5
    have x0 := h15.cell 0; have x1 := h15.cell 1; have y0 := h25.cell 0; have y1 := h25.cell 1; have z0 := h35.cell 0; have z1 := h35.cell 1; have t0 := h45.cell 0; have t1 := h45.cell 1; simp only [List.getElem?_toArray, List.getElem?_cons_zero, List.getElem?_cons_succ] at x0 x1 y0 y1 z0 z1 t0 t1
    clear x0 x1 y0 y1 z0 z1 t0 t1
    have a0 := hk5.cell 0; have a1 := hk5.cell 1; have a2 := hk5.cell 2; have a3 := hk5.cell 3; have a4 := hk5.cell 4; have a5 := hk5.cell 5; have a6 := hk5.cell 6; have a7 := hk5.cell 7; have a8 := hk5.cell 8; simp only [List.getElem?_toArray, List.getElem?_cons_zero, List.getElem?_cons_succ] at a0 a1 a2 a3 a4 a5 a6 a7 a8
    go_wp2_with fail
    refine (rmoments_any s _ _ _ xs _ (HX.out.below hB5) hm4 F.out).mono ?_
    rintro e w6 ⟨g, rfl, hg, hs1, hb6⟩
    rw [EM.out] at hs1
    clear a0 a1 a2 a3 a4 a5 a6 a7 a8
    have hB6 := hB5.trans (hb6.mono hB5.size)
    have h16 := h15.below hb6 h15.lt; have h26 := h25.below hb6 h25.lt; have h36 := h35.below hb6 h35.lt; have h46 := h45.below hb6 h45.lt
    clear hB5 hk5 h15 h25 h35 h45 hb6
    have x0 := h16.cell 0; have x1 := h16.cell 1; have y0 := h26.cell 0; have y1 := h26.cell 1; have z0 := h36.cell 0; have z1 := h36.cell 1; have t0 := h46.cell 0; have t1 := h46.cell 1; simp only [List.getElem?_toArray, List.getElem?_cons_zero, List.getElem?_cons_succ] at x0 x1 y0 y1 z0 z1 t0 t1
    have m0 := hs1.cell 0; have m1 := hs1.cell 1; have m2 := hs1.cell 2; have m3 := hs1.cell 3
    simp only [List.getElem?_toArray, List.getElem?_cons_zero, List.getElem?_cons_succ] at m0 m1 m2 m3
    go_wp2_with fail
    have px0 := wof_cell x0; have px1 := wof_cell x1; have py0 := wof_cell y0; have py1 := wof_cell y1; have pz0 := wof_cell z0; have pz1 := wof_cell z1
    refine wp_region_quiet_below (by kernel_rfl) (by kernel_rfl) ?_
    repeat (go_big_quiet_step ((first | (go_at_call 14; with_reducible exact quiet_same (QL.out _)) | (go_at_call 14; exact quiet_same (QC.out _)))))
    refine wpQuiet_nil ?_
    intro w7 hb7
    go_wp2_with fail
    go_ret
    exact ⟨ret_bool (by simp), hB6.trans (hb7.mono hB6.size)⟩
end Go.Proofs.Yteciegpfiipokaa
