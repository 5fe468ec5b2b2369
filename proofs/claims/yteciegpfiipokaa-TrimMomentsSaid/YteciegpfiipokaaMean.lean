/- trim.Mean: the moments over the weight. No condition. -/
import Derived.Test.YteciegpfiipokaaSafe
import Derived.Test.YteciegpfiipokaaTail
import Derived.Handy
import Derived.RegionTactic
namespace Go.Proofs.Yteciegpfiipokaa
open Go.RowKit Go.Proofs.Yteciegpfiipokaa.kit
set_option linter.unusedVariables false

theorem over_any (n M : Int) (g : Nat) (w : World) (hc : w.cell? ⟨g, 3, none⟩ = some (.int .i64 M)) (hg : g < w.heap.size) : Calls Try.prog 22 #[.int .i64 n, .pointer (some ⟨g, 0, none⟩)] w
    fun e w' => e = .returned (.agg #[.int .i64 n, .int .i64 M]) ∧ w.alloc (.cells #[.int .i64 n, .int .i64 M] 31) = w' := by
  go_enter Try.func22, Try.ntmps22
  go_wp2
  go_returns
  exact ⟨rfl, rfl⟩

def meanV (s : Ship) (xs : List Load) : (Int × Int) × (Int × Int) × (Int × Int) :=
  if fitB s xs = true ∧ sumBy Load.we xs ≠ 0 then ((absF (sumBy (fL s) xs), sumBy Load.we xs), (absF (sumBy (fC s) xs), sumBy Load.we xs), (sumBy fU xs, sumBy Load.we xs)) else ((0, 1), (0, 1), (0, 1))

set_option maxRecDepth 100000 in
set_option maxHeartbeats 1600000 in
theorem mean_any (s : Ship) (hn : s.nm.size ≤ maxLen) (A : Option Addr) (n c : Nat) (xs : List Load) (w : World) (hx : SliceOf w 7 Load.cells A n xs) (hm : n ≤ maxLen) :
    Calls Try.prog 12 #[.agg #[.string s.nm, .int .i64 s.ba, .int .i64 s.ro, .int .i64 s.ti, .int .i64 s.st, .int .i64 s.tr, .int .i64 s.li, .int .i64 s.up, .int .i64 s.mo], .slice A n c] w
      fun e w' => e = .returned (.tuple #[.agg #[.int .i64 (meanV s xs).1.1, .int .i64 (meanV s xs).1.2], .agg #[.int .i64 (meanV s xs).2.1.1, .int .i64 (meanV s xs).2.1.2], .agg #[.int .i64 (meanV s xs).2.2.1, .int .i64 (meanV s xs).2.2.2]]) ∧ Below w.heap.size w w' := by
  have HX := Lib.hid hx
  clear hx
  have hB0 : Below w.heap.size w ((((w.alloc (.cells #[.string s.nm, .int .i64 s.ba, .int .i64 s.ro, .int .i64 s.ti, .int .i64 s.st, .int .i64 s.tr, .int .i64 s.li, .int .i64 s.up, .int .i64 s.mo] 23)).alloc (.cells #[.int .i64 0, .int .i64 0] 31)).alloc (.cells #[.int .i64 0, .int .i64 0] 31)).alloc (.cells #[.int .i64 0, .int .i64 0] 31)) := ((((Below.refl _ _).alloc (Nat.le_refl _) _).alloc (by simp) _).alloc (by simp; omega) _).alloc (by simp; omega) _
  have hr0 : Blk ((((w.alloc (.cells #[.string s.nm, .int .i64 s.ba, .int .i64 s.ro, .int .i64 s.ti, .int .i64 s.st, .int .i64 s.tr, .int .i64 s.li, .int .i64 s.up, .int .i64 s.mo] 23)).alloc (.cells #[.int .i64 0, .int .i64 0] 31)).alloc (.cells #[.int .i64 0, .int .i64 0] 31)).alloc (.cells #[.int .i64 0, .int .i64 0] 31)) (w.heap.size + 1) 31 #[.int .i64 0, .int .i64 0] := ((Blk.new_at _ _ _ _ (by simp)).alloc _).alloc _
  have hs0 : Blk ((((w.alloc (.cells #[.string s.nm, .int .i64 s.ba, .int .i64 s.ro, .int .i64 s.ti, .int .i64 s.st, .int .i64 s.tr, .int .i64 s.li, .int .i64 s.up, .int .i64 s.mo] 23)).alloc (.cells #[.int .i64 0, .int .i64 0] 31)).alloc (.cells #[.int .i64 0, .int .i64 0] 31)).alloc (.cells #[.int .i64 0, .int .i64 0] 31)) (w.heap.size + 1 + 1) 31 #[.int .i64 0, .int .i64 0] := (Blk.new_at _ _ _ _ (by simp)).alloc _
  have ht0 : Blk ((((w.alloc (.cells #[.string s.nm, .int .i64 s.ba, .int .i64 s.ro, .int .i64 s.ti, .int .i64 s.st, .int .i64 s.tr, .int .i64 s.li, .int .i64 s.up, .int .i64 s.mo] 23)).alloc (.cells #[.int .i64 0, .int .i64 0] 31)).alloc (.cells #[.int .i64 0, .int .i64 0] 31)).alloc (.cells #[.int .i64 0, .int .i64 0] 31)) (w.heap.size + 1 + 1 + 1) 31 #[.int .i64 0, .int .i64 0] := Blk.new_at _ _ _ _ (by simp)
  by_cases hf : fitB s xs = true ∧ sumBy Load.we xs ≠ 0
  · have e0 : meanV s xs = ((absF (sumBy (fL s) xs), sumBy Load.we xs), (absF (sumBy (fC s) xs), sumBy Load.we xs), (sumBy fU xs, sumBy Load.we xs)) := if_pos hf
    rw [e0]
    obtain ⟨hf, hw0⟩ := hf
    have bd := mom_bd hf
    have E1 := Lib.hid (sum_fit hf)
    have hlen := (fit_may hf).2.1
    clear e0 hf
    generalize sumBy (fL s) xs = L at *
    generalize sumBy (fC s) xs = C at *
    generalize sumBy fU xs = U at *
    generalize sumBy Load.we xs = M at *
    obtain ⟨g0, g1, g2, g3, g4, g5, g6, g7⟩ := bd
    have hw0' : (M == 0) = false := by simp [hw0]
    have qL := fun w => size_any L ⟨by omega, by omega⟩ w
    have qC := fun w => size_any C ⟨by omega, by omega⟩ w
    generalize absF L = A1 at *
    generalize absF C = A2 at *
    have QL := Lib.hid qL
    have QC := Lib.hid qC
    clear g0 g1 g2 g3 g4 g5 g6 g7 hlen qL qC hw0
    go_enter Try.func12, Try.ntmps12
    go_wp2_with fail
    refine (sum_any s hn A n c xs _ (HX.out.below hB0) hm).mono ?_
    rw [E1.out]
    rintro e w1 ⟨rfl, hb1⟩
    have hB1 := hB0.trans (hb1.mono hB0.size)
    have hr1 := hr0.below hb1 hr0.lt
    have hs1 := hs0.below hb1 hs0.lt
    have ht1 := ht0.below hb1 ht0.lt
    clear hB0 hr0 hs0 ht0 hb1
    have hm2 : Blk (w1.alloc (.cells #[.int .i64 L, .int .i64 C, .int .i64 U, .int .i64 M] 50)) w1.heap.size 50 #[.int .i64 L, .int .i64 C, .int .i64 U, .int .i64 M] := Blk.new _ _ _
    have hB2 : Below w.heap.size w (w1.alloc (.cells #[.int .i64 L, .int .i64 C, .int .i64 U, .int .i64 M] 50)) := hB1.alloc hB1.size _
    have hr2 := hr1.alloc (.cells #[.int .i64 L, .int .i64 C, .int .i64 U, .int .i64 M] 50)
    have hs2 := hs1.alloc (.cells #[.int .i64 L, .int .i64 C, .int .i64 U, .int .i64 M] 50)
    have ht2 := ht1.alloc (.cells #[.int .i64 L, .int .i64 C, .int .i64 U, .int .i64 M] 50)
    clear hB1 hr1 hs1 ht1
    go_wp2_with fail
    generalize w1.alloc (.cells #[.int .i64 L, .int .i64 C, .int .i64 U, .int .i64 M] 50) = W at *
    generalize w1.heap.size = g at *
    have m0 := hm2.cell 0; have m1 := hm2.cell 1; have m2 := hm2.cell 2; have m3 := hm2.cell 3
    simp only [List.getElem?_toArray, List.getElem?_cons_zero, List.getElem?_cons_succ] at m0 m1 m2 m3
    have p0 := wof_cell m0; have p1 := wof_cell m1; have p2 := wof_cell m2
    have HV : Hid (∀ (k : Int) (x : BW W), Calls Try.prog 22 #[.int .i64 k, .pointer (some ⟨g, 0, none⟩)] (wof x) fun e w' => e = .returned (.agg #[.int .i64 k, .int .i64 M]) ∧ Below (wof x).heap.size (wof x) w') := fun k x =>
      (over_any k M g (wof x) (wof_cell m3 x) (Nat.lt_of_lt_of_le hm2.lt (wof_below x).size)).mono fun e w' ⟨h1, h2⟩ => ⟨h1, by subst h2; exact (Below.refl _ _).alloc (Nat.le_refl _) _⟩
    refine wp_region_quiet_below_tail 14 (by kernel_rfl) (by kernel_rfl) ?_
    simp only [List.take_succ_cons, List.take_zero, List.drop_succ_cons, List.drop_zero]
    repeat (go_big_quiet_step ((first | (go_at_call 23; with_reducible exact quiet_same (QL.out _)) | (go_at_call 23; exact quiet_same (QC.out _)) | (go_at_call 22; exact quiet_below (HV.out _ _)))))
    refine wpQuiet_nil ?_
    intro w3 hb3
    have hB3 := hB2.trans (hb3.mono hB2.size)
    have hr3 := hr2.below hb3 hr2.lt
    have hs3 := hs2.below hb3 hs2.lt
    have ht3 := ht2.below hb3 ht2.lt
    clear hB2 hr2 hs2 ht2 hm2 p0 p1 p2 m0 m1 m2 m3 hb3
    have r0 := hr3.cell 0; have r1 := hr3.cell 1; have s0 := hs3.cell 0; have s1 := hs3.cell 1; have t0 := ht3.cell 0; have t1 := ht3.cell 1
    simp only [List.getElem?_toArray, List.getElem?_cons_zero, List.getElem?_cons_succ] at r0 r1 s0 s1 t0 t1
    have r0' := hr3.frozen 0; have r1' := hr3.frozen 1; have s0' := hs3.frozen 0; have s1' := hs3.frozen 1; have t0' := ht3.frozen 0; have t1' := ht3.frozen 1
    go_wp2_with fail
    have q1 := (((((set2 hr3 (.int .i64 A1) (.int .i64 M)).far (p := ⟨w.heap.size + 1 + 1, 0, none⟩) (by dsimp only; omega) (.int .i64 A2)).far (p := ⟨w.heap.size + 1 + 1, 1, none⟩) (by dsimp only; omega) (.int .i64 M)).far (p := ⟨w.heap.size + 1 + 1 + 1, 0, none⟩) (by dsimp only; omega) (.int .i64 U)).far (p := ⟨w.heap.size + 1 + 1 + 1, 1, none⟩) (by dsimp only; omega) (.int .i64 M))
    have q2 := ((set2 ((hs3.far (p := ⟨w.heap.size + 1, 0, none⟩) (by dsimp only; omega) (.int .i64 A1)).far (p := ⟨w.heap.size + 1, 1, none⟩) (by dsimp only; omega) (.int .i64 M)) (.int .i64 A2) (.int .i64 M)).far (p := ⟨w.heap.size + 1 + 1 + 1, 0, none⟩) (by dsimp only; omega) (.int .i64 U)).far (p := ⟨w.heap.size + 1 + 1 + 1, 1, none⟩) (by dsimp only; omega) (.int .i64 M)
    have q3 := set2 ((((ht3.far (p := ⟨w.heap.size + 1, 0, none⟩) (by dsimp only; omega) (.int .i64 A1)).far (p := ⟨w.heap.size + 1, 1, none⟩) (by dsimp only; omega) (.int .i64 M)).far (p := ⟨w.heap.size + 1 + 1, 0, none⟩) (by dsimp only; omega) (.int .i64 A2)).far (p := ⟨w.heap.size + 1 + 1, 1, none⟩) (by dsimp only; omega) (.int .i64 M)) (.int .i64 U) (.int .i64 M)
    have x0 := q1.cell 0; have x1 := q1.cell 1; have y0 := q2.cell 0; have y1 := q2.cell 1; have z0 := q3.cell 0; have z1 := q3.cell 1
    simp only [List.getElem?_toArray, List.getElem?_cons_zero, List.getElem?_cons_succ] at x0 x1 y0 y1 z0 z1
    refine bodyPost_ret (v := .tuple #[.agg #[.int .i64 A1, .int .i64 M], .agg #[.int .i64 A2, .int .i64 M], .agg #[.int .i64 U, .int .i64 M]]) (by simp [results, Try.results12, go_sem, x0, x1, y0, y1, z0, z1]) rfl ⟨rfl, ?_⟩
    exact ((((((hB3.setCell (by dsimp only; omega) _).setCell (by dsimp only; omega) _).setCell (by dsimp only; omega) _).setCell (by dsimp only; omega) _).setCell (by dsimp only; omega) _).setCell (by dsimp only; omega) _)
  · have e0 : meanV s xs = ((0, 1), (0, 1), (0, 1)) := if_neg hf
    rw [e0]
    have hcase : (∃ L C U M, sumV s xs = ((L, C, U, M), false)) ∨ (∃ L C U, sumV s xs = ((L, C, U, 0), true)) := by
      cases h : fitB s xs
      · exact .inl ⟨_, _, _, _, sum_not h⟩
      · refine .inr ⟨sumBy (fL s) xs, sumBy (fC s) xs, sumBy fU xs, ?_⟩
        rw [sum_fit h]
        have : sumBy Load.we xs = 0 := Decidable.byContradiction fun h0 => hf ⟨h, h0⟩
        rw [this]
    clear e0 hf
    obtain ⟨L, C, U, M, b, e1, hb⟩ : ∃ L C U M b, sumV s xs = ((L, C, U, M), b) ∧ (b = false ∨ (b = true ∧ M = 0)) := by
      rcases hcase with ⟨L, C, U, M, h⟩ | ⟨L, C, U, h⟩
      · exact ⟨L, C, U, M, _, h, .inl rfl⟩
      · exact ⟨L, C, U, 0, _, h, .inr ⟨rfl, rfl⟩⟩
    have E1 := Lib.hid e1
    clear hcase e1
    have hB2 : ∀ w1, Below w.heap.size w w1 → Below w.heap.size w ((w1.alloc (.cells #[.int .i64 L, .int .i64 C, .int .i64 U, .int .i64 M] 50)).alloc (.cells #[.int .i64 0, .int .i64 1] 31)) := fun w1 h => (h.alloc h.size _).alloc (by have := h.size; simp; omega) _
    have HB2 := Lib.hid hB2
    have hM : b = false ∨ (b = true ∧ (M == 0) = true) := by
      rcases hb with h | ⟨h1, h2⟩
      · exact .inl h
      · exact .inr ⟨h1, by simp [h2]⟩
    clear hb hB2
    rcases hM with rfl | ⟨rfl, hM⟩
    all_goals
      go_enter Try.func12, Try.ntmps12
      go_wp2_with fail
      refine (sum_any s hn A n c xs _ (HX.out.below hB0) hm).mono ?_
      rw [E1.out]
      rintro e w1 ⟨rfl, hb1⟩
      have hB1 := hB0.trans (hb1.mono hB0.size)
      have hr1 := hr0.below hb1 hr0.lt
      have hs1 := hs0.below hb1 hs0.lt
      have ht1 := ht0.below hb1 ht0.lt
      have hB2 := HB2.out _ hB1
      have hr2 := (hr1.alloc (.cells #[.int .i64 L, .int .i64 C, .int .i64 U, .int .i64 M] 50)).alloc (.cells #[.int .i64 0, .int .i64 1] 31)
      have hs2 := (hs1.alloc (.cells #[.int .i64 L, .int .i64 C, .int .i64 U, .int .i64 M] 50)).alloc (.cells #[.int .i64 0, .int .i64 1] 31)
      have ht2 := (ht1.alloc (.cells #[.int .i64 L, .int .i64 C, .int .i64 U, .int .i64 M] 50)).alloc (.cells #[.int .i64 0, .int .i64 1] 31)
      have hn2 : Blk ((w1.alloc (.cells #[.int .i64 L, .int .i64 C, .int .i64 U, .int .i64 M] 50)).alloc (.cells #[.int .i64 0, .int .i64 1] 31)) (w1.heap.size + 1) 31 #[.int .i64 0, .int .i64 1] := Blk.new_at _ _ _ _ (by simp)
      have hz1 := hb1.size
      simp only [World.size_alloc] at hz1
      clear hB1 hr1 hs1 ht1 hb1 hB0 hr0 hs0 ht0
      go_wp2_with fail
      generalize (w1.alloc (.cells #[.int .i64 L, .int .i64 C, .int .i64 U, .int .i64 M] 50)).alloc (.cells #[.int .i64 0, .int .i64 1] 31) = W at *
      have n0 := hn2.cell 0; have n1 := hn2.cell 1
      simp only [List.getElem?_toArray, List.getElem?_cons_zero, List.getElem?_cons_succ] at n0 n1
      have hB3 := hB2; have hr3 := hr2; have hs3 := hs2; have ht3 := ht2
      clear hB2 hr2 hs2 ht2 hn2
      have r0 := hr3.cell 0; have r1 := hr3.cell 1; have s0 := hs3.cell 0; have s1 := hs3.cell 1; have t0 := ht3.cell 0; have t1 := ht3.cell 1
      simp only [List.getElem?_toArray, List.getElem?_cons_zero, List.getElem?_cons_succ] at r0 r1 s0 s1 t0 t1
      have r0' := hr3.frozen 0; have r1' := hr3.frozen 1; have s0' := hs3.frozen 0; have s1' := hs3.frozen 1; have t0' := ht3.frozen 0; have t1' := ht3.frozen 1
      have hne0 : ¬ w1.heap.size = w.heap.size := by omega
      have hne1 : ¬ w1.heap.size = w.heap.size + 1 := by omega
      have hne2 : ¬ w1.heap.size = w.heap.size + 1 + 1 := by omega
      have hnf0 : ¬ w.heap.size = w1.heap.size := by omega
      have hnf1 : ¬ w.heap.size + 1 = w1.heap.size := by omega
      have hnf2 : ¬ w.heap.size + 1 + 1 = w1.heap.size := by omega
      go_region
      go_wp2_with fail
      have q1 := (((((set2 hr3 (.int .i64 0) (.int .i64 1)).far (p := ⟨w.heap.size + 1 + 1, 0, none⟩) (by dsimp only; omega) (.int .i64 0)).far (p := ⟨w.heap.size + 1 + 1, 1, none⟩) (by dsimp only; omega) (.int .i64 1)).far (p := ⟨w.heap.size + 1 + 1 + 1, 0, none⟩) (by dsimp only; omega) (.int .i64 0)).far (p := ⟨w.heap.size + 1 + 1 + 1, 1, none⟩) (by dsimp only; omega) (.int .i64 1))
      have q2 := ((set2 ((hs3.far (p := ⟨w.heap.size + 1, 0, none⟩) (by dsimp only; omega) (.int .i64 0)).far (p := ⟨w.heap.size + 1, 1, none⟩) (by dsimp only; omega) (.int .i64 1)) (.int .i64 0) (.int .i64 1)).far (p := ⟨w.heap.size + 1 + 1 + 1, 0, none⟩) (by dsimp only; omega) (.int .i64 0)).far (p := ⟨w.heap.size + 1 + 1 + 1, 1, none⟩) (by dsimp only; omega) (.int .i64 1)
      have q3 := set2 ((((ht3.far (p := ⟨w.heap.size + 1, 0, none⟩) (by dsimp only; omega) (.int .i64 0)).far (p := ⟨w.heap.size + 1, 1, none⟩) (by dsimp only; omega) (.int .i64 1)).far (p := ⟨w.heap.size + 1 + 1, 0, none⟩) (by dsimp only; omega) (.int .i64 0)).far (p := ⟨w.heap.size + 1 + 1, 1, none⟩) (by dsimp only; omega) (.int .i64 1)) (.int .i64 0) (.int .i64 1)
      have x0 := q1.cell 0; have x1 := q1.cell 1; have y0 := q2.cell 0; have y1 := q2.cell 1; have z0 := q3.cell 0; have z1 := q3.cell 1
      simp only [List.getElem?_toArray, List.getElem?_cons_zero, List.getElem?_cons_succ] at x0 x1 y0 y1 z0 z1
      refine bodyPost_ret (v := .tuple #[.agg #[.int .i64 0, .int .i64 1], .agg #[.int .i64 0, .int .i64 1], .agg #[.int .i64 0, .int .i64 1]]) (by simp [results, Try.results12, go_sem, x0, x1, y0, y1, z0, z1]) rfl ⟨rfl, ?_⟩
      exact ((((((hB3.setCell (by dsimp only; omega) _).setCell (by dsimp only; omega) _).setCell (by dsimp only; omega) _).setCell (by dsimp only; omega) _).setCell (by dsimp only; omega) _).setCell (by dsimp only; omega) _).drew
end Go.Proofs.Yteciegpfiipokaa
