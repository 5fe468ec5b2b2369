/- supercargoref14.Margins and Worst. No condition. -/
import Derived.Test.YteciegpfiipokaaSafe
namespace Go.Proofs.Yteciegpfiipokaa
open Go.RowKit Go.Proofs.Yteciegpfiipokaa.kit
set_option linter.unusedVariables false

theorem mom_eq (s : Ship) (xs : List Load) : momF s xs = (sumBy (fL s) xs, sumBy (fC s) xs, sumBy fU xs, sumBy Load.we xs) := mom_sum s xs

set_option maxRecDepth 100000 in
set_option maxHeartbeats 1600000 in
theorem rmargins_any (s : Ship) (A : Option Addr) (n c : Nat) (xs : List Load) (w : World) (hx : SliceOf w 7 Load.cells A n xs) (hm : n ≤ 4096) (hfit : fitB s xs = true) :
    Calls Try.prog 17 #[.agg #[.string s.nm, .int .i64 s.ba, .int .i64 s.ro, .int .i64 s.ti, .int .i64 s.st, .int .i64 s.tr, .int .i64 s.li, .int .i64 s.up, .int .i64 s.mo], .slice A n c] w
      fun e w' => ∃ g, e = .returned (.slice (some ⟨g, 0, none⟩) 4 4) ∧ w.heap.size ≤ g ∧ Blk w' g 2 #[.int .i64 (margF s xs).t, .int .i64 (margF s xs).l, .int .i64 (margF s xs).u, .int .i64 (margF s xs).m] ∧ Below w.heap.size w w' := by
  have HX := Lib.hid hx
  have HF := Lib.hid hfit
  obtain ⟨b0, b1, b2, b3, b4, b5, b6, b7⟩ := mom_bd hfit
  obtain ⟨hmay, hlen, _⟩ := fit_may hfit
  obtain ⟨s0, s1, s2, s3, s4, s5, s6, s7⟩ := bounds_of hmay
  have hxl : xs.length = n := hx.len
  have hmg : margF s xs = margOf s (sumBy (fL s) xs, sumBy (fC s) xs, sumBy fU xs, sumBy Load.we xs) := rfl
  have EM := Lib.hid (mom_eq s xs)
  have hB0 : Below w.heap.size w (w.alloc (.cells #[.string s.nm, .int .i64 s.ba, .int .i64 s.ro, .int .i64 s.ti, .int .i64 s.st, .int .i64 s.tr, .int .i64 s.li, .int .i64 s.up, .int .i64 s.mo] 23)) := (Below.refl _ _).alloc (Nat.le_refl _) _
  have hk0 : Blk (w.alloc (.cells #[.string s.nm, .int .i64 s.ba, .int .i64 s.ro, .int .i64 s.ti, .int .i64 s.st, .int .i64 s.tr, .int .i64 s.li, .int .i64 s.up, .int .i64 s.mo] 23)) w.heap.size 23 #[.string s.nm, .int .i64 s.ba, .int .i64 s.ro, .int .i64 s.ti, .int .i64 s.st, .int .i64 s.tr, .int .i64 s.li, .int .i64 s.up, .int .i64 s.mo] := Blk.new _ _ _
  rw [hmg]
  clear hmg hx hfit hmay
  generalize sumBy (fL s) xs = L at *
  generalize sumBy (fC s) xs = C at *
  generalize sumBy fU xs = U at *
  generalize sumBy Load.we xs = M at *
  have bL0 : -200000000000 ≤ L := by omega
  have bL1 : L ≤ 200000000000 := by omega
  have bC0 : -200000000000 ≤ C := by omega
  have bC1 : C ≤ 200000000000 := by omega
  have bU1 : U ≤ 200000000000 := by omega
  have bM0 : 0 ≤ M := by omega
  have bM1 : M ≤ 4294967296 := by omega
  clear b0 b1 b2 b3 b5 b6 b7 hlen
  obtain ⟨p0, p1⟩ := prod_bd s0 s1 bM0 bM1
  obtain ⟨p2, p3⟩ := prod_bd s2 s3 bM0 bM1
  obtain ⟨p4, p5⟩ := prod_bd s4 s5 bM0 bM1
  obtain ⟨A', hA⟩ : ∃ A', absF L = A' := ⟨_, rfl⟩
  obtain ⟨B', hB⟩ : ∃ B', absF C = B' := ⟨_, rfl⟩
  have aA := abs_bd (n := L)
  have aB := abs_bd (n := C)
  rw [hA] at aA
  rw [hB] at aB
  obtain ⟨aA0, aA1⟩ := aA
  obtain ⟨aB0, aB1⟩ := aB
  have qL := fun w => (rsize_any L ⟨by omega, by omega⟩ w).mono (fun e w' (h : e = _ ∧ w = w') => (⟨h.1, h.2.symm⟩ : e = _ ∧ w' = w))
  have qC := fun w => (rsize_any C ⟨by omega, by omega⟩ w).mono (fun e w' (h : e = _ ∧ w = w') => (⟨h.1, h.2.symm⟩ : e = _ ∧ w' = w))
  rw [hA] at qL
  rw [hB] at qC
  have aA2 : A' ≤ 200000000000 := by omega
  have aB2 : B' ≤ 200000000000 := by omega
  have QL := Lib.hid qL; have QC := Lib.hid qC
  have hmo : margOf s (L, C, U, M) = ⟨s.tr * M - A', s.li * M - B', s.up * M - U, s.mo - M⟩ := by simp [margOf, hA, hB]
  rw [hmo]
  clear hmo qL qC hA hB aA1 aB1
  go_enter Try.func17, Try.ntmps17
  go_wp2_with fail
  refine (rmoments_any s _ _ _ xs _ (HX.out.below hB0) hm HF.out).mono ?_
  rintro e w1 ⟨g, rfl, hg, hs1, hb1⟩
  rw [EM.out] at hs1
  have hB1 := hB0.trans (hb1.mono hB0.size)
  have hk1 := hk0.below hb1 hk0.lt
  clear hB0 hk0 hb1
  have hB := hB1
  go_wp2_with fail
  refine wp_region_still_tail 38 (by kernel_rfl) (by kernel_rfl) ?_
  simp only [List.take_succ_cons, List.take_zero, List.drop_succ_cons, List.drop_zero]
  change wpStill _ _ w1.drew (fun a' => wpList _ _ _ _ a' w1.drew) _ _
  replace hk1 := hk1.drew; replace hs1 := hs1.drew; replace hB := hB.drew
  clear hB1
  generalize w1.drew = W at *
  have a5 := hk1.cell 5; have a6 := hk1.cell 6; have a7 := hk1.cell 7; have a8 := hk1.cell 8
  have m0 := hs1.cell 0; have m1 := hs1.cell 1; have m2 := hs1.cell 2; have m3 := hs1.cell 3
  simp only [List.getElem?_toArray, List.getElem?_cons_zero, List.getElem?_cons_succ] at a5 a6 a7 a8 m0 m1 m2 m3
  have wr1 : IntKind.i64.wrap (s.tr * M) = s.tr * M := IntWalk.i64_in _ (by omega)
  have wr2 : IntKind.i64.wrap (s.li * M) = s.li * M := IntWalk.i64_in _ (by omega)
  have wr3 : IntKind.i64.wrap (s.up * M) = s.up * M := IntWalk.i64_in _ (by omega)
  have wr4 : IntKind.i64.wrap (s.tr * M - A') = s.tr * M - A' := IntWalk.i64_in _ (by omega)
  have wr5 : IntKind.i64.wrap (s.li * M - B') = s.li * M - B' := IntWalk.i64_in _ (by omega)
  have wr6 : IntKind.i64.wrap (s.up * M - U) = s.up * M - U := IntWalk.i64_in _ (by omega)
  have wr7 : IntKind.i64.wrap (s.mo - M) = s.mo - M := IntWalk.i64_in _ (by omega)
  repeat (first | still_step | still_call (QL.out _) | still_call (QC.out _))
  refine wpStill_nil ?_
  clear wr1 wr2 wr3 wr4 wr5 wr6 wr7
  go_wp2_with fail
  go_ret
  exact ⟨_, rfl, hB.size, Blk.new _ _ _, hB.alloc hB.size _⟩

set_option maxRecDepth 100000 in
set_option maxHeartbeats 1600000 in
theorem rworst_any (s : Ship) (A : Option Addr) (n c : Nat) (xs : List Load) (w : World) (hx : SliceOf w 7 Load.cells A n xs) (hm : n ≤ 4096) (hfit : fitB s xs = true) :
    Calls Try.prog 18 #[.agg #[.string s.nm, .int .i64 s.ba, .int .i64 s.ro, .int .i64 s.ti, .int .i64 s.st, .int .i64 s.tr, .int .i64 s.li, .int .i64 s.up, .int .i64 s.mo], .slice A n c] w fun e w' => e = .returned (.tuple #[.string (worstV s xs).1, .int .i64 (worstV s xs).2]) ∧ Below w.heap.size w w' := by
  have HX := Lib.hid hx
  have HF := Lib.hid hfit
  have hB0 : Below w.heap.size w (w.alloc (.cells #[.string s.nm, .int .i64 s.ba, .int .i64 s.ro, .int .i64 s.ti, .int .i64 s.st, .int .i64 s.tr, .int .i64 s.li, .int .i64 s.up, .int .i64 s.mo] 23)) := (Below.refl _ _).alloc (Nat.le_refl _) _
  have hk0 : Blk (w.alloc (.cells #[.string s.nm, .int .i64 s.ba, .int .i64 s.ro, .int .i64 s.ti, .int .i64 s.st, .int .i64 s.tr, .int .i64 s.li, .int .i64 s.up, .int .i64 s.mo] 23)) w.heap.size 23 #[.string s.nm, .int .i64 s.ba, .int .i64 s.ro, .int .i64 s.ti, .int .i64 s.st, .int .i64 s.tr, .int .i64 s.li, .int .i64 s.up, .int .i64 s.mo] := Blk.new _ _ _
  have e0 : worstV s xs = bestAt (margF s xs) 4 := by unfold worstV; rw [hfit]; rfl
  rw [e0]
  obtain ⟨R, hR⟩ : ∃ R, bestAt (margF s xs) 4 = R := ⟨_, rfl⟩
  rw [hR]
  have HR := Lib.hid hR
  clear e0 hR hx hfit
  go_enter Try.func18, Try.ntmps18
  go_wp2_with fail
  refine (rmargins_any s _ _ _ xs _ (HX.out.below hB0) hm HF.out).mono ?_
  rintro e w1 ⟨b, rfl, hg, hs1, hb1⟩
  have hB1 := hB0.trans (hb1.mono hB0.size)
  have hk1 := hk0.below hb1 hk0.lt
  clear hB0 hk0 hb1
  generalize margF s xs = g at *
  have hB2 : Below w.heap.size w (w1.alloc (.cells #[.string ⟨#[116, 114, 105, 109]⟩, .string ⟨#[108, 105, 115, 116]⟩, .string ⟨#[117, 112]⟩, .string ⟨#[109, 111, 115, 116]⟩] 9)) := hB1.alloc hB1.size _
  have hs2 : Blk (w1.alloc (.cells #[.string ⟨#[116, 114, 105, 109]⟩, .string ⟨#[108, 105, 115, 116]⟩, .string ⟨#[117, 112]⟩, .string ⟨#[109, 111, 115, 116]⟩] 9)) b 2 #[.int .i64 g.t, .int .i64 g.l, .int .i64 g.u, .int .i64 g.m] := hs1.alloc _
  have hn2 : Blk (w1.alloc (.cells #[.string ⟨#[116, 114, 105, 109]⟩, .string ⟨#[108, 105, 115, 116]⟩, .string ⟨#[117, 112]⟩, .string ⟨#[109, 111, 115, 116]⟩] 9)) w1.heap.size 9 #[.string ⟨#[116, 114, 105, 109]⟩, .string ⟨#[108, 105, 115, 116]⟩, .string ⟨#[117, 112]⟩, .string ⟨#[109, 111, 115, 116]⟩] := Blk.new _ _ _
  clear hB1 hk1 hs1
  go_wp2_with fail
  go_loopw [8, 9] (fun at_ i wr => ∃ (k j : Nat), k ≤ 4 ∧ 1 ≤ k ∧ j < k ∧ i = .int .i64 k ∧ at_ = .int .i64 j ∧ Below w.heap.size w wr ∧ Blk wr b 2 #[.int .i64 g.t, .int .i64 g.l, .int .i64 g.u, .int .i64 g.m] ∧ Blk wr w1.heap.size 9 #[.string ⟨#[116, 114, 105, 109]⟩, .string ⟨#[108, 105, 115, 116]⟩, .string ⟨#[117, 112]⟩, .string ⟨#[109, 111, 115, 116]⟩] ∧ Hid (bestAt g k = (nameAt j, leftAt g j))) (fun _ i _ => 4 - (intOf i).toNat)
  case atStart => exact ⟨1, 0, by omega, by omega, by omega, rfl, rfl, hB2, hs2, hn2, Lib.hid (by simp [bestAt, leftAt])⟩
  case round =>
    obtain ⟨k, j, hk, hk1, hj, rfl, rfl, hbel, hs, hns, hd⟩ := hrel
    clear hB2 hs2 hn2
    have c0 := hs.cell 0; have c1 := hs.cell 1; have c2 := hs.cell 2; have c3 := hs.cell 3
    have d0 := hns.cell 0; have d1 := hns.cell 1; have d2 := hns.cell 2; have d3 := hns.cell 3
    simp only [List.getElem?_toArray, List.getElem?_cons_zero, List.getElem?_cons_succ] at c0 c1 c2 c3 d0 d1 d2 d3
    have cj : wr.cell? ⟨b, j, none⟩ = some (.int .i64 (leftAt g j)) := by
      have : j = 0 ∨ j = 1 ∨ j = 2 ∨ j = 3 := by omega
      rcases this with rfl | rfl | rfl | rfl <;> assumption
    have dj : wr.cell? ⟨w1.heap.size, j, none⟩ = some (.string (nameAt j)) := by
      have : j = 0 ∨ j = 1 ∨ j = 2 ∨ j = 3 := by omega
      rcases this with rfl | rfl | rfl | rfl <;> assumption
    have j0 : (0 : Int) ≤ (j : Int) := by omega
    have j4 : (j : Int) < 4 := by omega
    by_cases hlt : k < 4
    · have ck : wr.cell? ⟨b, k, none⟩ = some (.int .i64 (leftAt g k)) := by
        have : k = 0 ∨ k = 1 ∨ k = 2 ∨ k = 3 := by omega
        rcases this with rfl | rfl | rfl | rfl <;> assumption
      have k0 : (0 : Int) ≤ (k : Int) := by omega
      have k4 : (k : Int) < 4 := by omega
      clear c0 c1 c2 c3 d0 d1 d2 d3 dj
      by_cases h : leftAt g k < leftAt g j
      · have e0 := Lib.hid (show bestAt g (k + 1) = (nameAt k, leftAt g k) by rw [bestAt, hd.out]; exact if_pos h)
        go_wp2_with fail
        go_quiet (fail)
        go_wp2_with fail
        go_roundw
        case rel => exact ⟨k + 1, k, by omega, by omega, by omega, by go_num, rfl, below_drewN hbel _, hs.drewN _, hns.drewN _, e0⟩
        case measure => simp [intOf]; omega
      · have e0 := Lib.hid (show bestAt g (k + 1) = (nameAt j, leftAt g j) by rw [bestAt, hd.out]; exact if_neg h)
        go_wp2_with fail
        go_quiet (fail)
        go_wp2_with fail
        go_roundw
        case rel => exact ⟨k + 1, j, by omega, by omega, by omega, by go_num, rfl, below_drewN hbel _, hs.drewN _, hns.drewN _, e0⟩
        case measure => simp [intOf]; omega
    · obtain rfl : k = 4 := by omega
      have e0 := Lib.hid (HR.out.symm.trans hd.out)
      clear c0 c1 c2 c3 d0 d1 d2 d3
      go_wp2_with fail
      go_quiet (fail)
      go_wp2_with fail
      go_ret2
      exact ⟨ret_sk e0.out, below_drewN hbel _⟩
end Go.Proofs.Yteciegpfiipokaa
