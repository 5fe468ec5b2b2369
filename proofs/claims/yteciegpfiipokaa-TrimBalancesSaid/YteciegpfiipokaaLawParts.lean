/- TrimParts: the moments of both parts add up to those of all. No condition. -/
import Derived.Test.YteciegpfiipokaaAwake
import Derived.Test.YteciegpfiipokaaFit
import Derived.Test.YteciegpfiipokaaFits
import Derived.Test.YteciegpfiipokaaMore
import Derived.Deep.RegionLaw
import Derived.Deep.DeepCutAuto
namespace Go.Proofs.Yteciegpfiipokaa
open Go.RowKit Go.Proofs.Yteciegpfiipokaa.kit
set_option linter.unusedVariables false

theorem infoLoad : (Try.prog.info? 40).map (fun i => (i.zero, i.size, i.bytes)) = some (some (.agg #[.int .i64 0, .int .i64 0, .int .i64 0, .string ⟨#[]⟩, .int .i64 0, .int .i64 0, .int .i64 0]), 7, 64) := by kernel_rfl
theorem load_len (x : Load) : x.cells.length = 7 := rfl
theorem loads_one (u : List Load) : ∀ v ∈ u.flatMap Load.cells, v.oneCell' = true := by
  intro v hv
  obtain ⟨x, _, hx⟩ := List.mem_flatMap.1 hv
  simp [Load.cells] at hx
  rcases hx with rfl | rfl | rfl | rfl | rfl | rfl | rfl <;> rfl
/-- The parts' moments. -/
theorem parts_sum {s : Ship} {xs : List Load} (h : fitB s xs = true) (hl : xs.length ≤ 60) (k : Nat) : ∃ p q r t p' q' r' t' : Int,
    sumV s xs = ((p + p', q + q', r + r', t + t'), true) ∧ sumV s (xs.take k) = ((p, q, r, t), true) ∧ sumV s (xs.drop k) = ((p', q', r', t'), true) ∧ sumV s (xs.drop k ++ xs.take k) = ((p + p', q + q', r + r', t + t'), true) ∧
    -2000000000 ≤ p ∧ p ≤ 2000000000 ∧ -2000000000 ≤ q ∧ q ≤ 2000000000 ∧ -2000000000 ≤ r ∧ r ≤ 2000000000 ∧ -2000000000 ≤ t ∧ t ≤ 2000000000 ∧
    -2000000000 ≤ p' ∧ p' ≤ 2000000000 ∧ -2000000000 ≤ q' ∧ q' ≤ 2000000000 ∧ -2000000000 ≤ r' ∧ r' ≤ 2000000000 ∧ -2000000000 ≤ t' ∧ t' ≤ 2000000000 := by
  have h1 := fit_sub h (List.take_sublist k xs)
  have h2 := fit_sub h (List.drop_sublist k xs)
  have h3 := fit_perm h (show (xs.drop k ++ xs.take k).Perm xs by have := (List.perm_append_comm (l₁ := xs.drop k) (l₂ := xs.take k)); rwa [List.take_append_drop] at this)
  obtain ⟨a0, a1, a2, a3, a4, a5, a6, a7⟩ := mom_bd h1
  obtain ⟨b0, b1, b2, b3, b4, b5, b6, b7⟩ := mom_bd h2
  have l1 : (xs.take k).length ≤ 60 := by rw [List.length_take]; omega
  have l2 : (xs.drop k).length ≤ 60 := by rw [List.length_drop]; omega
  have e : ∀ f, sumBy f xs = sumBy f (xs.take k) + sumBy f (xs.drop k) := fun f => by rw [← sumBy_append, List.take_append_drop]
  have e' : ∀ f, sumBy f (xs.drop k ++ xs.take k) = sumBy f (xs.take k) + sumBy f (xs.drop k) := fun f => by rw [sumBy_append]; omega
  refine ⟨_, _, _, _, _, _, _, _, ?_, sum_fit h1, sum_fit h2, ?_, by omega, by omega, by omega, by omega, by omega, by omega, by omega, by omega, by omega, by omega, by omega, by omega, by omega, by omega, by omega, by omega⟩
  · rw [sum_fit h]; simp only [e]
  · rw [sum_fit h3]; simp only [e']

set_option maxRecDepth 100000 in
set_option maxHeartbeats 3200000 in
theorem trimParts_walk (s : Ship) (hs : s.wf) (A : Option Addr) (n c : Nat) (xs : List Load) (at_ : Int) (w : World) (hx : SliceOf w 7 Load.cells A n xs) (hnc : n ≤ c) (hcm : c ≤ maxLen) :
    Calls Try.prog 3 #[.agg #[.string s.nm, .int .i64 s.ba, .int .i64 s.ro, .int .i64 s.ti, .int .i64 s.st, .int .i64 s.tr, .int .i64 s.li, .int .i64 s.up, .int .i64 s.mo], .slice A n c, .int .i64 at_] w fun e w' => e = .returned (.bool true) ∧ Below w.heap.size w w' := by
  obtain ⟨hn, _⟩ := hs
  have hm : n ≤ maxLen := by omega
  have HX := Lib.hid hx
  have hxl := hx.len
  have hB0 : Below w.heap.size w (w.alloc (.cells #[.string s.nm, .int .i64 s.ba, .int .i64 s.ro, .int .i64 s.ti, .int .i64 s.st, .int .i64 s.tr, .int .i64 s.li, .int .i64 s.up, .int .i64 s.mo] 23)) := (Below.refl _ _).alloc (Nat.le_refl _) _
  have hk0 : Blk (w.alloc (.cells #[.string s.nm, .int .i64 s.ba, .int .i64 s.ro, .int .i64 s.ti, .int .i64 s.st, .int .i64 s.tr, .int .i64 s.li, .int .i64 s.up, .int .i64 s.mo] 23)) w.heap.size 23 #[.string s.nm, .int .i64 s.ba, .int .i64 s.ro, .int .i64 s.ti, .int .i64 s.st, .int .i64 s.tr, .int .i64 s.li, .int .i64 s.up, .int .i64 s.mo] := Blk.new _ _ _
  clear hx
  go_enter Try.func3, Try.ntmps3
  go_wp2_with fail
  refine (awake_any _).mono ?_
  rintro e w1 ⟨rfl, hb1⟩
  have hB1 := hB0.trans (hb1.mono hB0.size)
  have hk1 := hk0.below hb1 hk0.lt
  clear hB0 hk0 hb1
  have a0 := hk1.cell 0; have a1 := hk1.cell 1; have a2 := hk1.cell 2; have a3 := hk1.cell 3; have a4 := hk1.cell 4; have a5 := hk1.cell 5; have a6 := hk1.cell 6; have a7 := hk1.cell 7; have a8 := hk1.cell 8; simp only [List.getElem?_toArray, List.getElem?_cons_zero, List.getElem?_cons_succ] at a0 a1 a2 a3 a4 a5 a6 a7 a8
  by_cases h1 : 60 < n
  · have h1' : (60 : Int) < (n : Int) := by omega
    go_wp2_with fail
    go_ret
    exact ⟨rfl, hB1⟩
  have h1' : ¬ (60 : Int) < (n : Int) := by omega
  by_cases h2 : 100 < s.nm.size
  · have h2' : (100 : Int) < (s.nm.size : Int) := by omega
    go_wp2_with fail
    go_ret
    exact ⟨rfl, hB1⟩
  have h2' : ¬ (100 : Int) < (s.nm.size : Int) := by omega
  by_cases h3 : at_ < 0
  · go_wp2_with fail
    go_ret
    exact ⟨rfl, hB1⟩
  by_cases h4 : (n : Int) < at_
  · go_wp2_with fail
    go_ret
    exact ⟨rfl, hB1⟩
  obtain ⟨k, rfl⟩ : ∃ k : Nat, at_ = k := ⟨at_.toNat, by omega⟩
  have hkn : k ≤ n := by omega
  have hk0' : (0 : Int) ≤ (k : Int) := by omega
  have hkn' : (k : Int) ≤ (n : Int) := by omega
  have hkc' : (k : Int) ≤ (c : Int) := by omega
  cases hf : fitB s xs
  · go_wp2_with fail
    refine (rfit_any s hn _ _ _ xs _ (HX.out.below hB1) hm).mono ?_
    rw [hf]
    rintro e w2 ⟨rfl, hb2⟩
    clear a0 a1 a2 a3 a4 a5 a6 a7 a8
    have hB2 := hB1.trans (hb2.mono hB1.size)
    have hk2 := hk1.below hb2 hk1.lt
    clear hB1 hk1 hb2
    clear hf
    go_wp2_with fail
    go_ret
    exact ⟨rfl, hB2⟩
  obtain ⟨p, q, r, t, p', q', r', t', e1, e2, e3, e4, bp, bp', bq, bq', br, br', bt, bt', cp, cp', cq, cq', cr, cr', ct, ct'⟩ := parts_sum hf (by omega) k
  have E1 := Lib.hid e1; have E2 := Lib.hid e2; have E3 := Lib.hid e3; have E4 := Lib.hid e4; have F := Lib.hid hf
  clear e1 e2 e3 e4 hf
  go_wp2_with fail
  refine (rfit_any s hn _ _ _ xs _ (HX.out.below hB1) hm).mono ?_
  rw [F.out]
  rintro e w2 ⟨rfl, hb2⟩
  clear a0 a1 a2 a3 a4 a5 a6 a7 a8
  have hB2 := hB1.trans (hb2.mono hB1.size)
  have hk2 := hk1.below hb2 hk1.lt
  clear hB1 hk1 hb2
  have a0 := hk2.cell 0; have a1 := hk2.cell 1; have a2 := hk2.cell 2; have a3 := hk2.cell 3; have a4 := hk2.cell 4; have a5 := hk2.cell 5; have a6 := hk2.cell 6; have a7 := hk2.cell 7; have a8 := hk2.cell 8; simp only [List.getElem?_toArray, List.getElem?_cons_zero, List.getElem?_cons_succ] at a0 a1 a2 a3 a4 a5 a6 a7 a8
  go_wp2_with fail
  refine (moments_any s hn _ _ _ xs _ (HX.out.below hB2) hm).mono ?_
  rw [E1.out]
  rintro e w3 ⟨rfl, hb3⟩
  clear a0 a1 a2 a3 a4 a5 a6 a7 a8
  have hB3 := hB2.trans (hb3.mono hB2.size)
  have hk3 := hk2.below hb3 hk2.lt
  clear hB2 hk2 hb3
  have a0 := hk3.cell 0; have a1 := hk3.cell 1; have a2 := hk3.cell 2; have a3 := hk3.cell 3; have a4 := hk3.cell 4; have a5 := hk3.cell 5; have a6 := hk3.cell 6; have a7 := hk3.cell 7; have a8 := hk3.cell 8; simp only [List.getElem?_toArray, List.getElem?_cons_zero, List.getElem?_cons_succ] at a0 a1 a2 a3 a4 a5 a6 a7 a8
  have M2 : ∀ w', Below w.heap.size w w' → Calls Try.prog 11 #[.agg #[.string s.nm, .int .i64 s.ba, .int .i64 s.ro, .int .i64 s.ti, .int .i64 s.st, .int .i64 s.tr, .int .i64 s.li, .int .i64 s.up, .int .i64 s.mo], .slice A k c] w' fun e w'' => e = .returned (.tuple #[.int .i64 p, .int .i64 q, .int .i64 r, .int .i64 t]) ∧ Below w'.heap.size w' w'' := fun w' hb => by
    have := moments_any s hn _ _ c (xs.take k) w' ((HX.out.below hb).take_ hkn) (by omega)
    rw [E2.out] at this
    exact this
  obtain ⟨A', hif⟩ : ∃ A', (if c = k then A else A.map (·.add (k * 7))) = A' := ⟨_, rfl⟩
  have D := fun w' hb => ((HX.out.below (w' := w') hb).drop_ hkn hnc)
  rw [hif] at D
  have HD := Lib.hid D
  have M3 : ∀ w', Below w.heap.size w w' → Calls Try.prog 11 #[.agg #[.string s.nm, .int .i64 s.ba, .int .i64 s.ro, .int .i64 s.ti, .int .i64 s.st, .int .i64 s.tr, .int .i64 s.li, .int .i64 s.up, .int .i64 s.mo], .slice A' (n - k) (c - k)] w' fun e w'' => e = .returned (.tuple #[.int .i64 p', .int .i64 q', .int .i64 r', .int .i64 t']) ∧ Below w'.heap.size w' w'' := fun w' hb => by
    have := moments_any s hn _ _ (c - k) (xs.drop k) w' (HD.out _ hb) (by omega)
    rw [E3.out] at this
    exact this
  have HM2 := Lib.hid M2; have HM3 := Lib.hid M3
  have p0 := wof_cell a0; have p1 := wof_cell a1; have p2 := wof_cell a2; have p3 := wof_cell a3; have p4 := wof_cell a4; have p5 := wof_cell a5; have p6 := wof_cell a6; have p7 := wof_cell a7; have p8 := wof_cell a8
  have HB : Hid (∀ x : BW w3, Below w.heap.size w (wof x)) := fun x => hB3.trans ((wof_below x).mono hB3.size)
  clear M2 M3 D
  go_wp2_with fail
  refine wp_region_quiet_below (by kernel_rfl) (by kernel_rfl) ?_
  repeat (go_big_quiet_step ((go_at_call 11; exact quiet_below (HM2.out _ (HB.out _)))))
  refine wpQuiet_nil ?_
  intro w4 hb4
  clear p0 p1 p2 p3 p4 p5 p6 p7 p8 HB
  clear a0 a1 a2 a3 a4 a5 a6 a7 a8
  have hB4 := hB3.trans (hb4.mono hB3.size)
  have hk4 := hk3.below hb4 hk3.lt
  clear hB3 hk3 hb4
  have a0 := hk4.cell 0; have a1 := hk4.cell 1; have a2 := hk4.cell 2; have a3 := hk4.cell 3; have a4 := hk4.cell 4; have a5 := hk4.cell 5; have a6 := hk4.cell 6; have a7 := hk4.cell 7; have a8 := hk4.cell 8; simp only [List.getElem?_toArray, List.getElem?_cons_zero, List.getElem?_cons_succ] at a0 a1 a2 a3 a4 a5 a6 a7 a8
  have p0 := wof_cell a0; have p1 := wof_cell a1; have p2 := wof_cell a2; have p3 := wof_cell a3; have p4 := wof_cell a4; have p5 := wof_cell a5; have p6 := wof_cell a6; have p7 := wof_cell a7; have p8 := wof_cell a8
  have HB : Hid (∀ x : BW w4, Below w.heap.size w (wof x)) := fun x => hB4.trans ((wof_below x).mono hB4.size)
  go_wp2_with fail
  refine wp_region_quiet_below (by kernel_rfl) (by kernel_rfl) ?_
  repeat (go_big_quiet_step ((go_at_call 11; exact quiet_below (HM3.out _ (HB.out _)))))
  refine wpQuiet_nil ?_
  intro w5 hb5
  clear p0 p1 p2 p3 p4 p5 p6 p7 p8 HB
  clear a0 a1 a2 a3 a4 a5 a6 a7 a8
  have hB5 := hB4.trans (hb5.mono hB4.size)
  have hk5 := hk4.below hb5 hk4.lt
  clear hB4 hk4 hb5
  have a0 := hk5.cell 0; have a1 := hk5.cell 1; have a2 := hk5.cell 2; have a3 := hk5.cell 3; have a4 := hk5.cell 4; have a5 := hk5.cell 5; have a6 := hk5.cell 6; have a7 := hk5.cell 7; have a8 := hk5.cell 8; simp only [List.getElem?_toArray, List.getElem?_cons_zero, List.getElem?_cons_succ] at a0 a1 a2 a3 a4 a5 a6 a7 a8
  go_upto_region 8 with (fail)
  obtain ⟨i0, hi, hz0, hz1, hz2⟩ := info_parts infoLoad
  have hq0 : 0 < 7 := by omega
  have hq1 : 0 + (n - k) ≤ maxLen := by unfold maxLen; omega
  have hq2 : (0 + (n - k)) * 64 ≤ 140737488355328 := by omega
  have hq3 : 0 + (n - k) + k ≤ maxLen := by unfold maxLen; omega
  have hq4 : (0 + (n - k) + k) * 64 ≤ 140737488355328 := by omega
  go_cut [19] (fun v wx => Made w5 7 Load.cells (xs.drop k ++ xs.take k) n v wx)
  case first =>
    have HS := Lib.hid (HD.out _ hB5)
    have HS' := Lib.hid ((HX.out.below hB5).take_ hkn)
    go_region_law (first
      | (refine step_append_any _ rfl (.tmp 79) (.tmp 82) 24 rfl w5.heap.size 40 i0 _ 7 64 Try.underlying24 hi hz0 hz1 hz2 rfl hq0 (.slice (some ⟨w5.heap.size, 0, none⟩) 0 0) 0 [] ?_ ?_ w5.heap.size A' (n - k) (c - k) ((xs.drop k).flatMap Load.cells) ?_ ?_ (loads_one _) hq1 hq2 ?_ ?_; rfl; exact own_first w5; rfl; exact reads_drew ((HS.out.reads load_len).below (one_alloc _ _)); exact size_first _ _; intro v1 w9 hown1 hg1 hloc1; have HB9 : Hid (Below w5.heap.size w5 w9) := grown_emp (one_alloc _ _) hg1 (Nat.le_refl _); have HO1 := Lib.hid hown1; clear hown1 hg1 hloc1)
      | (refine step_append_any _ rfl (.tmp 83) (.tmp 86) 24 rfl w5.heap.size 40 i0 _ 7 64 Try.underlying24 hi hz0 hz1 hz2 rfl hq0 v1 (0 + (n - k)) _ ?_ HO1.out w5.heap.size A k c ((xs.take k).flatMap Load.cells) ?_ ?_ (loads_one _) hq3 hq4 ?_ ?_; rfl; rfl; exact (HS'.out.reads load_len).below HB9.out; exact HB9.out.size; intro v2 w10 hown2 hg2 hloc2; have HE : Hid (Made w5 7 Load.cells (xs.drop k ++ xs.take k) n v2 w10) := Lib.hid (by have hr : 0 + (n - k) + k = n := (by omega); rw [hr] at hown2; exact made_of hown2 load_len (by simp) (by simp; omega) (HB9.out.grown hg2 HB9.out.size (fun j hj => (HO1.out.lt j hj).1))); clear hown2 hg2 hloc2))
    all_goals (go_wp2_with fail; go_meet; exact HE.out)
  case rest =>
    obtain ⟨A3, c3, rfl, hs3, hb6⟩ := hcut
    have HS3 := Lib.hid hs3
    clear hs3
    clear a0 a1 a2 a3 a4 a5 a6 a7 a8
    have hB6 := hB5.trans (hb6.mono hB5.size)
    have hk6 := hk5.below hb6 hk5.lt
    clear hB5 hk5 hb6
    have a0 := hk6.cell 0; have a1 := hk6.cell 1; have a2 := hk6.cell 2; have a3 := hk6.cell 3; have a4 := hk6.cell 4; have a5 := hk6.cell 5; have a6 := hk6.cell 6; have a7 := hk6.cell 7; have a8 := hk6.cell 8; simp only [List.getElem?_toArray, List.getElem?_cons_zero, List.getElem?_cons_succ] at a0 a1 a2 a3 a4 a5 a6 a7 a8
    go_wp2_with fail
    refine (moments_any s hn _ _ _ (xs.drop k ++ xs.take k) _ HS3.out hm).mono ?_
    rw [E4.out]
    rintro e w7 ⟨rfl, hb7⟩
    go_wp2_with fail
    go_ret
    exact ⟨rfl, hB6.trans (hb7.mono hB6.size)⟩
end Go.Proofs.Yteciegpfiipokaa
