/- TrimSafe: whether it lies safe, and the worst margin, are what the chapter says. No condition. -/
import Derived.Test.YteciegpfiipokaaAwake
import Derived.Test.YteciegpfiipokaaFit
import Derived.Test.YteciegpfiipokaaRWorst
namespace Go.Proofs.Yteciegpfiipokaa
open Go.RowKit Go.Proofs.Yteciegpfiipokaa.kit
set_option linter.unusedVariables false

theorem safe_cases (g : Marg) : ((bestAt g 4).2 < 0 ∧ g.m < 0 ∧ safeOf g = 7) ∨ ((bestAt g 4).2 < 0 ∧ ¬ g.m < 0 ∧ safeOf g = 3) ∨ (¬ (bestAt g 4).2 < 0 ∧ ¬ g.m < 0 ∧ safeOf g = 0) := by
  have h : ((bestAt g 4).2 < 0 ↔ (g.t < 0 ∨ g.l < 0 ∨ g.u < 0 ∨ g.m < 0)) := by
    simp only [bestAt, leftAt]
    split <;> split <;> split <;> split <;> simp only at * <;> omega
  unfold safeOf
  by_cases a : g.m < 0
  · left
    exact ⟨h.2 (by omega), a, if_pos a⟩
  · by_cases b : g.t < 0 ∨ g.l < 0 ∨ g.u < 0
    · right; left
      exact ⟨h.2 (by omega), a, by rw [if_neg a, if_pos b]⟩
    · right; right
      refine ⟨fun c => ?_, a, by rw [if_neg a, if_neg b]⟩
      have := h.1 c
      omega

set_option maxRecDepth 100000 in
set_option maxHeartbeats 3200000 in
theorem trimSafe_walk (s : Ship) (hs : s.wf) (A : Option Addr) (n c : Nat) (xs : List Load) (w : World) (hx : SliceOf w 7 Load.cells A n xs) (hnc : n ≤ c) (hcm : c ≤ maxLen) :
    Calls Try.prog 7 #[.agg #[.string s.nm, .int .i64 s.ba, .int .i64 s.ro, .int .i64 s.ti, .int .i64 s.st, .int .i64 s.tr, .int .i64 s.li, .int .i64 s.up, .int .i64 s.mo], .slice A n c] w fun e w' => e = .returned (.bool true) ∧ Below w.heap.size w w' := by
  obtain ⟨hn, _⟩ := hs
  have hm : n ≤ maxLen := by omega
  have HX := Lib.hid hx
  have hxl := hx.len
  have hB0 : Below w.heap.size w (w.alloc (.cells #[.string s.nm, .int .i64 s.ba, .int .i64 s.ro, .int .i64 s.ti, .int .i64 s.st, .int .i64 s.tr, .int .i64 s.li, .int .i64 s.up, .int .i64 s.mo] 23)) := (Below.refl _ _).alloc (Nat.le_refl _) _
  have hk0 : Blk (w.alloc (.cells #[.string s.nm, .int .i64 s.ba, .int .i64 s.ro, .int .i64 s.ti, .int .i64 s.st, .int .i64 s.tr, .int .i64 s.li, .int .i64 s.up, .int .i64 s.mo] 23)) w.heap.size 23 #[.string s.nm, .int .i64 s.ba, .int .i64 s.ro, .int .i64 s.ti, .int .i64 s.st, .int .i64 s.tr, .int .i64 s.li, .int .i64 s.up, .int .i64 s.mo] := Blk.new _ _ _
  clear hx
  go_enter Try.func7, Try.ntmps7
  go_wp2_with fail
  refine (awake_any _).mono ?_
  rintro e w1 ⟨rfl, hb1⟩
  have hB1 := hB0.trans (hb1.mono hB0.size)
  have hk1 := hk0.below hb1 hk0.lt
  clear hB0 hk0 hb1
  have a0 := hk1.cell 0; have a1 := hk1.cell 1; have a2 := hk1.cell 2; have a3 := hk1.cell 3; have a4 := hk1.cell 4; have a5 := hk1.cell 5; have a6 := hk1.cell 6; have a7 := hk1.cell 7; have a8 := hk1.cell 8; simp only [List.getElem?_toArray, List.getElem?_cons_zero, List.getElem?_cons_succ] at a0 a1 a2 a3 a4 a5 a6 a7 a8
  by_cases h1 : 60 < n
  · have h1' : (60 : Int) < (n : Int) := by omega
    go_wp2_with fail
    go_ret
    exact ⟨rfl, hB1⟩
  have h1' : ¬ (60 : Int) < (n : Int) := by omega
  by_cases h2 : 100 < s.nm.size
  · have h2' : (100 : Int) < (s.nm.size : Int) := by omega
    go_wp2_with fail
    go_ret
    exact ⟨rfl, hB1⟩
  have h2' : ¬ (100 : Int) < (s.nm.size : Int) := by omega
  have hm4 : n ≤ 4096 := by omega
  cases hf : fitB s xs
  · have E1 := Lib.hid (show safeV s xs = 1 by unfold safeV; rw [hf]; rfl)
    have E2 := Lib.hid (show worstV s xs = (⟨#[]⟩, 0) by unfold worstV; rw [hf]; rfl)
    have F := Lib.hid hf
    clear hf
    go_wp2_with fail
    refine (safe_any s hn _ _ _ xs _ (HX.out.below hB1) hm).mono ?_
    rw [E1.out]
    rintro e w2 ⟨rfl, hb2⟩
    clear a0 a1 a2 a3 a4 a5 a6 a7 a8
    have hB2 := hB1.trans (hb2.mono hB1.size)
    have hk2 := hk1.below hb2 hk1.lt
    clear hB1 hk1 hb2
    have a0 := hk2.cell 0; have a1 := hk2.cell 1; have a2 := hk2.cell 2; have a3 := hk2.cell 3; have a4 := hk2.cell 4; have a5 := hk2.cell 5; have a6 := hk2.cell 6; have a7 := hk2.cell 7; have a8 := hk2.cell 8; simp only [List.getElem?_toArray, List.getElem?_cons_zero, List.getElem?_cons_succ] at a0 a1 a2 a3 a4 a5 a6 a7 a8
    go_wp2_with fail
    refine (worst_any s hn _ _ _ xs _ (HX.out.below hB2) hm).mono ?_
    rw [E2.out]
    rintro e w3 ⟨rfl, hb3⟩
    clear a0 a1 a2 a3 a4 a5 a6 a7 a8
    have hB3 := hB2.trans (hb3.mono hB2.size)
    have hk3 := hk2.below hb3 hk2.lt
    clear hB2 hk2 hb3
    have a0 := hk3.cell 0; have a1 := hk3.cell 1; have a2 := hk3.cell 2; have a3 := hk3.cell 3; have a4 := hk3.cell 4; have a5 := hk3.cell 5; have a6 := hk3.cell 6; have a7 := hk3.cell 7; have a8 := hk3.cell 8; simp only [List.getElem?_toArray, List.getElem?_cons_zero, List.getElem?_cons_succ] at a0 a1 a2 a3 a4 a5 a6 a7 a8
    go_wp2_with fail
    refine (rfit_any s hn _ _ _ xs _ (HX.out.below hB3) hm).mono ?_
    rw [F.out]
    rintro e w4 ⟨rfl, hb4⟩
    clear a0 a1 a2 a3 a4 a5 a6 a7 a8
    have hB4 := hB3.trans (hb4.mono hB3.size)
    have hk4 := hk3.below hb4 hk3.lt
    clear hB3 hk3 hb4
    have a0 := hk4.cell 0; have a1 := hk4.cell 1; have a2 := hk4.cell 2; have a3 := hk4.cell 3; have a4 := hk4.cell 4; have a5 := hk4.cell 5; have a6 := hk4.cell 6; have a7 := hk4.cell 7; have a8 := hk4.cell 8; simp only [List.getElem?_toArray, List.getElem?_cons_zero, List.getElem?_cons_succ] at a0 a1 a2 a3 a4 a5 a6 a7 a8
    go_wp2_with fail
    go_ret
    exact ⟨rfl, hB4⟩
  have E1 := Lib.hid (show safeV s xs = safeOf (margF s xs) by unfold safeV; rw [hf]; rfl)
  have E2 := Lib.hid (show worstV s xs = ((bestAt (margF s xs) 4).1, (bestAt (margF s xs) 4).2) by unfold worstV; rw [hf]; rfl)
  have F := Lib.hid hf
  have hc := safe_cases (margF s xs)
  have HG := Lib.hid (fun w h => rmargins_any s A n c xs w h hm4 hf)
  clear hf
  generalize margF s xs = g at *
  generalize (bestAt g 4).1 = nm at *
  generalize (bestAt g 4).2 = lf at *
  generalize safeOf g = e0 at *
  rcases hc with ⟨q1, q2, rfl⟩ | ⟨q1, q2, rfl⟩ | ⟨q1, q2, rfl⟩
  all_goals
    go_wp2_with fail
    refine (safe_any s hn _ _ _ xs _ (HX.out.below hB1) hm).mono ?_
    rw [E1.out]
    rintro e w2 ⟨rfl, hb2⟩
    clear a0 a1 a2 a3 a4 a5 a6 a7 a8
    have hB2 := hB1.trans (hb2.mono hB1.size)
    have hk2 := hk1.below hb2 hk1.lt
    clear hB1 hk1 hb2
    have a0 := hk2.cell 0; have a1 := hk2.cell 1; have a2 := hk2.cell 2; have a3 := hk2.cell 3; have a4 := hk2.cell 4; have a5 := hk2.cell 5; have a6 := hk2.cell 6; have a7 := hk2.cell 7; have a8 := hk2.cell 8; simp only [List.getElem?_toArray, List.getElem?_cons_zero, List.getElem?_cons_succ] at a0 a1 a2 a3 a4 a5 a6 a7 a8
    go_wp2_with fail
    refine (worst_any s hn _ _ _ xs _ (HX.out.below hB2) hm).mono ?_
    rw [E2.out]
    rintro e w3 ⟨rfl, hb3⟩
    clear a0 a1 a2 a3 a4 a5 a6 a7 a8
    have hB3 := hB2.trans (hb3.mono hB2.size)
    have hk3 := hk2.below hb3 hk2.lt
    clear hB2 hk2 hb3
    have a0 := hk3.cell 0; have a1 := hk3.cell 1; have a2 := hk3.cell 2; have a3 := hk3.cell 3; have a4 := hk3.cell 4; have a5 := hk3.cell 5; have a6 := hk3.cell 6; have a7 := hk3.cell 7; have a8 := hk3.cell 8; simp only [List.getElem?_toArray, List.getElem?_cons_zero, List.getElem?_cons_succ] at a0 a1 a2 a3 a4 a5 a6 a7 a8
    go_wp2_with fail
    refine (rfit_any s hn _ _ _ xs _ (HX.out.below hB3) hm).mono ?_
    rw [F.out]
    rintro e w4 ⟨rfl, hb4⟩
    clear a0 a1 a2 a3 a4 a5 a6 a7 a8
    have hB4 := hB3.trans (hb4.mono hB3.size)
    have hk4 := hk3.below hb4 hk3.lt
    clear hB3 hk3 hb4
    have a0 := hk4.cell 0; have a1 := hk4.cell 1; have a2 := hk4.cell 2; have a3 := hk4.cell 3; have a4 := hk4.cell 4; have a5 := hk4.cell 5; have a6 := hk4.cell 6; have a7 := hk4.cell 7; have a8 := hk4.cell 8; simp only [List.getElem?_toArray, List.getElem?_cons_zero, List.getElem?_cons_succ] at a0 a1 a2 a3 a4 a5 a6 a7 a8
    go_wp2_with fail
    refine (HG.out _ (HX.out.below hB4)).mono ?_
    rintro e w5 ⟨b, rfl, hg, hs1, hb5⟩
    clear a0 a1 a2 a3 a4 a5 a6 a7 a8
    have hB5 := hB4.trans (hb5.mono hB4.size)
    have hk5 := hk4.below hb5 hk4.lt
    clear hB4 hk4 hb5
    have a0 := hk5.cell 0; have a1 := hk5.cell 1; have a2 := hk5.cell 2; have a3 := hk5.cell 3; have a4 := hk5.cell 4; have a5 := hk5.cell 5; have a6 := hk5.cell 6; have a7 := hk5.cell 7; have a8 := hk5.cell 8; simp only [List.getElem?_toArray, List.getElem?_cons_zero, List.getElem?_cons_succ] at a0 a1 a2 a3 a4 a5 a6 a7 a8
    go_wp2_with fail
    refine (rworst_any s _ _ _ xs _ (HX.out.below hB5) hm4 F.out).mono ?_
    rw [E2.out]
    rintro e w6 ⟨rfl, hb6⟩
    have hs2 := hs1.below hb6 hs1.lt
    clear a0 a1 a2 a3 a4 a5 a6 a7 a8
    clear hs1
    have hB6 := hB5.trans (hb6.mono hB5.size)
    have hk6 := hk5.below hb6 hk5.lt
    clear hB5 hk5 hb6
    have m3 := hs2.cell 3
    simp only [List.getElem?_toArray, List.getElem?_cons_zero, List.getElem?_cons_succ] at m3
    go_wp2_with fail
    go_ret
    exact ⟨ret_bool (by first | rfl | (simp; omega) | simp), hB6⟩
end Go.Proofs.Yteciegpfiipokaa
