/- LayStays: split at the hour at which it expires, the hours behind that count two each; ahead of it fewer are used than are free at each hour. No condition. -/
import Derived.Test.YtfjanoimhkddbaaPlain4
import Derived.Test.YtfjanoimhkddbaaSplit
import Derived.Test.YtfjanoimhkddbaaLawMoney
namespace Go.Proofs.Ytfjanoimhkddbaa
open Go.RowKit Go.Proofs.Ytfjanoimhkddbaa.kit
set_option linter.unusedVariables false

set_option maxHeartbeats 1600000 in
theorem layStays_ok (l : Lay) (b off n c : Nat) (x : Str) (r : List Str) (at_ : Int) (hat : I64 at_) (hw : wr l (x :: r) = 0) (hlong : long (x :: r) 300 = false) (w : World) (hx : SliceOf w 3 Str.cells (some ⟨b, off, none⟩) n (x :: r)) (hn : n ≤ 30) (hb : b < w.heap.size)
    (hc : ∀ i y, (x :: r)[i]? = some y → ∀ j v, y.cells[j]? = some v → w.cell? ⟨b, off + (i * 3 + j), none⟩ = some v) :
    Calls Try.prog 8 #[.agg #[.int .i64 l.free, .int .i64 l.late, .int .i64 l.soon], .slice (some ⟨b, off, none⟩) n c, .int .i64 at_] w fun e w' => e = .returned (.bool true) ∧ Below w.heap.size w w' := by
  have HX := Lib.hid hx
  have hm : n ≤ maxLen := by unfold maxLen; omega
  obtain ⟨hl, hk⟩ := wr_ok hw
  have hf : 0 ≤ l.free ∧ l.free ≤ 1048576 := by simp [Lay.may] at hl; omega
  obtain ⟨f0, f1⟩ := hf
  have hg := good_chk hk
  have hk' : ((chk 0 0 (x :: r)).2 != 0) = false := by simp [hk]
  obtain ⟨la0, la1⟩ := good_last x r hg
  obtain ⟨x0, x1, x2, x3, x4⟩ := hg.1
  have hnr : n = r.length + 1 := by rw [← hx.len]; rfl
  obtain ⟨y, hy, hyl⟩ := getLast_of x r
  have c0 : w.cell? ⟨b, off, none⟩ = some (.int .i64 x.fr) := by simpa using hc 0 x rfl 0 _ rfl
  have c1 : w.cell? ⟨b, off + (n - 1) * 3 + 1, none⟩ = some (.int .i64 (lastOf x r)) := by
    have := hc _ _ hy 1 _ rfl
    rw [hyl] at this
    rw [hnr]
    exact this
  have HSome : Hid (∀ v, expF (2 * l.free) (2 * l.free) 0 (x :: r) = some v → _) := fun v hv => stays_some (F := 2 * l.free) (by omega) x r hg hv
  have HNone : Hid (expF (2 * l.free) (2 * l.free) 0 (x :: r) = none → _) := fun hv => stays_none (F := 2 * l.free) (by omega) x r hg hv
  have e1 : usedV l (x :: r) = (usesF (2 * l.free) (x :: r), 0) := by unfold usedV; rw [if_pos hw]
  have e2 : expV l (x :: r) = optV (expF (2 * l.free) (2 * l.free) 0 (x :: r)) := by unfold expV; rw [if_pos hw]
  have e3 : ∀ a, splitV l a (x :: r) = (usesF (2 * l.free) (cutA a (x :: r)), usesF (2 * l.free) (x :: r) - usesF (2 * l.free) (cutA a (x :: r)), 0) := fun a => by unfold splitV; rw [if_pos hw]
  obtain ⟨u0, u1⟩ := usesF_top hk (2 * l.free)
  have HE1 := Lib.hid e1
  have HE2 := Lib.hid e2
  have HE3 := Lib.hid e3
  have n1 : (0 : Int) ≤ (n : Int) - 1 := by omega
  have n2 : (n : Int) - 1 < (n : Int) := by omega
  have n3 : (0 : Int) < (n : Int) := by omega
  have n4 : ¬ (n : Int) < 1 := by omega
  have n5 : ¬ (30 : Int) < (n : Int) := by omega
  generalize hL : lastOf x r = L at *
  generalize hF : x.fr = f at *
  clear hw hk hg hnr hy hyl e1 e2 e3 hc hx hL hF
  obtain ⟨hB0, hk0⟩ := boxed w l
  go_enter Try.func8, Try.ntmps8
  go_wp2_with fail
  refine (awake_any _).mono ?_
  rintro e w1 ⟨rfl, hb1⟩
  have hB1 : Below w.heap.size w w1 := hB0.trans (hb1.mono (by simp))
  have hk1 := hk0.below hb1 hk0.lt
  clear hB0 hk0 hb1
  go_wp2_with fail
  refine (long_any 300 (by omega) _ _ _ (x :: r) _ (HX.out.below hB1) hm).mono ?_
  rintro e w2 ⟨rfl, hb2⟩
  have hB2 : Below w.heap.size w w2 := hB1.trans (hb2.mono hB1.size)
  have hk2 := hk1.below hb2 hk1.lt
  clear hB1 hk1 hb2
  have a0 := hk2.cell 0; have a1 := hk2.cell 1; have a2 := hk2.cell 2; simp at a0 a1 a2
  go_wp2_with fail
  refine (rmay_any l _).mono ?_
  rintro e w3 ⟨rfl, hb3⟩
  have hB3 : Below w.heap.size w w3 := hB2.trans (hb3.mono hB2.size)
  have hk3 := hk2.below hb3 hk2.lt
  clear hB2 hk2 hb3 a0 a1 a2
  go_wp2_with fail
  refine (rcheck_any _ _ _ (x :: r) _ (HX.out.below hB3) hm).mono ?_
  rintro e w4 ⟨rfl, hb4⟩
  have hB4 : Below w.heap.size w w4 := hB3.trans (hb4.mono hB3.size)
  have hk4 := hk3.below hb4 hk3.lt
  clear hB3 hk3 hb4
  have a0 := hk4.cell 0; have a1 := hk4.cell 1; have a2 := hk4.cell 2; simp at a0 a1 a2
  go_wp2_with fail
  refine (exp_any l _ _ _ (x :: r) _ (HX.out.below hB4) hm).mono ?_
  rw [HE2.out]
  rintro e w5 ⟨rfl, hb5⟩
  have hB5 : Below w.heap.size w w5 := hB4.trans (hb5.mono hB4.size)
  have hk5 := hk4.below hb5 hk4.lt
  clear hB4 hk4 hb5 a0 a1 a2
  have a0 := hk5.cell 0; have a1 := hk5.cell 1; have a2 := hk5.cell 2; simp at a0 a1 a2
  have q0 := (hB5.cell hb).trans c0
  have q1 := (hB5.cell hb).trans c1
  have hbr : b < w5.heap.size := Nat.lt_of_lt_of_le hb hB5.size
  cases he : expF (2 * l.free) (2 * l.free) 0 (x :: r) with
  | none =>
    have hlt := HNone.out he
    show _
    simp only [optV]
    clear he
    go_wp2_with fail
    go_quiet (fail)
    go_wp2_with fail
    refine (used_any l _ _ _ (x :: r) _ (HX.out.below (below_drewN hB5 _)) hm).mono ?_
    rw [HE1.out]
    rintro e w6 ⟨rfl, hb6⟩
    have hB6 : Below w.heap.size w w6 := (below_drewN hB5 _).trans (hb6.mono hB5.size)
    have hk6 := (hk5.drewN nq).below hb6 hk5.lt
    have a0 := hk6.cell 0; have a1 := hk6.cell 1; have a2 := hk6.cell 2; simp at a0 a1 a2
    go_wp2_with fail
    go_ret
    exact ⟨rfl, hB6⟩
  | some v =>
    obtain ⟨v0, v1, v2, v3, v4⟩ := HSome.out v he
    simp only [optV]
    have V2 := Lib.hid v2
    have V3 := Lib.hid v3
    have V4 := Lib.hid v4
    clear he v2 v3 v4
    go_wp2_with fail
    go_quiet (fail)
    go_wp2_with fail
    refine (split_any l v _ _ _ (x :: r) _ (HX.out.below (below_drewN hB5 _)) hm).mono ?_
    rw [HE3.out]
    rintro e w6 ⟨rfl, hb6⟩
    have hB6 : Below w.heap.size w w6 := (below_drewN hB5 _).trans (hb6.mono hB5.size)
    have hk6 := (hk5.drewN nq).below hb6 hk5.lt
    clear hB5 hk5 hb6 a0 a1 a2 q0 q1
    have a0 := hk6.cell 0; have a1 := hk6.cell 1; have a2 := hk6.cell 2; simp at a0 a1 a2
    have v2 := V2.out
    have v3 : (usesF (2 * l.free) (x :: r) - usesF (2 * l.free) (cutA v (x :: r)) != 2 * (L - v)) = false := by rw [V3.out]; simp
    have hnf : ¬ v < f := by omega
    have hnl : ¬ L < v := by omega
    by_cases hin : f ≤ at_ ∧ at_ < v
    · obtain ⟨i0, i1⟩ := hin
      have v4 := V4.out at_ i0 i1
      go_wp2_with fail
      refine (split_any l at_ _ _ _ (x :: r) _ (HX.out.below hB6) hm).mono ?_
      rw [HE3.out]
      rintro e w7 ⟨rfl, hb7⟩
      have hB7 : Below w.heap.size w w7 := hB6.trans (hb7.mono hB6.size)
      have hk7 := hk6.below hb7 hk6.lt
      clear a0 a1 a2
      have a0 := hk7.cell 0; have a1 := hk7.cell 1; have a2 := hk7.cell 2; simp at a0 a1 a2
      go_wp2_with fail
      go_ret
      exact ⟨rfl, hB7⟩
    · by_cases i0 : at_ < f
      · clear hin
        go_wp2_with fail
        go_ret
        exact ⟨rfl, hB6⟩
      · have i1 : v ≤ at_ := by omega
        clear hin
        go_wp2_with fail
        go_ret
        exact ⟨rfl, hB6⟩

set_option maxHeartbeats 1000000 in
theorem layStays_walk (l : Lay) (A : Option Addr) (n c : Nat) (xs : List Str) (at_ : Int) (hat : I64 at_) (w : World) (hx : SliceOf w 3 Str.cells A n xs) (hm : n ≤ maxLen) :
    Calls Try.prog 8 #[.agg #[.int .i64 l.free, .int .i64 l.late, .int .i64 l.soon], .slice A n c, .int .i64 at_] w fun e w' => e = .returned (.bool true) ∧ Below w.heap.size w w' := by
  by_cases hall : n ≤ 30 ∧ 1 ≤ n ∧ long xs 300 = false ∧ wr l xs = 0
  · obtain ⟨h1, h2, h3, h4⟩ := hall
    obtain ⟨b, off, rfl, hb, hc⟩ := hx.at_ (by omega)
    cases xs with
    | nil => have := hx.len; simp at this; omega
    | cons x r => exact layStays_ok l b off n c x r at_ hat h4 h3 w hx h1 hb hc
  have HX := Lib.hid hx
  obtain ⟨hB0, hk0⟩ := boxed w l
  have HALL := Lib.hid hall
  clear hall hx
  go_enter Try.func8, Try.ntmps8
  go_wp2_with fail
  refine (awake_any _).mono ?_
  rintro e w1 ⟨rfl, hb1⟩
  have hB1 : Below w.heap.size w w1 := hB0.trans (hb1.mono (by simp))
  have hk1 := hk0.below hb1 hk0.lt
  clear hB0 hk0 hb1
  by_cases hn0 : n < 1
  · have hn' : (n : Int) < 1 := by omega
    go_wp2_with fail
    go_ret
    exact ⟨rfl, hB1⟩
  have hn0' : ¬ (n : Int) < 1 := by omega
  by_cases hn : 30 < n
  · have hn' : (30 : Int) < (n : Int) := by omega
    go_wp2_with fail
    go_ret
    exact ⟨rfl, hB1⟩
  have hn' : ¬ (30 : Int) < (n : Int) := by omega
  go_wp2_with fail
  refine (long_any 300 (by omega) _ _ _ xs _ (HX.out.below hB1) hm).mono ?_
  rintro e w2 ⟨rfl, hb2⟩
  have hB2 : Below w.heap.size w w2 := hB1.trans (hb2.mono hB1.size)
  have hk2 := hk1.below hb2 hk1.lt
  clear hB1 hk1 hb2
  by_cases hlong : long xs 300 = true
  · go_wp2_with fail
    go_ret
    exact ⟨rfl, hB2⟩
  have hlong' : long xs 300 = false := by simpa using hlong
  clear hlong
  have a0 := hk2.cell 0; have a1 := hk2.cell 1; have a2 := hk2.cell 2; simp at a0 a1 a2
  go_wp2_with fail
  refine (rmay_any l _).mono ?_
  rintro e w3 ⟨rfl, hb3⟩
  have hB3 : Below w.heap.size w w3 := hB2.trans (hb3.mono hB2.size)
  clear hk2 hb3 a0 a1 a2 hB2
  by_cases hl : l.may = true
  · have hk : (chk 0 0 xs).2 ≠ 0 := fun h => HALL.out ⟨by omega, by omega, hlong', by unfold wr; rw [if_pos hl]; exact h⟩
    have hk' : ((chk 0 0 xs).2 != 0) = true := by simp [hk]
    clear hk
    go_wp2_with fail
    refine (rcheck_any _ _ _ xs _ (HX.out.below hB3) hm).mono ?_
    rintro e w4 ⟨rfl, hb4⟩
    go_wp2_with fail
    go_ret
    exact ⟨rfl, hB3.trans (hb4.mono hB3.size)⟩
  · have hl' : l.may = false := by simpa using hl
    clear hl
    go_wp2_with fail
    go_ret
    exact ⟨rfl, hB3⟩
end Go.Proofs.Ytfjanoimhkddbaa
