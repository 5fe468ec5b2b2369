/- LayMoney: of any lay and stretches the money, and the hour at which it expires, are what the chapter says, or there is the error. No condition. -/
import Derived.Test.YtfjanoimhkddbaaRexp
import Derived.Test.YtfjanoimhkddbaaLawUsed
namespace Go.Proofs.Ytfjanoimhkddbaa
open Go.RowKit Go.Proofs.Ytfjanoimhkddbaa.kit
set_option linter.unusedVariables false

theorem rexp_any (l : Lay) (A : Option Addr) (n c : Nat) (xs : List Str) (hw : wr l xs = 0) (w : World) (hx : SliceOf w 3 Str.cells A n xs) :
    Calls Try.prog 24 #[.agg #[.int .i64 l.free, .int .i64 l.late, .int .i64 l.soon], .slice A n c] w fun e w' => e = .returned (.tuple #[.int .i64 (expV l xs).1, .bool (expV l xs).2]) ∧ Below w.heap.size w w' := by
  have e : expV l xs = optV (expF (2 * l.free) (2 * l.free) 0 xs) := by unfold expV; rw [if_pos hw]
  rw [e]
  cases xs with
  | nil =>
    obtain rfl : n = 0 := by rw [← hx.len]; rfl
    have e : optV (expF (2 * l.free) (2 * l.free) 0 []) = (0, false) := rfl
    rw [e]
    clear e hw hx
    go_enter Try.func24, Try.ntmps24
    go_wp2_with fail
    go_ret2
    exact ⟨rfl, (Below.refl _ _).alloc (Nat.le_refl _) _⟩
  | cons x r => exact rexp_ok l A n c x r hw w hx

set_option maxHeartbeats 1000000 in
theorem layMoney_walk (l : Lay) (A : Option Addr) (n c : Nat) (xs : List Str) (w : World) (hx : SliceOf w 3 Str.cells A n xs) (hm : n ≤ maxLen) :
    Calls Try.prog 5 #[.agg #[.int .i64 l.free, .int .i64 l.late, .int .i64 l.soon], .slice A n c] w fun e w' => e = .returned (.bool true) ∧ Below w.heap.size w w' := by
  have HX := Lib.hid hx
  have hB0 : Below w.heap.size w (w.alloc (.cells #[.int .i64 l.free, .int .i64 l.late, .int .i64 l.soon] 23)) := (Below.refl _ _).alloc (Nat.le_refl _) _
  have hk0 : Blk (w.alloc (.cells #[.int .i64 l.free, .int .i64 l.late, .int .i64 l.soon] 23)) w.heap.size 23 #[.int .i64 l.free, .int .i64 l.late, .int .i64 l.soon] := Blk.new _ _ _
  go_enter Try.func5, Try.ntmps5
  go_wp2_with fail
  refine (awake_any _).mono ?_
  rintro e w1 ⟨rfl, hb1⟩
  have hB1 : Below w.heap.size w w1 := hB0.trans (hb1.mono (by simp))
  have hk1 := hk0.below hb1 hk0.lt
  clear hB0 hk0 hb1
  by_cases hn : 30 < n
  · have hn' : (30 : Int) < (n : Int) := by omega
    go_wp2_with fail
    go_ret
    exact ⟨rfl, hB1⟩
  have hn' : ¬ (30 : Int) < (n : Int) := by omega
  go_wp2_with fail
  refine (long_any 150 (by omega) _ _ _ xs _ (HX.out.below hB1) hm).mono ?_
  rintro e w2 ⟨rfl, hb2⟩
  have hB2 : Below w.heap.size w w2 := hB1.trans (hb2.mono hB1.size)
  have hk2 := hk1.below hb2 hk1.lt
  clear hB1 hk1 hb2
  by_cases hlong : long xs 150 = true
  · go_wp2_with fail
    go_ret
    exact ⟨rfl, hB2⟩
  have hlong' : long xs 150 = false := by simpa using hlong
  clear hlong
  have a0 := hk2.cell 0; have a1 := hk2.cell 1; have a2 := hk2.cell 2; simp at a0 a1 a2
  go_wp2_with fail
  refine (money_any l _ _ _ xs _ (HX.out.below hB2) hm).mono ?_
  rintro e w3 ⟨rfl, hb3⟩
  have hB3 : Below w.heap.size w w3 := hB2.trans (hb3.mono hB2.size)
  have hk3 := hk2.below hb3 hk2.lt
  clear hB2 hk2 hb3 a0 a1 a2
  have a0 := hk3.cell 0; have a1 := hk3.cell 1; have a2 := hk3.cell 2; simp at a0 a1 a2
  go_wp2_with fail
  refine (exp_any l _ _ _ xs _ (HX.out.below hB3) hm).mono ?_
  rintro e w4 ⟨rfl, hb4⟩
  have hB4 : Below w.heap.size w w4 := hB3.trans (hb4.mono hB3.size)
  have hk4 := hk3.below hb4 hk3.lt
  clear hB3 hk3 hb4 a0 a1 a2
  go_wp2_with fail
  refine (rcheck_any _ _ _ xs _ (HX.out.below hB4) hm).mono ?_
  rintro e w5 ⟨rfl, hb5⟩
  have hB5 : Below w.heap.size w w5 := hB4.trans (hb5.mono hB4.size)
  have hk5 := hk4.below hb5 hk4.lt
  clear hB4 hk4 hb5
  have a0 := hk5.cell 0; have a1 := hk5.cell 1; have a2 := hk5.cell 2; simp at a0 a1 a2
  go_wp2_with fail
  refine (rmay_any l _).mono ?_
  rintro e w6 ⟨rfl, hb6⟩
  have hB6 : Below w.heap.size w w6 := hB5.trans (hb6.mono hB5.size)
  have hk6 := hk5.below hb6 hk5.lt
  clear hB5 hk5 hb6 a0 a1 a2
  by_cases hl : l.may = true
  · by_cases hk : (chk 0 0 xs).2 = 0
    · have hw : wr l xs = 0 := by unfold wr; rw [if_pos hl]; exact hk
      have hn4 : n ≤ 4096 := by rw [← hx.len]; exact chk_len hk
      have hk' : ((chk 0 0 xs).2 != 0) = false := by simp [hk]
      obtain ⟨u0, u1⟩ := usesF_top hk (2 * l.free)
      have e1 : moneyV l xs = if (rsumOf l (usesF (2 * l.free) xs)).2 = true then ((rsumOf l (usesF (2 * l.free) xs)).1, 0) else (0, 3) := by
        unfold moneyV; rw [if_pos hw]; exact money_same l _ hl u0 u1
      have HR : Hid (∀ w', SliceOf w' 3 Str.cells A n xs → _) := fun w' hs => rmoney_ok l A n c xs hw w' hs
      have HE : Hid (∀ w', SliceOf w' 3 Str.cells A n xs → _) := fun w' hs => rexp_any l A n c xs hw w' hs
      have HM := Lib.hid e1
      clear hw hk hx e1 u0 u1
      generalize rsumOf l (usesF (2 * l.free) xs) = rs at *
      generalize expV l xs = ev at *
      have a0 := hk6.cell 0; have a1 := hk6.cell 1; have a2 := hk6.cell 2; simp at a0 a1 a2
      go_wp2_with fail
      refine (HR.out _ (HX.out.below hB6)).mono ?_
      rintro e w7 ⟨rfl, hb7⟩
      have hB7 : Below w.heap.size w w7 := hB6.trans (hb7.mono hB6.size)
      have hk7 := hk6.below hb7 hk6.lt
      clear hB6 hk6 hb7 a0 a1 a2
      have a0 := hk7.cell 0; have a1 := hk7.cell 1; have a2 := hk7.cell 2; simp at a0 a1 a2
      go_wp2_with fail
      refine (HE.out _ (HX.out.below hB7)).mono ?_
      rintro e w8 ⟨rfl, hb8⟩
      have hB8 : Below w.heap.size w w8 := hB7.trans (hb8.mono hB7.size)
      clear hk7 hb8 a0 a1 a2 hB7
      rcases rs with ⟨rn, rf⟩
      cases rf
      · have hm3 : moneyV l xs = (0, 3) := HM.out
        clear HM HR HE
        rw [hm3]
        go_wp2_with fail
        go_ret
        exact ⟨rfl, hB8⟩
      · have hm3 : moneyV l xs = (rn, 0) := HM.out
        clear HM HR HE
        rw [hm3]
        go_wp2_with fail
        go_ret
        exact ⟨rfl, hB8⟩
    · have hw : wr l xs = (chk 0 0 xs).2 := by unfold wr; rw [if_pos hl]
      have e1 : moneyV l xs = (0, (chk 0 0 xs).2) := by unfold moneyV; rw [hw, if_neg hk]
      have e2 : expV l xs = (0, false) := by unfold expV; rw [hw, if_neg hk]
      have hk' : ((chk 0 0 xs).2 != 0) = true := by simp [hk]
      rw [e1, e2]
      clear e1 e2 hk hx hw
      go_wp2_with fail
      go_ret
      exact ⟨rfl, hB6⟩
  · have hl' : l.may = false := by simpa using hl
    have hw : wr l xs = 1 := by unfold wr; rw [if_neg hl]
    have e1 : moneyV l xs = (0, 1) := by unfold moneyV; rw [hw]; rfl
    have e2 : expV l xs = (0, false) := by unfold expV; rw [hw]; rfl
    rw [e1, e2]
    clear hl e1 e2 hx hw
    go_wp2_with fail
    go_ret
    exact ⟨rfl, hB6⟩
end Go.Proofs.Ytfjanoimhkddbaa
