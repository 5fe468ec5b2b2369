/- Split, by the program; LaySplits: split at any hour, what the hours ahead use, and what the others add, are what the chapter says, and add up to all. No condition. -/
import Derived.Test.YtfjanoimhkddbaaCutRef
import Derived.Test.YtfjanoimhkddbaaPlain3
import Derived.Test.YtfjanoimhkddbaaLawUsed
namespace Go.Proofs.Ytfjanoimhkddbaa
open Go.RowKit Go.Proofs.Ytfjanoimhkddbaa.kit
set_option linter.unusedVariables false

theorem boxed (w : World) (l : Lay) : Below w.heap.size w (w.alloc (.cells #[.int .i64 l.free, .int .i64 l.late, .int .i64 l.soon] 23)) ∧ Blk (w.alloc (.cells #[.int .i64 l.free, .int .i64 l.late, .int .i64 l.soon] 23)) w.heap.size 23 #[.int .i64 l.free, .int .i64 l.late, .int .i64 l.soon] :=
  ⟨(Below.refl _ _).alloc (Nat.le_refl _) _, Blk.new _ _ _⟩
theorem ret_triple {k k' k'' : IntKind} {a b c a' b' c' : Int} (h : a = a' ∧ b = b' ∧ c = c') : Ending.returned (.tuple #[.int k a, .int k' b, .int k'' c]) = .returned (.tuple #[.int k a', .int k' b', .int k'' c']) := by obtain ⟨rfl, rfl, rfl⟩ := h; rfl

def splitV (l : Lay) (at_ : Int) (xs : List Str) : Int × Int × Int :=
  if wr l xs = 0 then (usesF (2 * l.free) (cutA at_ xs), usesF (2 * l.free) xs - usesF (2 * l.free) (cutA at_ xs), 0) else (0, 0, wr l xs)

set_option maxHeartbeats 1000000 in
theorem split_any (l : Lay) (at_ : Int) (A : Option Addr) (n c : Nat) (xs : List Str) (w : World) (hx : SliceOf w 3 Str.cells A n xs) (hm : n ≤ maxLen) :
    Calls Try.prog 25 #[.agg #[.int .i64 l.free, .int .i64 l.late, .int .i64 l.soon], .int .i64 at_, .slice A n c] w fun e w' => e = .returned (.tuple #[.int .i64 (splitV l at_ xs).1, .int .i64 (splitV l at_ xs).2.1, .int .i64 (splitV l at_ xs).2.2]) ∧ Below w.heap.size w w' := by
  have HX := Lib.hid hx
  obtain ⟨hB0, hk0⟩ := boxed w l
  by_cases hw : wr l xs = 0
  · obtain ⟨hl, hk⟩ := wr_ok hw
    have hf : 0 ≤ l.free := by simp [Lay.may] at hl; omega
    have e1 : usedV l xs = (usesF (2 * l.free) xs, 0) := by unfold usedV; rw [if_pos hw]
    have e2 : splitV l at_ xs = (usesF (2 * l.free) (cutA at_ xs), usesF (2 * l.free) xs - usesF (2 * l.free) (cutA at_ xs), 0) := by unfold splitV; rw [if_pos hw]
    obtain ⟨u0, u1⟩ := usesF_top hk (2 * l.free)
    have hr := (chk_ok xs 0 0 hk).1
    obtain ⟨u2, u3⟩ := (usesF_cut (F := 2 * l.free) (by omega) at_ xs hr).2
    have HR := Lib.hid (cutA_right at_ xs hr)
    have hlen := chk_len hk
    have hn4 : n ≤ 4096 := by rw [← hx.len]; exact hlen
    have hcl := (cut_len at_ xs).1
    have HL := Lib.hid hl
    rw [e2]
    clear hl hk e2 hr hx
    go_enter Try.func25, Try.ntmps25
    go_wp2_with fail
    refine (used_any l _ _ _ xs _ (HX.out.below hB0) hm).mono ?_
    rw [e1]
    rintro e w1 ⟨rfl, hb1⟩
    clear e1 hw
    have hB1 := hB0.trans (hb1.mono hB0.size)
    have hk1 := hk0.below hb1 hk0.lt
    go_wp2_with fail
    refine (cut_any at_ _ _ _ xs _ (HX.out.below hB1) hn4).mono ?_
    rintro e w2 ⟨A', a, B', b, rfl, hs1, hs2, hb2⟩
    have hB2 := hB1.trans (hb2.mono hB1.size)
    have hk2 := hk1.below hb2 hk1.lt
    have H1 := Lib.hid hs1
    clear hs1 hs2
    have a0 := hk2.cell 0; have a1 := hk2.cell 1; have a2 := hk2.cell 2; simp at a0 a1 a2
    go_wp2_with fail
    refine (uses_any l HL.out _ _ _ (cutA at_ xs) _ H1.out (by omega) HR.out).mono ?_
    rintro e w3 ⟨rfl, hb3⟩
    go_wp2_with fail
    go_ret3
    exact ⟨rfl, hB2.trans (hb3.mono hB2.size)⟩
  · have e1 : usedV l xs = (0, wr l xs) := by unfold usedV; rw [if_neg hw]
    have e2 : splitV l at_ xs = (0, 0, wr l xs) := by unfold splitV; rw [if_neg hw]
    have hw' : (wr l xs != 0) = true := by simp [hw]
    rw [e2]
    clear e2 hw hx
    go_enter Try.func25, Try.ntmps25
    go_wp2_with fail
    refine (used_any l _ _ _ xs _ (HX.out.below hB0) hm).mono ?_
    rw [e1]
    rintro e w1 ⟨rfl, hb1⟩
    go_wp2_with fail
    go_ret3
    exact ⟨rfl, hB0.trans (hb1.mono hB0.size)⟩

set_option maxHeartbeats 1000000 in
theorem laySplits_walk (l : Lay) (at_ : Int) (hat : I64 at_) (A : Option Addr) (n c : Nat) (xs : List Str) (w : World) (hx : SliceOf w 3 Str.cells A n xs) (hm : n ≤ maxLen) :
    Calls Try.prog 7 #[.agg #[.int .i64 l.free, .int .i64 l.late, .int .i64 l.soon], .int .i64 at_, .slice A n c] w fun e w' => e = .returned (.bool true) ∧ Below w.heap.size w w' := by
  have HX := Lib.hid hx
  obtain ⟨hB0, hk0⟩ := boxed w l
  go_enter Try.func7, Try.ntmps7
  go_wp2_with fail
  refine (awake_any _).mono ?_
  rintro e w1 ⟨rfl, hb1⟩
  have hB1 : Below w.heap.size w w1 := hB0.trans (hb1.mono (by simp))
  have hk1 := hk0.below hb1 hk0.lt
  clear hB0 hk0 hb1
  by_cases hn : 30 < n
  · have hn' : (30 : Int) < (n : Int) := by omega
    go_wp2_with fail
    go_ret
    exact ⟨rfl, hB1⟩
  have hn' : ¬ (30 : Int) < (n : Int) := by omega
  go_wp2_with fail
  refine (long_any 2000 (by omega) _ _ _ xs _ (HX.out.below hB1) hm).mono ?_
  rintro e w2 ⟨rfl, hb2⟩
  have hB2 : Below w.heap.size w w2 := hB1.trans (hb2.mono hB1.size)
  have hk2 := hk1.below hb2 hk1.lt
  clear hB1 hk1 hb2
  by_cases hlong : long xs 2000 = true
  · go_wp2_with fail
    go_ret
    exact ⟨rfl, hB2⟩
  have hlong' : long xs 2000 = false := by simpa using hlong
  clear hlong
  have a0 := hk2.cell 0; have a1 := hk2.cell 1; have a2 := hk2.cell 2; simp at a0 a1 a2
  by_cases hw : wr l xs = 0
  · obtain ⟨hl, hk⟩ := wr_ok hw
    have hf : 0 ≤ l.free := by simp [Lay.may] at hl; omega
    have e1 : usedV l xs = (usesF (2 * l.free) xs, 0) := by unfold usedV; rw [if_pos hw]
    have e2 : splitV l at_ xs = (usesF (2 * l.free) (cutA at_ xs), usesF (2 * l.free) xs - usesF (2 * l.free) (cutA at_ xs), 0) := by unfold splitV; rw [if_pos hw]
    obtain ⟨u0, u1⟩ := usesF_top hk (2 * l.free)
    have hr := (chk_ok xs 0 0 hk).1
    obtain ⟨u4, u2, u3⟩ := usesF_cut (F := 2 * l.free) (by omega) at_ xs hr
    have hn4 : n ≤ 4096 := by omega
    have HU : Hid (∀ w', SliceOf w' 3 Str.cells A n xs → Calls Try.prog 16 #[.agg #[.int .i64 l.free, .int .i64 l.late, .int .i64 l.soon], .slice A n c, .int .i64 at_] w' fun e w'' => e = .returned (.int .i64 (usesF (2 * l.free) (cutA at_ xs))) ∧ Below w'.heap.size w' w'') := fun w' hs => by
      have := rused_any l hl at_ hat A n c xs w' hs hn4 hr
      rw [← u4] at this
      exact this
    have HS := Lib.hid e2
    have H1 := Lib.hid e1
    clear hl hk e2 hr hx e1 u4
    generalize usesF (2 * l.free) (cutA at_ xs) = a at *
    generalize usesF (2 * l.free) xs = U at *
    go_wp2_with fail
    refine (split_any l at_ _ _ _ xs _ (HX.out.below hB2) hm).mono ?_
    rw [HS.out]
    rintro e w3 ⟨rfl, hb3⟩
    have hB3 : Below w.heap.size w w3 := hB2.trans (hb3.mono hB2.size)
    have hk3 := hk2.below hb3 hk2.lt
    clear hB2 hk2 hb3 a0 a1 a2
    have a0 := hk3.cell 0; have a1 := hk3.cell 1; have a2 := hk3.cell 2; simp at a0 a1 a2
    go_wp2_with fail
    refine (used_any l _ _ _ xs _ (HX.out.below hB3) hm).mono ?_
    rw [H1.out]
    rintro e w4 ⟨rfl, hb4⟩
    have hB4 : Below w.heap.size w w4 := hB3.trans (hb4.mono hB3.size)
    have hk4 := hk3.below hb4 hk3.lt
    clear hB3 hk3 hb4 a0 a1 a2
    have a0 := hk4.cell 0; have a1 := hk4.cell 1; have a2 := hk4.cell 2; simp at a0 a1 a2
    have hsum : a + (U - a) = U := by omega
    have hsub : 0 ≤ U - a := by omega
    have HSU := Lib.hid hsum
    clear hsum
    go_wp2_with fail
    refine (HU.out _ (HX.out.below hB4)).mono ?_
    rintro e w5 ⟨rfl, hb5⟩
    have hfin : ((a + (U - a)) == U) = true := by simp; omega
    go_wp2_with fail
    go_ret
    exact ⟨rfl, hB4.trans (hb5.mono hB4.size)⟩
  · have e1 : usedV l xs = (0, wr l xs) := by unfold usedV; rw [if_neg hw]
    have e2 : splitV l at_ xs = (0, 0, wr l xs) := by unfold splitV; rw [if_neg hw]
    have hw' : (wr l xs != 0) = true := by simp [hw]
    clear hw hx
    go_wp2_with fail
    refine (split_any l at_ _ _ _ xs _ (HX.out.below hB2) hm).mono ?_
    rw [e2]
    rintro e w3 ⟨rfl, hb3⟩
    have hB3 : Below w.heap.size w w3 := hB2.trans (hb3.mono hB2.size)
    have hk3 := hk2.below hb3 hk2.lt
    clear hB2 hk2 hb3 a0 a1 a2
    have a0 := hk3.cell 0; have a1 := hk3.cell 1; have a2 := hk3.cell 2; simp at a0 a1 a2
    go_wp2_with fail
    refine (used_any l _ _ _ xs _ (HX.out.below hB3) hm).mono ?_
    rw [e1]
    rintro e w4 ⟨rfl, hb4⟩
    clear e1 e2
    go_wp2_with fail
    go_ret
    exact ⟨rfl, hB3.trans (hb4.mono hB3.size)⟩
end Go.Proofs.Ytfjanoimhkddbaa
