/- Split, by the program; LaySplits: split at any hour, what the hours ahead use, and what the others add, are what the chapter says, and add up to all. No condition. -/
import Derived.Test.YtlicmhgpldmliaaCutRef
import Derived.Test.YtlicmhgpldmliaaPlain3
namespace Go.Proofs.Ytlicmhgpldmliaa
open Go.RowKit Go.Proofs.Ytlicmhgpldmliaa.kit
set_option linter.unusedVariables false

theorem boxed (w : World) (l : Lay) : Below w.heap.size w (w.alloc (.cells #[.int .i64 l.free, .int .i64 l.late, .int .i64 l.soon] 73)) ∧ Blk (w.alloc (.cells #[.int .i64 l.free, .int .i64 l.late, .int .i64 l.soon] 73)) w.heap.size 73 #[.int .i64 l.free, .int .i64 l.late, .int .i64 l.soon] :=
  ⟨(Below.refl _ _).alloc (Nat.le_refl _) _, Blk.new _ _ _⟩
theorem ret_triple {k k' k'' : IntKind} {a b c a' b' c' : Int} (h : a = a' ∧ b = b' ∧ c = c') : Ending.returned (.tuple #[.int k a, .int k' b, .int k'' c]) = .returned (.tuple #[.int k a', .int k' b', .int k'' c']) := by obtain ⟨rfl, rfl, rfl⟩ := h; rfl

def splitV (l : Lay) (at_ : Int) (xs : List Str) : Int × Int × Int :=
  if wr l xs = 0 then (usesF (2 * l.free) (cutA at_ xs), usesF (2 * l.free) xs - usesF (2 * l.free) (cutA at_ xs), 0) else (0, 0, wr l xs)

set_option maxHeartbeats 1000000 in
theorem split_any (l : Lay) (at_ : Int) (A : Option Addr) (n c : Nat) (xs : List Str) (w : World) (hx : SliceOf w 3 Str.cells A n xs) (hm : n ≤ maxLen) :
    Calls Try.prog 24 #[.agg #[.int .i64 l.free, .int .i64 l.late, .int .i64 l.soon], .int .i64 at_, .slice A n c] w fun e w' => e = .returned (.tuple #[.int .i64 (splitV l at_ xs).1, .int .i64 (splitV l at_ xs).2.1, .int .i64 (splitV l at_ xs).2.2]) ∧ Below w.heap.size w w' := by
  have HX := Lib.hid hx
  obtain ⟨hB0, hk0⟩ := boxed w l
  by_cases hw : wr l xs = 0
  · obtain ⟨hl, hk⟩ := wr_ok hw
    have hf : 0 ≤ l.free := by simp [Lay.may] at hl; omega
    have e1 : usedV l xs = (usesF (2 * l.free) xs, 0) := by unfold usedV; rw [if_pos hw]
    have e2 : splitV l at_ xs = (usesF (2 * l.free) (cutA at_ xs), usesF (2 * l.free) xs - usesF (2 * l.free) (cutA at_ xs), 0) := by unfold splitV; rw [if_pos hw]
    obtain ⟨u0, u1⟩ := usesF_top hk (2 * l.free)
    have hr := (chk_ok xs 0 0 hk).1
    obtain ⟨u2, u3⟩ := (usesF_cut (F := 2 * l.free) (by omega) at_ xs hr).2
    have HR := Lib.hid (cutA_right at_ xs hr)
    have hlen := chk_len hk
    have hn4 : n ≤ 4096 := by rw [← hx.len]; exact hlen
    have hcl := (cut_len at_ xs).1
    have HL := Lib.hid hl
    rw [e2]
    clear hl hk e2 hr hx
    go_enter Try.func24, Try.ntmps24
    go_wp2_with fail
    refine (used_any l _ _ _ xs _ (HX.out.below hB0) hm).mono ?_
    rw [e1]
    rintro e w1 ⟨rfl, hb1⟩
    clear e1 hw
    have hB1 := hB0.trans (hb1.mono hB0.size)
    have hk1 := hk0.below hb1 hk0.lt
    go_wp2_with fail
    refine (cut_any at_ _ _ _ xs _ (HX.out.below hB1) hn4).mono ?_
    rintro e w2 ⟨A', a, B', b, rfl, hs1, hs2, hb2⟩
    have hB2 := hB1.trans (hb2.mono hB1.size)
    have hk2 := hk1.below hb2 hk1.lt
    have H1 := Lib.hid hs1
    clear hs1 hs2
    have a0 := hk2.cell 0; have a1 := hk2.cell 1; have a2 := hk2.cell 2; simp at a0 a1 a2
    go_wp2_with fail
    refine (uses_any l HL.out _ _ _ (cutA at_ xs) _ H1.out (by omega) HR.out).mono ?_
    rintro e w3 ⟨rfl, hb3⟩
    go_wp2_with fail
    go_ret3
    exact ⟨rfl, hB2.trans (hb3.mono hB2.size)⟩
  · have e1 : usedV l xs = (0, wr l xs) := by unfold usedV; rw [if_neg hw]
    have e2 : splitV l at_ xs = (0, 0, wr l xs) := by unfold splitV; rw [if_neg hw]
    have hw' : (wr l xs != 0) = true := by simp [hw]
    rw [e2]
    clear e2 hw hx
    go_enter Try.func24, Try.ntmps24
    go_wp2_with fail
    refine (used_any l _ _ _ xs _ (HX.out.below hB0) hm).mono ?_
    rw [e1]
    rintro e w1 ⟨rfl, hb1⟩
    go_wp2_with fail
    go_ret3
    exact ⟨rfl, hB0.trans (hb1.mono hB0.size)⟩

end Go.Proofs.Ytlicmhgpldmliaa
