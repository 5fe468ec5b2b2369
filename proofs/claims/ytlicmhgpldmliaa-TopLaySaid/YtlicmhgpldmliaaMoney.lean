/- What a lay costs or brings, by the program and by the reference; the reference's hour of expiry. No condition. -/
import Derived.Test.YtlicmhgpldmliaaPlain2
import Derived.Test.YtlicmhgpldmliaaPlain3
namespace Go.Proofs.Ytlicmhgpldmliaa
open Go.RowKit Go.Proofs.Ytlicmhgpldmliaa.kit
set_option linter.unusedVariables false

/-- The money of so much used. -/
def sumOf (l : Lay) (U : Int) : Int := if 2 * l.free < U then (l.late * (U - 2 * l.free) + 1) / 2 else -(l.soon * -(U - 2 * l.free) / 2)
def moneyOf (l : Lay) (U : Int) : Int × Int := if sumOf l U > 1099511627776 ∨ sumOf l U < -1099511627776 then (0, 3) else (sumOf l U, 0)
def moneyV (l : Lay) (xs : List Str) : Int × Int := if wr l xs = 0 then moneyOf l (usesF (2 * l.free) xs) else (0, wr l xs)

theorem prod_bd {a b : Int} (h0 : 0 ≤ a) (h1 : a ≤ 1099511627776) (h2 : 0 ≤ b) (h3 : b ≤ 2097152) : 0 ≤ a * b ∧ a * b ≤ 2305843009213693952 := by
  refine ⟨Int.mul_nonneg h0 h2, ?_⟩
  have := Int.mul_le_mul h1 h3 h2 (by omega : (0 : Int) ≤ 1099511627776)
  omega

set_option maxHeartbeats 1000000 in
theorem money_any (l : Lay) (A : Option Addr) (n c : Nat) (xs : List Str) (w : World) (hx : SliceOf w 3 Str.cells A n xs) (hm : n ≤ maxLen) :
    Calls Try.prog 27 #[.agg #[.int .i64 l.free, .int .i64 l.late, .int .i64 l.soon], .slice A n c] w fun e w' => e = .returned (.tuple #[.int .i64 (moneyV l xs).1, .int .i64 (moneyV l xs).2]) ∧ Below w.heap.size w w' := by
  have HX := Lib.hid hx
  clear hx
  have hB0 : Below w.heap.size w (w.alloc (.cells #[.int .i64 l.free, .int .i64 l.late, .int .i64 l.soon] 73)) := (Below.refl _ _).alloc (Nat.le_refl _) _
  have hk0 : Blk (w.alloc (.cells #[.int .i64 l.free, .int .i64 l.late, .int .i64 l.soon] 73)) w.heap.size 73 #[.int .i64 l.free, .int .i64 l.late, .int .i64 l.soon] := Blk.new _ _ _
  by_cases hw : wr l xs = 0
  · obtain ⟨hl, hk⟩ := wr_ok hw
    have hf : 0 ≤ l.free ∧ l.free ≤ 1048576 ∧ 0 ≤ l.late ∧ l.late ≤ 1099511627776 ∧ 0 ≤ l.soon ∧ l.soon ≤ 1099511627776 := by simp [Lay.may] at hl; omega
    obtain ⟨f0, f1, f2, f3, f4, f5⟩ := hf
    have e1 : usedV l xs = (usesF (2 * l.free) xs, 0) := by unfold usedV; rw [if_pos hw]
    have e2 : moneyV l xs = moneyOf l (usesF (2 * l.free) xs) := by unfold moneyV; rw [if_pos hw]
    obtain ⟨u0, u1⟩ := usesF_top hk (2 * l.free)
    rw [e2]
    have hU : ∀ w', SliceOf w' 3 Str.cells A n xs → Calls Try.prog 25 #[.agg #[.int .i64 l.free, .int .i64 l.late, .int .i64 l.soon], .slice A n c] w' fun e w'' => e = .returned (.tuple #[.int .i64 (usesF (2 * l.free) xs), .int .i64 0]) ∧ Below w'.heap.size w' w'' := fun w' h => by
      have := used_any l A n c xs w' h hm
      rw [e1] at this
      exact this
    have HU := Lib.hid hU
    clear hl hw hk e1 e2 hU
    generalize usesF (2 * l.free) xs = U at *
    by_cases hmore : 2 * l.free < U
    · obtain ⟨m0, m1⟩ := prod_bd f2 f3 (show 0 ≤ U - 2 * l.free by omega) (by omega)
      have es : sumOf l U = (l.late * (U - 2 * l.free) + 1) / 2 := by unfold sumOf; rw [if_pos hmore]
      by_cases hbig : (l.late * (U - 2 * l.free) + 1) / 2 > 1099511627776
      · have e : moneyOf l U = (0, 3) := by unfold moneyOf; rw [es, if_pos (.inl hbig)]
        rw [e]
        clear es e
        go_enter Try.func27, Try.ntmps27
        go_wp2_with (go_at_call 25; refine (HU.out _ (HX.out.below hB0)).mono ?_; rintro e w1 ⟨rfl, hb1⟩; have hk1 := hk0.below hb1 hk0.lt; have a0 := hk1.cell 0; have a1 := hk1.cell 1; have a2 := hk1.cell 2; simp at a0 a1 a2)
        go_ret2
        exact ⟨rfl, hB0.trans (hb1.mono hB0.size)⟩
      · have e : moneyOf l U = ((l.late * (U - 2 * l.free) + 1) / 2, 0) := by unfold moneyOf; rw [es, if_neg (by omega)]
        rw [e]
        clear es e
        go_enter Try.func27, Try.ntmps27
        go_wp2_with (go_at_call 25; refine (HU.out _ (HX.out.below hB0)).mono ?_; rintro e w1 ⟨rfl, hb1⟩; have hk1 := hk0.below hb1 hk0.lt; have a0 := hk1.cell 0; have a1 := hk1.cell 1; have a2 := hk1.cell 2; simp at a0 a1 a2)
        go_ret2
        exact ⟨rfl, hB0.trans (hb1.mono hB0.size)⟩
    · obtain ⟨m0, m1⟩ := prod_bd f4 f5 (show 0 ≤ -(U - 2 * l.free) by omega) (by omega)
      have es : sumOf l U = -(l.soon * -(U - 2 * l.free) / 2) := by unfold sumOf; rw [if_neg hmore]
      by_cases hbig : -(l.soon * -(U - 2 * l.free) / 2) < -1099511627776
      · have e : moneyOf l U = (0, 3) := by unfold moneyOf; rw [es, if_pos (.inr hbig)]
        rw [e]
        clear es e
        go_enter Try.func27, Try.ntmps27
        go_wp2_with (go_at_call 25; refine (HU.out _ (HX.out.below hB0)).mono ?_; rintro e w1 ⟨rfl, hb1⟩; have hk1 := hk0.below hb1 hk0.lt; have a0 := hk1.cell 0; have a1 := hk1.cell 1; have a2 := hk1.cell 2; simp at a0 a1 a2)

        go_ret2
        exact ⟨rfl, hB0.trans (hb1.mono hB0.size)⟩
      · have e : moneyOf l U = (-(l.soon * -(U - 2 * l.free) / 2), 0) := by unfold moneyOf; rw [es, if_neg (by omega)]
        rw [e]
        clear es e
        go_enter Try.func27, Try.ntmps27
        go_wp2_with (go_at_call 25; refine (HU.out _ (HX.out.below hB0)).mono ?_; rintro e w1 ⟨rfl, hb1⟩; have hk1 := hk0.below hb1 hk0.lt; have a0 := hk1.cell 0; have a1 := hk1.cell 1; have a2 := hk1.cell 2; simp at a0 a1 a2)
        go_ret2
        exact ⟨rfl, hB0.trans (hb1.mono hB0.size)⟩
  · have e1 : usedV l xs = (0, wr l xs) := by unfold usedV; rw [if_neg hw]
    have e2 : moneyV l xs = (0, wr l xs) := by unfold moneyV; rw [if_neg hw]
    have hw' : (wr l xs != 0) = true := by simp [hw]
    rw [e2]
    clear e2 hw
    go_enter Try.func27, Try.ntmps27
    go_wp2_with (go_at_call 25; refine (used_any l _ _ _ xs _ (HX.out.below hB0) hm).mono ?_; rw [e1]; rintro e w1 ⟨rfl, hb1⟩)
    go_ret2
    exact ⟨rfl, hB0.trans (hb1.mono hB0.size)⟩

/-- The reference's money. -/
def rsumOf (l : Lay) (U : Int) : Int × Bool :=
  if 0 ≤ U - 2 * l.free then ((l.late * (U - 2 * l.free) + 1) / 2, decide ((l.late * (U - 2 * l.free) + 1) / 2 ≤ 1099511627776))
  else (-(l.soon * -(U - 2 * l.free) / 2), decide (l.soon * -(U - 2 * l.free) / 2 ≤ 1099511627776))
theorem money_same (l : Lay) (U : Int) (hl : l.may = true) (h0 : 0 ≤ U) (h1 : U ≤ 2097152) : moneyOf l U = if (rsumOf l U).2 = true then ((rsumOf l U).1, 0) else (0, 3) := by
  have hf : 0 ≤ l.free ∧ l.free ≤ 1048576 ∧ 0 ≤ l.late ∧ l.late ≤ 1099511627776 ∧ 0 ≤ l.soon ∧ l.soon ≤ 1099511627776 := by simp [Lay.may] at hl; omega
  obtain ⟨f0, f1, f2, f3, f4, f5⟩ := hf
  have fin : ∀ q : Int, -1099511627776 ≤ q → sumOf l U = q → rsumOf l U = (q, decide (q ≤ 1099511627776)) → moneyOf l U = if (rsumOf l U).2 = true then ((rsumOf l U).1, 0) else (0, 3) := by
    intro q h0 h1 h2
    rw [moneyOf, h1, h2]
    by_cases h : q ≤ 1099511627776
    · rw [if_neg (by omega), if_pos (by simpa using h)]
    · rw [if_pos (by omega), if_neg (by simpa using h)]
  have fin2 : ∀ q : Int, 0 ≤ q → sumOf l U = -q → rsumOf l U = (-q, decide (q ≤ 1099511627776)) → moneyOf l U = if (rsumOf l U).2 = true then ((rsumOf l U).1, 0) else (0, 3) := by
    intro q h0 h1 h2
    rw [moneyOf, h1, h2]
    by_cases h : q ≤ 1099511627776
    · rw [if_neg (by omega), if_pos (by simpa using h)]
    · rw [if_pos (by omega), if_neg (by simpa using h)]
  rcases Int.lt_trichotomy (2 * l.free) U with h | h | h
  · obtain ⟨m0, m1⟩ := prod_bd f2 f3 (show 0 ≤ U - 2 * l.free by omega) (by omega)
    exact fin ((l.late * (U - 2 * l.free) + 1) / 2) (by omega) (by unfold sumOf; rw [if_pos h]) (by unfold rsumOf; rw [if_pos (by omega)])
  · have e : U - 2 * l.free = 0 := by omega
    exact fin 0 (by omega) (by unfold sumOf; rw [if_neg (by omega), e]; simp) (by unfold rsumOf; rw [if_pos (by omega), e]; simp)
  · obtain ⟨m0, m1⟩ := prod_bd f4 f5 (show 0 ≤ -(U - 2 * l.free) by omega) (by omega)
    exact fin2 (l.soon * -(U - 2 * l.free) / 2) (by omega) (by unfold sumOf; rw [if_neg (by omega)]) (by unfold rsumOf; rw [if_neg (by omega)])

theorem read_plain {l : Lay} {xs : List Str} (h : wr l xs = 0) : rused (2 * l.free) 1048577 xs 0 = usesF (2 * l.free) xs := by
  obtain ⟨hl, hk⟩ := wr_ok h
  have hf : 0 ≤ l.free := by simp [Lay.may] at hl; omega
  have hr := (chk_ok xs 0 0 hk).1
  rw [rused_uses 1048577 xs (2 * l.free) 0 (fun x hx => ⟨hr x hx, by have := (hr x hx).2.2.1; omega⟩) (at_start (by omega))]
  omega

end Go.Proofs.Ytlicmhgpldmliaa
