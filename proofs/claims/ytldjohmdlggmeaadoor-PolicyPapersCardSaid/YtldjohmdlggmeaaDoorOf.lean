/- share.Of where its quotient fits. No condition. -/
import Derived.Test.YtldjohmdlggmeaaDoorDiv
import Derived.Test.YtldjohmdlggmeaaDoorStep
namespace Go.Proofs.YtldjohmdlggmeaaDoor.kit
open Go.RowKit
set_option linter.unusedVariables false

theorem isRatio_any (n d : Nat) (w : World) : Calls Tryd.prog 35 #[.agg #[.int .i64 n, .int .i64 d]] w fun e w' => e = .returned (.bool (decide ((1 : Int) ≤ (d : Int)))) ∧ Below w.heap.size w w' := by
  have g3 : decide ((0 : Int) ≤ (n : Int)) = true := decide_eq_true (by omega)
  have hB0 : Below w.heap.size w (w.alloc (.cells #[.int .i64 n, .int .i64 d] 53)) := (Below.refl _ _).alloc (Nat.le_refl _) _
  go_enter Tryd.func35, Tryd.ntmps35
  go_wp2_with fail
  go_ret
  exact ⟨rfl, hB0⟩
set_option maxRecDepth 100000 in
set_option maxHeartbeats 1600000 in
theorem of_nat (t n d : Nat) (ht : t ≤ 1099511627776) (hn : n ≤ 9223372036854775807) (hd0 : 0 < d) (hd : d ≤ 9223372036854775807) (hq : t * n / d ≤ 1099511627776) (w : World) :
    Calls Tryd.prog 24 #[.int .i64 t, .agg #[.int .i64 n, .int .i64 d]] w fun e w' => e = .returned (.tuple #[.int .i64 ((t * n / d : Nat) : Int), .bool true]) ∧ Below w.heap.size w w' := by
  have hM := Nat.div_add_mod (t * n) 18446744073709551616
  have hl := Nat.mod_lt (t * n) (show 0 < 18446744073709551616 by omega)
  obtain ⟨h, hh⟩ : ∃ h, t * n / 18446744073709551616 = h := ⟨_, rfl⟩
  obtain ⟨l, hll⟩ : ∃ h, t * n % 18446744073709551616 = h := ⟨_, rfl⟩
  have hhd : h < d := by
    rcases Nat.lt_or_ge h d with hx | hx
    · exact hx
    · have : 18446744073709551616 ≤ t * n / d := by
        rw [Nat.le_div_iff_mul_le hd0]
        have := Nat.mul_le_mul_left 18446744073709551616 hx
        omega
      omega
  rw [hh, hll] at hM
  rw [hll] at hl
  have HM := Lib.hid (Tryd.bits_Mul64 t n (by omega) (by omega))
  rw [hh, hll] at HM
  have hfold : h * 18446744073709551616 + l = t * n := by omega
  have HD := Lib.hid (div64_any h l d hhd hl (by omega))
  rw [hfold] at HD
  obtain ⟨q, hqq⟩ : ∃ q, t * n / d = q := ⟨_, rfl⟩
  rw [hqq] at HD hq ⊢
  obtain ⟨z, hz⟩ : ∃ q, t * n % d = q := ⟨_, rfl⟩
  rw [hz] at HD
  have f1 : IntKind.u64.wrap (t : Int) = (t : Int) := by rw [IntKind.wrap_u64]; omega
  have f2 : IntKind.u64.wrap (n : Int) = (n : Int) := by rw [IntKind.wrap_u64]; omega
  have f3 : IntKind.u64.wrap (d : Int) = (d : Int) := by rw [IntKind.wrap_u64]; omega
  have g1 : decide ((t : Int) < 0) = false := decide_eq_false (by omega)
  have g2 : decide ((1099511627776 : Int) < (t : Int)) = false := decide_eq_false (by omega)
  have g3 : decide ((0 : Int) ≤ (n : Int)) = true := decide_eq_true (by omega)
  have g4 : decide ((1 : Int) ≤ (d : Int)) = true := decide_eq_true (by omega)
  have g5 : ¬ (d : Int) ≤ (h : Int) := by omega
  have g6 : ¬ (1099511627776 : Int) < (q : Int) := by omega
  have hB0 : Below w.heap.size w (w.alloc (.cells #[.int .i64 n, .int .i64 d] 53)) := (Below.refl _ _).alloc (Nat.le_refl _) _
  have hk0 : Blk (w.alloc (.cells #[.int .i64 n, .int .i64 d] 53)) w.heap.size 53 #[.int .i64 n, .int .i64 d] := Blk.new _ _ _
  clear hM hfold hl hh hll hqq hz hhd
  go_enter Tryd.func24, Tryd.ntmps24
  go_wp2_with fail
  refine (isRatio_any n d _).mono ?_
  rintro e w1 ⟨rfl, hb1⟩
  have hB1 := hB0.trans (hb1.mono hB0.size)
  have hk1 := hk0.below hb1 hk0.lt
  clear hB0 hk0 hb1
  have a0 := hk1.cell 0; have a1 := hk1.cell 1; simp only [List.getElem?_toArray, List.getElem?_cons_zero, List.getElem?_cons_succ] at a0 a1
  go_wp2_with fail
  refine (HM.out _).mono ?_
  rintro e w2 ⟨rfl, rfl⟩
  go_wp2_with fail
  refine (HD.out _).mono ?_
  rintro e w3 ⟨rfl, hb3⟩
  have hB3 := hB1.trans (hb3.mono hB1.size)
  clear a0 a1
  go_wp2_with fail
  go_ret2
  exact ⟨rfl, hB3⟩
theorem of_int (t n d : Int) (ht : 0 ≤ t ∧ t ≤ 1099511627776) (hn : 0 ≤ n ∧ n ≤ 9223372036854775807) (hd : 0 < d ∧ d ≤ 9223372036854775807) (hq : t * n / d ≤ 1099511627776) (w : World) :
    Calls Tryd.prog 24 #[.int .i64 t, .agg #[.int .i64 n, .int .i64 d]] w fun e w' => e = .returned (.tuple #[.int .i64 (t * n / d), .bool true]) ∧ Below w.heap.size w w' := by
  obtain ⟨t, rfl⟩ := Int.eq_ofNat_of_zero_le ht.1
  obtain ⟨n, rfl⟩ := Int.eq_ofNat_of_zero_le hn.1
  obtain ⟨d, rfl⟩ := Int.eq_ofNat_of_zero_le (Int.le_of_lt hd.1)
  have e : ((t : Int) * (n : Int) / (d : Int)) = ((t * n / d : Nat) : Int) := by rw [Int.natCast_ediv, Int.natCast_mul]
  rw [e] at hq ⊢
  exact of_nat t n d (by omega) (by omega) (by omega) (by omega) (by omega) w
end Go.Proofs.YtldjohmdlggmeaaDoor.kit
