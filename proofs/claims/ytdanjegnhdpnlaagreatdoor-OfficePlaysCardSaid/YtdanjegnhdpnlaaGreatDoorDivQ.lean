/- The long division's steps in the machine's words (plain numbers). No condition. -/
import Derived.Test.YtdanjegnhdpnlaaGreatDoorDivP
import Derived.Lib.ItoaNum
import Derived.Laws.Bits64b
namespace Go.Proofs.YtdanjegnhdpnlaaGreatDoor.kit
open Go.RowKit
set_option linter.unusedVariables false

/-- A digit that may still be too great, and what is left by the divisor's upper half. -/
def Dg (U d P R : Nat) (qi ri : Int) : Prop := ∃ q r : Nat, qi = q ∧ ri = r ∧ (U * 4294967296 + d) / (P * 4294967296 + R) ≤ q ∧ r + q * P = U ∧ r < 4294967296
section
variable {U d P R : Nat} {qi ri Pi Ri di : Int}
theorem dg_start (hP : 0 < P) (hPB : P < 4294967296) (hd : d < 4294967296) (hU : U < 18446744073709551616) (hUi : qi = U) (hPi : Pi = P) :
    Dg U d P R (IntKind.u64.wrap (qi.tdiv Pi)) (IntKind.u64.wrap (qi - IntKind.u64.wrap (IntKind.u64.wrap (qi.tdiv Pi) * Pi))) := by
  subst hUi hPi
  have h1 := Nat.div_add_mod U P
  have h2 := Nat.mod_lt U hP
  have h3 : U / P ≤ U := Nat.div_le_self _ _
  have e0 : ((U : Int)).tdiv (P : Int) = ((U / P : Nat) : Int) := by rw [Int.tdiv_eq_ediv_of_nonneg (by omega)]; rfl
  have hf := dg_first (y0 := R) hP hd (u := U)
  rw [e0]
  generalize U / P = k at *
  generalize U % P = m at *
  have e1 : IntKind.u64.wrap (k : Int) = (k : Int) := by rw [IntKind.wrap_u64]; omega
  have e2 : (k : Int) * (P : Int) = ((P * k : Nat) : Int) := by rw [Nat.mul_comm]; exact (Int.natCast_mul _ _).symm
  have e3 : IntKind.u64.wrap ((P * k : Nat) : Int) = ((P * k : Nat) : Int) := by rw [IntKind.wrap_u64]; omega
  have e4 : IntKind.u64.wrap ((U : Int) - ((P * k : Nat) : Int)) = (m : Int) := by rw [IntKind.wrap_u64]; omega
  rw [e1, e2, e3, e4]
  exact ⟨k, m, rfl, rfl, hf, by rw [Nat.mul_comm]; omega, by omega⟩
/-- A step: by one less. -/
theorem dg_less (hP : 0 < P) (hPB : P < 4294967296) (hR : R < 4294967296) (hd : d < 4294967296) (hU : U < P * 4294967296 + R) (hPi : Pi = P) {q r : Nat} (hq : (U * 4294967296 + d) / (P * 4294967296 + R) < q) (hr : r + q * P = U) (hrB : r < 4294967296) (hqi : qi = q) (hri : ri = r) :
    (¬ 4294967296 ≤ IntKind.u64.wrap (ri + Pi) → Dg U d P R (IntKind.u64.wrap (qi - 1)) (IntKind.u64.wrap (ri + Pi)) ∧ ri < IntKind.u64.wrap (ri + Pi)) ∧
    (4294967296 ≤ IntKind.u64.wrap (ri + Pi) → IntKind.u64.wrap (qi - 1) = (((U * 4294967296 + d) / (P * 4294967296 + R) : Nat) : Int)) := by
  have hqU : q ≤ U := by
    have : q * 1 ≤ q * P := Nat.mul_le_mul_left q hP
    omega
  have hUM : U < 18446744073709551616 := by omega
  have hq1 : 0 < q := Nat.lt_of_le_of_lt (Nat.zero_le _) hq
  have hqle := Nat.le_sub_one_of_lt hq
  have e1 : IntKind.u64.wrap (qi - 1) = ((q - 1 : Nat) : Int) := by rw [hqi, IntKind.wrap_u64]; omega
  have e2 : IntKind.u64.wrap (ri + Pi) = ((r + P : Nat) : Int) := by rw [hri, hPi, IntKind.wrap_u64]; omega
  have hr' : r + P + (q - 1) * P = U := by
    have : q * P = (q - 1) * P + P := by
      have h := Nat.succ_mul (q - 1) P
      rwa [show (q - 1).succ = q by omega] at h
    omega
  rw [e1, e2]
  refine ⟨fun h => ⟨⟨q - 1, r + P, rfl, rfl, hqle, hr', by omega⟩, by omega⟩, fun h => ?_⟩
  have hs := dg_stop (y0 := R) (d := d) (B := 4294967296) hr' (dg_break hr' (by omega) hU hR)
  exact congrArg _ (dg_eq (by omega) hs hqle)
theorem dg_step (hP : 0 < P) (hPB : P < 4294967296) (hR : R < 4294967296) (hd : d < 4294967296) (hU : U < P * 4294967296 + R) (hPi : Pi = P) (hRi : Ri = R) (hdi : di = d) (h : Dg U d P R qi ri) :
    (0 ≤ qi ∧ 0 ≤ ri ∧ ri < 4294967296) ∧
    ((4294967296 ≤ qi ∨ IntKind.u64.wrap (IntKind.u64.wrap (4294967296 * ri) + di) < IntKind.u64.wrap (qi * Ri)) →
      (¬ 4294967296 ≤ IntKind.u64.wrap (ri + Pi) → Dg U d P R (IntKind.u64.wrap (qi - 1)) (IntKind.u64.wrap (ri + Pi)) ∧ ri < IntKind.u64.wrap (ri + Pi)) ∧
      (4294967296 ≤ IntKind.u64.wrap (ri + Pi) → IntKind.u64.wrap (qi - 1) = (((U * 4294967296 + d) / (P * 4294967296 + R) : Nat) : Int))) ∧
    (¬ 4294967296 ≤ qi → ¬ IntKind.u64.wrap (IntKind.u64.wrap (4294967296 * ri) + di) < IntKind.u64.wrap (qi * Ri) → qi = (((U * 4294967296 + d) / (P * 4294967296 + R) : Nat) : Int)) := by
  obtain ⟨q, r, hqi, hri, hq, hr, hrB⟩ := h
  have hY : 0 < P * 4294967296 + R := by omega
  have hbig := dg_big hY hd hU
  have f2 : IntKind.u64.wrap (4294967296 * ri) = ((4294967296 * r : Nat) : Int) := by rw [hri, IntKind.wrap_u64]; omega
  have f3 : IntKind.u64.wrap (((4294967296 * r : Nat) : Int) + di) = ((4294967296 * r + d : Nat) : Int) := by rw [hdi, IntKind.wrap_u64]; omega
  have f1 : q < 4294967296 → IntKind.u64.wrap (qi * Ri) = ((q * R : Nat) : Int) := fun hqB => by
    have hm : q * R ≤ 4294967295 * 4294967295 := Nat.mul_le_mul (by omega) (by omega)
    have e : qi * Ri = ((q * R : Nat) : Int) := by rw [hqi, hRi]; exact (Int.natCast_mul _ _).symm
    rw [e, IntKind.wrap_u64]
    omega
  refine ⟨by omega, fun hor => dg_less hP hPB hR hd hU hPi ?_ hr hrB hqi hri, fun h1 h2 => ?_⟩
  · rcases Nat.lt_or_ge q 4294967296 with hqB | hqB
    · have hlt := hor.resolve_left (by omega)
      rw [f2, f3, f1 hqB] at hlt
      exact dg_go hY hr (by omega)
    · omega
  · have hqB : q < 4294967296 := by omega
    rw [f2, f3, f1 hqB] at h2
    rw [hqi]
    exact congrArg _ (dg_eq hY (dg_stop hr (by omega)) hq)
end
/-- What is left behind a digit. -/
theorem un_next (U d Y q : Nat) (hq : q = (U * 4294967296 + d) / Y) (hY : 0 < Y) (hYM : Y < 18446744073709551616) {Ui di qi Yi : Int} (hUi : Ui = U) (hdi : di = d) (hqi : qi = q) (hYi : Yi = Y) :
    IntKind.u64.wrap (IntKind.u64.wrap (IntKind.u64.wrap (Ui * 4294967296) + di) - IntKind.u64.wrap (qi * Yi)) = (((U * 4294967296 + d) % Y : Nat) : Int) := by
  have h1 := Nat.div_add_mod (U * 4294967296 + d) Y
  have h2 := Nat.mod_lt (U * 4294967296 + d) hY
  rw [← hq] at h1
  have e : qi * Yi = ((Y * q : Nat) : Int) := by rw [hqi, hYi, Nat.mul_comm]; exact (Int.natCast_mul _ _).symm
  rw [e, hUi, hdi]
  simp only [IntKind.wrap_u64]
  generalize Y * q = b at *
  generalize (U * 4294967296 + d) % Y = v at *
  omega
theorem lead_zeros (y : Nat) (h0 : 0 < y) (hy : y < 18446744073709551616) : ∃ s : Nat, (64 - (Lib.bitLen y : Int)) = (s : Int) ∧ s < 64 ∧ 9223372036854775808 ≤ y * 2 ^ s ∧ y * 2 ^ s < 18446744073709551616 := by
  obtain ⟨h1, h2, h3⟩ := Lib.bitLenAux_bounds 64 y (by omega) (by omega)
  have h4 := Lib.bitLenAux_le 64 y 64 (by omega)
  show ∃ s : Nat, (64 - (Lib.bitLenAux 64 y : Int)) = (s : Int) ∧ _
  generalize Lib.bitLenAux 64 y = k at *
  refine ⟨64 - k, by omega, by omega, ?_, ?_⟩
  · have : 2 ^ (k - 1) * 2 ^ (64 - k) ≤ y * 2 ^ (64 - k) := Nat.mul_le_mul_right _ h2
    rw [← Nat.pow_add, show k - 1 + (64 - k) = 63 by omega] at this
    exact this
  · have : y * 2 ^ (64 - k) < 2 ^ k * 2 ^ (64 - k) := Nat.mul_lt_mul_of_pos_right h3 (Nat.two_pow_pos _)
    rw [← Nat.pow_add, show k + (64 - k) = 64 by omega] at this
    exact this
theorem mask32 (a : Nat) (ha : a < 18446744073709551616) : bits .and .u64 (a : Int) 4294967295 = ((a % 4294967296 : Nat) : Int) := by
  have h := bits_and_u64_nat a 4294967295 ha (by omega)
  rw [Nat.and_two_pow_sub_one_eq_mod a 32] at h
  exact h
/-- All that the division lays ahead of its loops. -/
theorem div_lay (hi lo y s : Nat) (hh : hi < y) (hl : lo < 18446744073709551616) (hs : s < 64) (h1 : 9223372036854775808 ≤ y * 2 ^ s) (h2 : y * 2 ^ s < 18446744073709551616) :
    ∃ Y P R U L D1 D0 : Nat, IntKind.u64.wrap ((y : Int) * 2 ^ s) = (Y : Int) ∧ (Y : Int) / 4294967296 = (P : Int) ∧ bits .and .u64 (Y : Int) 4294967295 = (R : Int) ∧
      bits .or .u64 (IntKind.u64.wrap ((hi : Int) * 2 ^ s)) ((lo : Int) / 2 ^ (64 - s)) = (U : Int) ∧ IntKind.u64.wrap ((lo : Int) * 2 ^ s) = (L : Int) ∧ (L : Int) / 4294967296 = (D1 : Int) ∧ bits .and .u64 (L : Int) 4294967295 = (D0 : Int) ∧
      Y = P * 4294967296 + R ∧ 0 < P ∧ P < 4294967296 ∧ R < 4294967296 ∧ U < Y ∧ D1 < 4294967296 ∧ D0 < 4294967296 ∧ Y = y * 2 ^ s ∧ (hi * 18446744073709551616 + lo) * 2 ^ s = (U * 4294967296 + D1) * 4294967296 + D0 := by
  have ht : 0 < 2 ^ (64 - s) := Nat.two_pow_pos _
  have hp : 0 < 2 ^ s := Nat.two_pow_pos _
  have hst : 2 ^ s * 2 ^ (64 - s) = 18446744073709551616 := by rw [← Nat.pow_add, show s + (64 - s) = 64 by omega]
  have hsh := shift_two hi lo (2 ^ s) (2 ^ (64 - s)) ht hst
  have hhs : hi * 2 ^ s + 2 ^ s ≤ y * 2 ^ s := by
    have := Nat.mul_le_mul_right (2 ^ s) hh
    rwa [Nat.succ_mul] at this
  have hdl : lo / 2 ^ (64 - s) < 2 ^ s := by
    rw [Nat.div_lt_iff_lt_mul ht, hst]
    exact hl
  have hml := Nat.mod_lt lo ht
  have hL : lo % 2 ^ (64 - s) * 2 ^ s < 18446744073709551616 := by
    have : lo % 2 ^ (64 - s) * 2 ^ s < 2 ^ (64 - s) * 2 ^ s := Nat.mul_lt_mul_of_pos_right hml hp
    rwa [Nat.mul_comm (2 ^ (64 - s)), hst] at this
  have hmod : lo * 2 ^ s % 18446744073709551616 = lo % 2 ^ (64 - s) * 2 ^ s := by
    rw [← hst, Nat.mul_comm (2 ^ s), Nat.mul_mod_mul_right]
  have c1 : ∀ x : Nat, (x : Int) * 2 ^ s = ((x * 2 ^ s : Nat) : Int) := fun x => by rw [Int.natCast_mul, Int.natCast_pow]; rfl
  have c2 : (lo : Int) / 2 ^ (64 - s) = ((lo / 2 ^ (64 - s) : Nat) : Int) := by rw [Int.natCast_ediv, Int.natCast_pow]; rfl
  have eU : bits .or .u64 (IntKind.u64.wrap ((hi : Int) * 2 ^ s)) ((lo : Int) / 2 ^ (64 - s)) = ((hi * 2 ^ s + lo / 2 ^ (64 - s) : Nat) : Int) := by
    have ew : IntKind.u64.wrap ((hi * 2 ^ s : Nat) : Int) = ((hi * 2 ^ s : Nat) : Int) := by rw [IntKind.wrap_u64]; omega
    rw [c1, ew, c2, bits_or_u64_nat _ _ (by omega) (by omega), Nat.mul_comm hi, ← Nat.two_pow_add_eq_or_of_lt hdl]
  have eY : IntKind.u64.wrap ((y : Int) * 2 ^ s) = ((y * 2 ^ s : Nat) : Int) := by rw [c1, IntKind.wrap_u64]; omega
  have eL : IntKind.u64.wrap ((lo : Int) * 2 ^ s) = ((lo % 2 ^ (64 - s) * 2 ^ s : Nat) : Int) := by rw [c1, IntKind.wrap_u64, ← hmod]; omega
  generalize y * 2 ^ s = Y at *
  generalize lo % 2 ^ (64 - s) * 2 ^ s = L at *
  refine ⟨Y, Y / 4294967296, Y % 4294967296, hi * 2 ^ s + lo / 2 ^ (64 - s), L, L / 4294967296, L % 4294967296, eY, by omega, mask32 Y h2, eU, eL, by omega, mask32 L hL, by omega, by omega, by omega, by omega, by omega, by omega, by omega, rfl, by rw [hsh]; omega⟩
theorem fold_two (a b : Nat) (h : a * 4294967296 + b < 18446744073709551616) : IntKind.u64.wrap (IntKind.u64.wrap ((a : Int) * 4294967296) + (b : Int)) = ((a * 4294967296 + b : Nat) : Int) := by
  simp only [IntKind.wrap_u64]
  omega
/-- The end: quotient and remainder. -/
theorem div_end (x y s Y N D0 : Nat) (hx : x / y < 18446744073709551616) (h0 : 0 < y) (hY : Y = y * 2 ^ s) (hYM : Y < 18446744073709551616) (hN : x * 2 ^ s = N * 4294967296 + D0) {q1 V q0 Di Yi : Int} (hV : V = ((N % Y : Nat) : Int)) (hq1 : q1 = ((N / Y : Nat) : Int)) (hq0 : q0 = (((N % Y * 4294967296 + D0) / Y : Nat) : Int)) (hD : Di = D0) (hYi : Yi = Y) :
    IntKind.u64.wrap (IntKind.u64.wrap (q1 * 4294967296) + q0) = ((x / y : Nat) : Int) ∧
    IntKind.u64.wrap (IntKind.u64.wrap (IntKind.u64.wrap (V * 4294967296) + Di) - IntKind.u64.wrap (q0 * Yi)) / 2 ^ s = ((x % y : Nat) : Int) := by
  have hp : 0 < 2 ^ s := Nat.two_pow_pos _
  have hY0 : 0 < Y := by rw [hY]; exact Nat.mul_pos h0 hp
  have hu := un_next (N % Y) D0 Y _ rfl hY0 hYM hV hD hq0 hYi
  obtain ⟨e1, e2⟩ := two_quo N Y 4294967296 D0 hY0
  obtain ⟨g1, g2⟩ := scaled_quo x y (2 ^ s) hp
  rw [hN, ← hY] at g1 g2
  constructor
  · rw [← g1, e1, hq1, hq0]
    rw [← g1, e1] at hx
    exact fold_two _ _ hx
  · obtain ⟨z, hz⟩ : ∃ z, (N * 4294967296 + D0) % Y = z := ⟨_, rfl⟩
    rw [hz] at g2 e2
    rw [← e2] at hu
    rw [hu, ← g2, Int.natCast_ediv, Int.natCast_pow]
    rfl
end Go.Proofs.YtdanjegnhdpnlaaGreatDoor.kit
