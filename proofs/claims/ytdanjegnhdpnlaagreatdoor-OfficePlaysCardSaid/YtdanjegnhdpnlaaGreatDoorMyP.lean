/- A product over a divisor, bit by bit: the document. No condition. -/
import Derived.Test.YtdanjegnhdpnlaaGreatDoorMyScale
import Derived.Laws.BitsLemmas
namespace Go.Proofs.YtdanjegnhdpnlaaGreatDoor.kit
open Go.RowKit Go.PlainAid
set_option linter.unusedVariables false

theorem shr_run (A c : Nat) (hc : c < 64) (w : World) : (binOp .shr 2 (.int .i64 (A : Int)) (.int .u64 (c : Int))).run Tryz.prog w = .ok (.int .i64 ((A / 2 ^ c : Nat) : Int)) w := by
  have e : (min c 64) = c := by omega
  go_simp
  done
theorem and_one (n : Int) : bits .and .i64 n 1 = n % 2 := by
  have h1 : (BitVec.ofInt 64 1).toNat = 2 ^ 1 - 1 := by decide
  have key : (BitVec.ofInt 64 n &&& BitVec.ofInt 64 1).toNat = (n % ((2 ^ 64 : Nat) : Int)).toNat % 2 ^ 1 := by
    rw [BitVec.toNat_and, BitVec.toNat_ofInt, h1, Nat.and_two_pow_sub_one_eq_mod]
  show IntKind.i64.wrap ((BitVec.ofInt 64 n &&& BitVec.ofInt 64 1).toNat : Nat) = n % 2
  rw [key, IntKind.wrap_i64]
  omega
def partsV (A N D : Nat) : Int × Int := if A * N / D ≤ 2199023255552 then (((A * N / D : Nat) : Int), ((A * N % D : Nat) : Int)) else (-1, 0)
section
variable {A N D P Z q r a b X Y : Nat}
theorem dbl (h : q * D + r = P * N) : (2 * q) * D + 2 * r = 2 * P * N := by
  rw [Nat.mul_assoc 2 q D, Nat.mul_assoc 2 P N, ← h]; omega
theorem dbl1 (h : q * D + r = P * N) (hr : D ≤ 2 * r) : (2 * q + 1) * D + (2 * r - D) = 2 * P * N := by
  have := dbl h
  rw [Nat.add_mul, Nat.one_mul]; omega
theorem put1 (h : a * D + b = 2 * P * N) (hN : X * D + Y = N) : (a + X) * D + (b + Y) = (2 * P + 1) * N := by
  rw [Nat.add_mul, Nat.add_mul, Nat.one_mul]; omega
theorem put2 (h : a * D + b = 2 * P * N) (hN : X * D + Y = N) (hb : D ≤ b + Y) : (a + X + 1) * D + (b + Y - D) = (2 * P + 1) * N := by
  have := put1 h hN
  rw [Nat.add_mul, Nat.one_mul]; omega
theorem out1 (hD : 1 ≤ D) (hA : 1 ≤ A) (h : 2199023255552 < N / D) : partsV A N D = (-1, 0) := by
  unfold partsV
  rw [if_neg]
  have h1 : N ≤ A * N := by have := Nat.mul_le_mul_right N hA; omega
  have := Nat.div_le_div_right (c := D) h1
  omega
theorem out2 (hD : 1 ≤ D) (hZ : Z ≤ A) (h : q * D + r = Z * N) (hq : 2199023255552 < q) : partsV A N D = (-1, 0) := by
  unfold partsV
  rw [if_neg]
  have h1 : Z * N ≤ A * N := Nat.mul_le_mul_right N hZ
  have h2 : q ≤ A * N / D := (Nat.le_div_iff_mul_le (by omega)).2 (by omega)
  omega
theorem fin_ (hD : 1 ≤ D) (h : q * D + r = A * N) (hr : r < D) (hq : q ≤ 2199023255552) : partsV A N D = ((q : Int), (r : Int)) := by
  have h1 : A * N / D = q := by rw [← h, Nat.add_comm, Nat.add_mul_div_right _ _ (by omega), Nat.div_eq_of_lt hr]; omega
  have h2 : A * N % D = r := by rw [← h, Nat.add_comm, Nat.add_mul_mod_self_right, Nat.mod_eq_of_lt hr]
  unfold partsV
  rw [h1, h2, if_pos hq]
end
set_option maxRecDepth 100000 in
set_option maxHeartbeats 6400000 in
theorem parts_any (A N D : Nat) (w : World) (hA : A ≤ 1099511627776) (hN : N ≤ 9223372036854775807) (hD1 : 1 ≤ D) (hD : D ≤ 9223372036854775807) :
    Calls Tryz.prog 49 #[.int .i64 A, .int .i64 N, .int .i64 D] w fun e w' => e = .returned (.tuple #[.int .i64 (partsV A N D).1, .int .i64 (partsV A N D).2]) ∧ w = w' := by
  have hD0 : ((D : Int) == 0) = false := by simp; omega
  obtain ⟨X, hXX⟩ : ∃ X, N / D = X := ⟨_, rfl⟩
  obtain ⟨Y, hYY⟩ : ∃ X, N % D = X := ⟨_, rfl⟩
  have hXY : Hid (X * D + Y = N) := Lib.hid (by rw [← hXX, ← hYY, Nat.mul_comm]; exact Nat.div_add_mod N D)
  have hYD : Y < D := by rw [← hYY]; exact Nat.mod_lt _ (by omega)
  have hXN : X ≤ N := by rw [← hXX]; exact Nat.div_le_self _ _
  have hx1 : (N : Int) / (D : Int) = (X : Int) := by rw [← Int.natCast_ediv, hXX]
  have hy1 : (N : Int) % (D : Int) = (Y : Int) := by rw [← Int.natCast_emod, hYY]
  have hx2 : Int.tdiv (N : Int) (D : Int) = (X : Int) := by rw [Int.tdiv_eq_ediv_of_nonneg (by omega), hx1]
  have hy2 : Int.tmod (N : Int) (D : Int) = (Y : Int) := by rw [Int.tmod_eq_emod_of_nonneg (by omega), hy1]
  have HXX := Lib.hid hXX
  clear hXX hYY
  go_enter Tryz.func49, Tryz.ntmps49
  go_wp2_with fail
  go_loop [8, 9, 10] (fun a b i => ∃ k q r : Nat, k ≤ 41 ∧ i = .int .i64 k ∧ a = .int .i64 (q : Int) ∧ b = .int .u64 (r : Int) ∧ Hid (q * D + r = A / 2 ^ (41 - k) * N) ∧ r < D ∧ q ≤ 2199023255552) (fun _ _ i => 41 - (intOf i).toNat)
  case atStart => exact ⟨0, 0, 0, by omega, rfl, rfl, rfl, Lib.hid (by rw [Nat.div_eq_of_lt (by omega)]; simp), by omega, by omega⟩
  case round =>
    obtain ⟨k, q, r, hk, rfl, rfl, rfl, hinv, hr, hq⟩ := hrel
    by_cases hlt : k < 41
    · obtain ⟨c, hc⟩ : ∃ c, 40 - k = c := ⟨_, rfl⟩
      obtain ⟨Z, hZ⟩ : ∃ Z, A / 2 ^ c = Z := ⟨_, rfl⟩
      obtain ⟨P, hP⟩ : ∃ Z, A / 2 ^ (41 - k) = Z := ⟨_, rfl⟩
      have hZ' : Hid (A / 2 ^ (40 - k) = Z) := Lib.hid (by rw [hc, hZ])
      have hci : (40 : Int) - (k : Int) = (c : Int) := by omega
      have hsh := fun w => shr_run A c (by omega) w
      rw [hZ] at hsh
      have hZi : (A : Int) / 2 ^ c = (Z : Int) := by rw [← hZ, Int.natCast_ediv, Int.natCast_pow]; rfl
      have hPZ : P = Z / 2 := by rw [← hP, ← hZ, Nat.div_div_eq_div_mul, ← Nat.pow_succ, show c.succ = 41 - k by omega]
      have hZA : Z ≤ A := by rw [← hZ]; exact Nat.div_le_self _ _
      obtain ⟨B, hBB⟩ : ∃ B, Z % 2 = B := ⟨_, rfl⟩
      have hB : B = 0 ∨ B = 1 := by omega
      have HZ : Hid (Z = 2 * P + B) := Lib.hid (by omega)
      have hand : bits .and .i64 (Z : Int) 1 = (B : Int) := by rw [and_one]; omega
      have hi := hinv.out
      rw [hP] at hi
      have HI := Lib.hid hi
      clear hc hZ hP hPZ hBB hi hinv
      by_cases h1 : D ≤ 2 * r
      · rcases hB with hB | hB
        · rw [hB] at hand HZ
          obtain ⟨Q, hQ⟩ : ∃ Q, ((2 * q + 1)) = Q := ⟨_, rfl⟩
          have hQi : (2 * (q : Int) + 1) = (Q : Int) := by omega
          have e1 : Hid (Q * D + (((2 * r - D))) = Z * N) := Lib.hid (by rw [← hQ, HZ.out]; exact (by rw [Nat.add_zero]; exact (dbl1 HI.out h1)))
          have hQb : Q ≤ 9000000000000000000 := by omega
          clear hQ hB
          by_cases hq2 : 2199023255552 < Q
          · have HE := Lib.hid (out2 hD1 hZA e1.out hq2)
            go_wp2_with fail
            go_ret2
            exact ⟨ret_pair (r := partsV A N D) HE.out, rfl⟩
          · have e2 : Hid (Q * D + (((2 * r - D))) = A / 2 ^ (41 - (k + 1)) * N) := Lib.hid (by rw [show 41 - (k + 1) = 40 - k by omega, hZ'.out]; exact e1.out)
            go_wp2_with fail
            go_round
            case rel => exact ⟨k + 1, Q, (((2 * r - D))), by omega, by go_num, by first | rfl | (congr 1; omega) | (simp; omega), by first | rfl | (congr 1; omega) | (simp; omega), e2, by omega, by omega⟩
            case measure => simp [intOf]; omega
        · rw [hB] at hand HZ
          by_cases hX : 2199023255552 < X
          · have HE := Lib.hid (out1 hD1 (show 1 ≤ A by have := HZ.out; omega) (by rw [HXX.out]; exact hX))
            clear hB
            go_wp2_with fail
            go_ret2
            exact ⟨ret_pair (r := partsV A N D) HE.out, rfl⟩
          by_cases hY2 : D ≤ ((2 * r - D)) + Y
          · obtain ⟨Q, hQ⟩ : ∃ Q, (((2 * q + 1)) + X + 1) = Q := ⟨_, rfl⟩
            have hQi : ((2 * (q : Int) + 1) + (X : Int) + 1) = (Q : Int) := by omega
            have e1 : Hid (Q * D + ((((2 * r - D)) + Y - D)) = Z * N) := Lib.hid (by rw [← hQ, HZ.out]; exact (put2 (dbl1 HI.out h1) hXY.out hY2))
            have hQb : Q ≤ 9000000000000000000 := by omega
            clear hQ hB
            by_cases hq2 : 2199023255552 < Q
            · have HE := Lib.hid (out2 hD1 hZA e1.out hq2)
              go_wp2_with fail
              go_ret2
              exact ⟨ret_pair (r := partsV A N D) HE.out, rfl⟩
            · have e2 : Hid (Q * D + ((((2 * r - D)) + Y - D)) = A / 2 ^ (41 - (k + 1)) * N) := Lib.hid (by rw [show 41 - (k + 1) = 40 - k by omega, hZ'.out]; exact e1.out)
              go_wp2_with fail
              go_round
              case rel => exact ⟨k + 1, Q, ((((2 * r - D)) + Y - D)), by omega, by go_num, by first | rfl | (congr 1; omega) | (simp; omega), by first | rfl | (congr 1; omega) | (simp; omega), e2, by omega, by omega⟩
              case measure => simp [intOf]; omega
          · obtain ⟨Q, hQ⟩ : ∃ Q, (((2 * q + 1)) + X) = Q := ⟨_, rfl⟩
            have hQi : ((2 * (q : Int) + 1) + (X : Int)) = (Q : Int) := by omega
            have e1 : Hid (Q * D + ((((2 * r - D)) + Y)) = Z * N) := Lib.hid (by rw [← hQ, HZ.out]; exact (put1 (dbl1 HI.out h1) hXY.out))
            have hQb : Q ≤ 9000000000000000000 := by omega
            clear hQ hB
            by_cases hq2 : 2199023255552 < Q
            · have HE := Lib.hid (out2 hD1 hZA e1.out hq2)
              go_wp2_with fail
              go_ret2
              exact ⟨ret_pair (r := partsV A N D) HE.out, rfl⟩
            · have e2 : Hid (Q * D + ((((2 * r - D)) + Y)) = A / 2 ^ (41 - (k + 1)) * N) := Lib.hid (by rw [show 41 - (k + 1) = 40 - k by omega, hZ'.out]; exact e1.out)
              go_wp2_with fail
              go_round
              case rel => exact ⟨k + 1, Q, ((((2 * r - D)) + Y)), by omega, by go_num, by first | rfl | (congr 1; omega) | (simp; omega), by first | rfl | (congr 1; omega) | (simp; omega), e2, by omega, by omega⟩
              case measure => simp [intOf]; omega
      · rcases hB with hB | hB
        · rw [hB] at hand HZ
          obtain ⟨Q, hQ⟩ : ∃ Q, ((2 * q)) = Q := ⟨_, rfl⟩
          have hQi : (2 * (q : Int)) = (Q : Int) := by omega
          have e1 : Hid (Q * D + (((2 * r))) = Z * N) := Lib.hid (by rw [← hQ, HZ.out]; exact (by rw [Nat.add_zero]; exact (dbl HI.out)))
          have hQb : Q ≤ 9000000000000000000 := by omega
          clear hQ hB
          by_cases hq2 : 2199023255552 < Q
          · have HE := Lib.hid (out2 hD1 hZA e1.out hq2)
            go_wp2_with fail
            go_ret2
            exact ⟨ret_pair (r := partsV A N D) HE.out, rfl⟩
          · have e2 : Hid (Q * D + (((2 * r))) = A / 2 ^ (41 - (k + 1)) * N) := Lib.hid (by rw [show 41 - (k + 1) = 40 - k by omega, hZ'.out]; exact e1.out)
            go_wp2_with fail
            go_round
            case rel => exact ⟨k + 1, Q, (((2 * r))), by omega, by go_num, by first | rfl | (congr 1; omega) | (simp; omega), by first | rfl | (congr 1; omega) | (simp; omega), e2, by omega, by omega⟩
            case measure => simp [intOf]; omega
        · rw [hB] at hand HZ
          by_cases hX : 2199023255552 < X
          · have HE := Lib.hid (out1 hD1 (show 1 ≤ A by have := HZ.out; omega) (by rw [HXX.out]; exact hX))
            clear hB
            go_wp2_with fail
            go_ret2
            exact ⟨ret_pair (r := partsV A N D) HE.out, rfl⟩
          by_cases hY2 : D ≤ ((2 * r)) + Y
          · obtain ⟨Q, hQ⟩ : ∃ Q, (((2 * q)) + X + 1) = Q := ⟨_, rfl⟩
            have hQi : ((2 * (q : Int)) + (X : Int) + 1) = (Q : Int) := by omega
            have e1 : Hid (Q * D + ((((2 * r)) + Y - D)) = Z * N) := Lib.hid (by rw [← hQ, HZ.out]; exact (put2 (dbl HI.out) hXY.out hY2))
            have hQb : Q ≤ 9000000000000000000 := by omega
            clear hQ hB
            by_cases hq2 : 2199023255552 < Q
            · have HE := Lib.hid (out2 hD1 hZA e1.out hq2)
              go_wp2_with fail
              go_ret2
              exact ⟨ret_pair (r := partsV A N D) HE.out, rfl⟩
            · have e2 : Hid (Q * D + ((((2 * r)) + Y - D)) = A / 2 ^ (41 - (k + 1)) * N) := Lib.hid (by rw [show 41 - (k + 1) = 40 - k by omega, hZ'.out]; exact e1.out)
              go_wp2_with fail
              go_round
              case rel => exact ⟨k + 1, Q, ((((2 * r)) + Y - D)), by omega, by go_num, by first | rfl | (congr 1; omega) | (simp; omega), by first | rfl | (congr 1; omega) | (simp; omega), e2, by omega, by omega⟩
              case measure => simp [intOf]; omega
          · obtain ⟨Q, hQ⟩ : ∃ Q, (((2 * q)) + X) = Q := ⟨_, rfl⟩
            have hQi : ((2 * (q : Int)) + (X : Int)) = (Q : Int) := by omega
            have e1 : Hid (Q * D + ((((2 * r)) + Y)) = Z * N) := Lib.hid (by rw [← hQ, HZ.out]; exact (put1 (dbl HI.out) hXY.out))
            have hQb : Q ≤ 9000000000000000000 := by omega
            clear hQ hB
            by_cases hq2 : 2199023255552 < Q
            · have HE := Lib.hid (out2 hD1 hZA e1.out hq2)
              go_wp2_with fail
              go_ret2
              exact ⟨ret_pair (r := partsV A N D) HE.out, rfl⟩
            · have e2 : Hid (Q * D + ((((2 * r)) + Y)) = A / 2 ^ (41 - (k + 1)) * N) := Lib.hid (by rw [show 41 - (k + 1) = 40 - k by omega, hZ'.out]; exact e1.out)
              go_wp2_with fail
              go_round
              case rel => exact ⟨k + 1, Q, ((((2 * r)) + Y)), by omega, by go_num, by first | rfl | (congr 1; omega) | (simp; omega), by first | rfl | (congr 1; omega) | (simp; omega), e2, by omega, by omega⟩
              case measure => simp [intOf]; omega
    · have hk41 : k = 41 := by omega
      subst hk41
      have HE := Lib.hid (fin_ (A := A) hD1 (by have h := hinv.out; simpa using h) hr hq).symm
      go_wp2_with fail
      go_ret2
      exact ⟨ret_pair (r := partsV A N D) HE.out.symm, rfl⟩
end Go.Proofs.YtdanjegnhdpnlaaGreatDoor.kit
