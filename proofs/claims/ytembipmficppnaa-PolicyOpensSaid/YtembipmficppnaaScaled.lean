/- The document's long division by twenty bits. No condition. -/
import Derived.Test.YtembipmficppnaaPol
import Derived.Test.YtembipmficppnaaTail
namespace Go.Proofs.Ytembipmficppnaa.kit
open Go.RowKit
set_option linter.unusedVariables false

theorem w_one {x y : Int} (hx : 0 ≤ x ∧ x ≤ 1099511627776) (hy : 0 ≤ y ∧ y ≤ 1152921504606846976) : wrap64 (x + y) = x + y := by unfold wrap64; omega
theorem w_two {x y : Int} (hx : 0 ≤ x ∧ x ≤ 1099511627776) (hy : 0 ≤ y ∧ y ≤ 1152921504606846976) : wrap64 (wrap64 (x + y) + 1) = x + y + 1 := by rw [w_one hx hy]; unfold wrap64; omega
theorem quo_bd (a b c i : Nat) (hc : 0 < c) (hac : a ≤ c) (hb : b ≤ 1099511627776) (hi : i ≤ 20) : a * (b / 1048576) * 2 ^ i / c ≤ 1099511627776 := by
  have h1 : a * (b / 1048576) ≤ c * 1048576 := Nat.mul_le_mul hac (by omega)
  have h2 : (2 : Nat) ^ i ≤ 2 ^ 20 := Nat.pow_le_pow_right (by omega) hi
  have h3 : a * (b / 1048576) * 2 ^ i ≤ c * 1048576 * 2 ^ 20 := Nat.mul_le_mul h1 h2
  have h4 : c * 1048576 * 2 ^ 20 = c * 1099511627776 := by rw [Nat.mul_assoc]
  rw [Nat.div_le_iff_le_mul_add_pred hc]
  rw [h4] at h3
  exact Nat.le_trans h3 (Nat.le_add_right _ _)
set_option maxRecDepth 100000 in
set_option maxHeartbeats 3200000 in
theorem scaled_nat (a b c : Nat) (ha : a ≤ c) (hb : b ≤ 1099511627776) (hc0 : 0 < c) (hc : c ≤ 1099511627776) (w : World) :
    Calls Try.prog 25 #[.int .i64 a, .int .i64 b, .int .i64 c] w fun e w' => e = .returned (.int .i64 ((a * b / c : Nat) : Int)) ∧ Below w.heap.size w w' := by
  have h1 : a * (b / 1048576) ≤ 1099511627776 * 1048576 := Nat.mul_le_mul (by omega) (by omega)
  have h2 : a * (b % 1048576) ≤ 1099511627776 * 1048576 := Nat.mul_le_mul (by omega) (by omega)
  have HQ := Lib.hid (fun i => quo_bd a b c i hc0 ha hb)
  have HE := Lib.hid (scaled_eq a b c hc0)
  have c1 : (a : Int) * ((b : Int) / 1048576) = ((a * (b / 1048576) : Nat) : Int) := by rw [Int.natCast_mul, Int.natCast_ediv]; rfl
  have c2 : (a : Int) * ((b : Int) % 1048576) = ((a * (b % 1048576) : Nat) : Int) := by rw [Int.natCast_mul, Int.natCast_emod]; rfl
  have hqb : a * b / c ≤ b := Nat.div_le_of_le_mul (Nat.mul_le_mul_right b ha)
  simp only at HE
  obtain ⟨Q, hQ⟩ : ∃ Q, a * b / c = Q := ⟨_, rfl⟩
  rw [hQ] at HE hqb ⊢
  clear hQ
  obtain ⟨h, hh⟩ : ∃ h, a * (b / 1048576) = h := ⟨_, rfl⟩
  obtain ⟨l, hl⟩ : ∃ h, a * (b % 1048576) = h := ⟨_, rfl⟩
  rw [hh] at h1 HQ HE c1
  rw [hl] at h2 HE c2
  have hl1 := Nat.div_add_mod l c
  have hlm := Nat.mod_lt l hc0
  obtain ⟨u, hu⟩ : ∃ u, l / c = u := ⟨_, rfl⟩
  obtain ⟨v, hv⟩ : ∃ u, l % c = u := ⟨_, rfl⟩
  have hul : u ≤ l := by rw [← hu]; exact Nat.div_le_self _ _
  have HUX : Hid (0 ≤ (u : Int) ∧ (u : Int) ≤ 1152921504606846976) := Lib.hid ⟨Int.natCast_nonneg _, Int.ofNat_le.2 (Nat.le_trans hul (Nat.le_trans h2 (by decide)))⟩
  have L1 : (l : Int).tdiv (c : Int) = (u : Int) := by rw [Int.tdiv_eq_ediv_of_nonneg (by omega), ← hu, Int.natCast_ediv]
  have L2 : (l : Int).tmod (c : Int) = (v : Int) := by rw [Int.tmod_eq_emod_of_nonneg (by omega), ← hv, Int.natCast_emod]
  rw [hu, hv] at HE
  rw [hv] at hlm
  have hc0' : ((c : Int) == 0) = false := by simp; omega
  have hc0'' : ¬ (c : Int) = 0 := by omega
  have HQ0 := HQ.out 0 (by omega)
  rw [Nat.pow_zero, Nat.mul_one] at HQ0
  have W2 : (l : Int) / (c : Int) = (u : Int) := by rw [← hu, Int.natCast_ediv]
  have W3 : (l : Int) % (c : Int) = (v : Int) := by rw [← hv, Int.natCast_emod]
  have W0 : Hid (wrap64 ((h : Int) / (c : Int)) = ((h / c : Nat) : Int)) := Lib.hid (by
    rw [← Int.natCast_ediv]
    generalize h / c = z at *
    unfold wrap64; omega)
  have W1 : Hid ((h : Int) % (c : Int) = ((h % c : Nat) : Int)) := Lib.hid (by rw [Int.natCast_emod])
  have HR0 := Nat.mod_lt h hc0
  have HQ0' := Lib.hid HQ0; have HR0' := Lib.hid HR0
  have HDB := Lib.hid (fun x => dbl_step x c hc0)
  clear hl1 hu hv hh hl HQ0 HR0
  go_enter Try.func25, Try.ntmps25
  go_wp2_with fail
  go_quiet (fail)
  simp only [W0.out, W1.out]
  go_wp2_with fail
  go_loop [9, 10, 11] (fun x y z => ∃ k q r : Nat, k ≤ 20 ∧ q ≤ 1099511627776 ∧ r < c ∧ x = .int .i64 q ∧ y = .int .i64 r ∧ z = .int .i64 k ∧ Hid (q = h * 2 ^ k / c ∧ r = h * 2 ^ k % c)) (fun _ _ z => 20 - (intOf z).toNat)
  case atStart => exact ⟨0, h / c, h % c, by omega, HQ0'.out, HR0'.out, rfl, rfl, rfl, Lib.hid (by rw [Nat.pow_zero, Nat.mul_one]; exact ⟨rfl, rfl⟩)⟩
  case round =>
    obtain ⟨k, q, r, hk, hq, hr, rfl, rfl, rfl, hqr⟩ := hrel
    by_cases hlt : k < 20
    · have hd := HDB.out (h * 2 ^ k)
      rw [← hqr.out.1, ← hqr.out.2] at hd
      have hb := HQ.out (k + 1) (by omega)
      have e2 : h * 2 ^ (k + 1) = 2 * (h * 2 ^ k) := by rw [Nat.pow_succ, Nat.mul_comm 2, Nat.mul_assoc]
      rw [e2, hd.1] at hb
      rw [← e2] at hd
      by_cases hge : c ≤ 2 * r
      · rw [if_pos hge] at hb hd
        have HD := Lib.hid (show 2 * q + 1 = h * 2 ^ (k + 1) / c ∧ 2 * r - c = h * 2 ^ (k + 1) % c by rw [hd.1, hd.2, if_pos hge]; exact ⟨rfl, rfl⟩)
        have hge' : (c : Int) ≤ (r : Int) * 2 := by omega
        clear hd e2
        go_wp2_with fail
        go_round
        case rel => exact ⟨k + 1, 2 * q + 1, 2 * r - c, by omega, by omega, by omega, by congr 1; omega, by congr 1; omega, by go_num, HD⟩
        case measure => simp [intOf]; omega
      · rw [if_neg hge] at hb hd
        have HD := Lib.hid (show 2 * q = h * 2 ^ (k + 1) / c ∧ 2 * r = h * 2 ^ (k + 1) % c by rw [hd.1, hd.2, if_neg hge]; exact ⟨rfl, rfl⟩)
        have hge' : ¬ (c : Int) ≤ (r : Int) * 2 := by omega
        clear hd e2
        go_wp2_with fail
        go_round
        case rel => exact ⟨k + 1, 2 * q, 2 * r, by omega, by omega, by omega, by congr 1; omega, by congr 1; omega, by go_num, HD⟩
        case measure => simp [intOf]; omega
    · have hqx : 0 ≤ (q : Int) ∧ (q : Int) ≤ 1099511627776 := by clear HE; omega
      have hux := HUX.out
      have hk20 : k = 20 := by clear HE; omega
      subst hk20
      have he := HE
      have e20 : h * 2 ^ 20 = h * 1048576 := rfl
      have hqq := hqr.out
      rw [e20] at hqq
      rw [← hqq.1, ← hqq.2] at he
      by_cases hge : c ≤ r + v
      · rw [if_pos hge] at he
        have HF : Hid ((q : Int) + (u : Int) + 1 = (Q : Int)) := Lib.hid (by rw [he.out]; rfl)
        have hge' : (c : Int) ≤ (r : Int) + (v : Int) := by omega
        clear HE he hqq e20 hqx hux hqr
        go_wp2_with fail
        go_ret
        exact ⟨ret_int HF.out, below_drewN (Below.refl _ _) _⟩
      · rw [if_neg hge] at he
        have HF : Hid ((q : Int) + (u : Int) = (Q : Int)) := Lib.hid (by rw [he.out]; rfl)
        have hge' : ¬ (c : Int) ≤ (r : Int) + (v : Int) := by omega
        clear HE he hqq e20 hqx hux hqr
        go_wp2_with fail
        go_ret
        exact ⟨ret_int HF.out, below_drewN (Below.refl _ _) _⟩
end Go.Proofs.Ytembipmficppnaa.kit
