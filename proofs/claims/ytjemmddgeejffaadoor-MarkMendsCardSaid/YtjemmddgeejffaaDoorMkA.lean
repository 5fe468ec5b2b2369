/- Letters, digits and sums of marks: the program and the document. No condition. -/
import Derived.Test.YtjemmddgeejffaaDoorMk
namespace Go.Proofs.YtjemmddgeejffaaDoor.kit
open Go.RowKit Go.PlainAid
set_option linter.unusedVariables false

theorem isLetter_any (c : Int) (w : World) : Calls Tryd.prog 26 #[.int .u8 c] w fun e w' => e = .returned (.bool (letB c)) ∧ w = w' := by
  by_cases h0 : 97 ≤ c
  all_goals
    go_enter Tryd.func26, Tryd.ntmps26
    go_wp2
    go_ret
    exact ⟨ret_bool (by unfold letB; first | (simp; done) | (simp; omega)), rfl⟩
theorem isDigit_any (c : Int) (w : World) : Calls Tryd.prog 30 #[.int .u8 c] w fun e w' => e = .returned (.bool (digB c)) ∧ w = w' := by
  by_cases h0 : 48 ≤ c
  all_goals
    go_enter Tryd.func30, Tryd.ntmps30
    go_wp2
    go_ret
    exact ⟨ret_bool (by unfold digB; first | (simp; done) | (simp; omega)), rfl⟩
theorem rletter_any (c : Int) (w : World) : Calls Tryd.prog 31 #[.int .u8 c] w fun e w' => e = .returned (.bool (letB c)) ∧ w = w' := by
  by_cases h0 : 97 ≤ c
  all_goals
    go_enter Tryd.func31, Tryd.ntmps31
    go_wp2
    go_ret
    exact ⟨ret_bool (by unfold letB; first | (simp; done) | (simp; omega)), rfl⟩
theorem rdigit_any (c : Int) (w : World) : Calls Tryd.prog 29 #[.int .u8 c] w fun e w' => e = .returned (.bool (digB c)) ∧ w = w' := by
  by_cases h0 : 48 ≤ c
  all_goals
    go_enter Tryd.func29, Tryd.ntmps29
    go_wp2
    go_ret
    exact ⟨ret_bool (by unfold digB; first | (simp; done) | (simp; omega)), rfl⟩
set_option maxHeartbeats 1600000 in
theorem sum_any (s : ByteArray) (w : World) (hs : s.size ≤ maxLen) :
    Calls Tryd.prog 20 #[.string s] w fun e w' => e = .returned (.int .i64 (sumV s)) ∧ w = w' := by
  unfold maxLen at hs
  by_cases h1 : s.size < 10
  · have e : Hid (-1 = sumV s) := Lib.hid (sumV_out (by unfold headB; rw [decide_eq_false (by omega)]; rfl)).symm
    go_enter Tryd.func20, Tryd.ntmps20
    go_wp2
    go_ret
    exact ⟨ret_int e.out, rfl⟩
  have hb := get_bt s
  have HH : Hid (headB s = headF s 10) := Lib.hid (by unfold headB; rw [decide_eq_true (by omega)]; rfl)
  go_enter Tryd.func20, Tryd.ntmps20
  go_wp2
  go_loop [3, 9] (fun t i => ∃ k : Nat, k ≤ 10 ∧ i = .int .i64 k ∧ t = .int .i64 (sumN s k) ∧ Hid (headF s k = true)) (fun _ i => 10 - (intOf i).toNat)
  case atStart => exact ⟨0, Nat.zero_le _, rfl, rfl, Lib.hid rfl⟩
  case round =>
    obtain ⟨k, hk, rfl, rfl, hd⟩ := hrel
    by_cases hlt : k < 10
    · have hks : k < s.size := by omega
      have hs1 := sum_bd hk hd.out
      have HOK := Lib.hid (headF_bad (s := s) hlt)
      have HD1 : Hid (okAt s k = true → headF s (k + 1) = true) := Lib.hid (fun h => by unfold headF; rw [hd.out, h]; rfl)
      by_cases h4 : k < 4
      · cases q : letB (bt s k)
        · have HE : Hid (-1 = sumV s) := Lib.hid (sumV_out (by rw [HH.out]; exact HOK.out (by unfold okAt; rw [if_pos h4, q]))).symm
          clear hs1
          go_wp2_with (first | (go_at_call 26; refine (isLetter_any _ _).mono ?_; rintro e w' ⟨rfl, rfl⟩) | (go_at_call 30; refine (isDigit_any _ _).mono ?_; rintro e w' ⟨rfl, rfl⟩) | (go_at_call 31; refine (rletter_any _ _).mono ?_; rintro e w' ⟨rfl, rfl⟩) | (go_at_call 29; refine (rdigit_any _ _).mono ?_; rintro e w' ⟨rfl, rfl⟩))
          go_ret
          exact ⟨ret_int HE.out, rfl⟩
        · have hq := letB_iff.1 q
          have HN : Hid (sumN s k + (bt s k - 97 + 1) * ((k : Int) + 1) = sumN s (k + 1)) := Lib.hid (by rw [sumN_succ]; unfold vAt; rw [if_pos h4, show bt s k - 97 + 1 = bt s k - 96 by omega])
          have HD2 := Lib.hid (HD1.out (by unfold okAt; rw [if_pos h4, q]))
          have hp : (bt s k - 97 + 1) * ((k : Int) + 1) ≤ 1000 ∧ 0 ≤ (bt s k - 97 + 1) * ((k : Int) + 1) := ⟨by
            have := Int.mul_le_mul_of_nonneg_right (show bt s k - 97 + 1 ≤ 26 by omega) (show 0 ≤ (k : Int) + 1 by omega); omega, Int.mul_nonneg (by omega) (by omega)⟩
          go_wp2_with (first | (go_at_call 26; refine (isLetter_any _ _).mono ?_; rintro e w' ⟨rfl, rfl⟩) | (go_at_call 30; refine (isDigit_any _ _).mono ?_; rintro e w' ⟨rfl, rfl⟩) | (go_at_call 31; refine (rletter_any _ _).mono ?_; rintro e w' ⟨rfl, rfl⟩) | (go_at_call 29; refine (rdigit_any _ _).mono ?_; rintro e w' ⟨rfl, rfl⟩))
          go_round
          case rel => exact ⟨k + 1, by omega, by go_num, by rw [← HN.out], HD2⟩
          case measure => simp [intOf]; omega
      · cases q : digB (bt s k)
        · have HE : Hid (-1 = sumV s) := Lib.hid (sumV_out (by rw [HH.out]; exact HOK.out (by unfold okAt; rw [if_neg h4, q]))).symm
          clear hs1
          go_wp2_with (first | (go_at_call 26; refine (isLetter_any _ _).mono ?_; rintro e w' ⟨rfl, rfl⟩) | (go_at_call 30; refine (isDigit_any _ _).mono ?_; rintro e w' ⟨rfl, rfl⟩) | (go_at_call 31; refine (rletter_any _ _).mono ?_; rintro e w' ⟨rfl, rfl⟩) | (go_at_call 29; refine (rdigit_any _ _).mono ?_; rintro e w' ⟨rfl, rfl⟩))
          go_ret
          exact ⟨ret_int HE.out, rfl⟩
        · have hq := digB_iff.1 q
          have HN : Hid (sumN s k + (bt s k - 48) * ((k : Int) + 1) = sumN s (k + 1)) := Lib.hid (by rw [sumN_succ]; unfold vAt; rw [if_neg h4])
          have HD2 := Lib.hid (HD1.out (by unfold okAt; rw [if_neg h4, q]))
          have hp : (bt s k - 48) * ((k : Int) + 1) ≤ 1000 ∧ 0 ≤ (bt s k - 48) * ((k : Int) + 1) := ⟨by
            have := Int.mul_le_mul_of_nonneg_right (show bt s k - 48 ≤ 26 by omega) (show 0 ≤ (k : Int) + 1 by omega); omega, Int.mul_nonneg (by omega) (by omega)⟩
          go_wp2_with (first | (go_at_call 26; refine (isLetter_any _ _).mono ?_; rintro e w' ⟨rfl, rfl⟩) | (go_at_call 30; refine (isDigit_any _ _).mono ?_; rintro e w' ⟨rfl, rfl⟩) | (go_at_call 31; refine (rletter_any _ _).mono ?_; rintro e w' ⟨rfl, rfl⟩) | (go_at_call 29; refine (rdigit_any _ _).mono ?_; rintro e w' ⟨rfl, rfl⟩))
          go_round
          case rel => exact ⟨k + 1, by omega, by go_num, by rw [← HN.out], HD2⟩
          case measure => simp [intOf]; omega
    · have hk10 : k = 10 := by omega
      subst hk10
      have hs1 := sum_bd (Nat.le_refl _) hd.out
      have HE : Hid (sumN s 10 % 97 = sumV s) := Lib.hid (by unfold sumV; rw [HH.out, if_pos hd.out])
      go_wp2_with (first | (go_at_call 26; refine (isLetter_any _ _).mono ?_; rintro e w' ⟨rfl, rfl⟩) | (go_at_call 30; refine (isDigit_any _ _).mono ?_; rintro e w' ⟨rfl, rfl⟩) | (go_at_call 31; refine (rletter_any _ _).mono ?_; rintro e w' ⟨rfl, rfl⟩) | (go_at_call 29; refine (rdigit_any _ _).mono ?_; rintro e w' ⟨rfl, rfl⟩))
      go_ret
      exact ⟨ret_int HE.out, rfl⟩
set_option maxHeartbeats 1600000 in
theorem head_any (s : ByteArray) (w : World) (hs : s.size ≤ maxLen) :
    Calls Tryd.prog 28 #[.string s] w fun e w' => e = .returned (.bool (headB s)) ∧ w = w' := by
  unfold maxLen at hs
  by_cases h1 : s.size < 10
  · have e : Hid (false = headB s) := Lib.hid (by unfold headB; rw [decide_eq_false (by omega)]; rfl)
    go_enter Tryd.func28, Tryd.ntmps28
    go_wp2
    go_ret
    exact ⟨ret_bool e.out, rfl⟩
  have hb := get_bt s
  have HH : Hid (headB s = headF s 10) := Lib.hid (by unfold headB; rw [decide_eq_true (by omega)]; rfl)
  go_enter Tryd.func28, Tryd.ntmps28
  go_wp2
  go_loop [3] (fun i => ∃ k : Nat, k ≤ 10 ∧ i = .int .i64 k ∧ Hid (headF s k = true)) (fun i => 10 - (intOf i).toNat)
  case atStart => exact ⟨0, Nat.zero_le _, rfl, Lib.hid rfl⟩
  case round =>
    obtain ⟨k, hk, rfl, hd⟩ := hrel
    by_cases hlt : k < 10
    · have hks : k < s.size := by omega
      have HOK := Lib.hid (headF_bad (s := s) hlt)
      have HD1 : Hid (okAt s k = true → headF s (k + 1) = true) := Lib.hid (fun h => by unfold headF; rw [hd.out, h]; rfl)
      by_cases h4 : k < 4
      · cases q : letB (bt s k)
        · have HE : Hid (false = headB s) := Lib.hid (by rw [HH.out]; exact (HOK.out (by unfold okAt; rw [if_pos h4, q])).symm)
          go_wp2_with (first | (go_at_call 26; refine (isLetter_any _ _).mono ?_; rintro e w' ⟨rfl, rfl⟩) | (go_at_call 30; refine (isDigit_any _ _).mono ?_; rintro e w' ⟨rfl, rfl⟩) | (go_at_call 31; refine (rletter_any _ _).mono ?_; rintro e w' ⟨rfl, rfl⟩) | (go_at_call 29; refine (rdigit_any _ _).mono ?_; rintro e w' ⟨rfl, rfl⟩))
          go_ret
          exact ⟨ret_bool HE.out, rfl⟩
        · have HD2 := Lib.hid (HD1.out (by unfold okAt; rw [if_pos h4, q]))
          go_wp2_with (first | (go_at_call 26; refine (isLetter_any _ _).mono ?_; rintro e w' ⟨rfl, rfl⟩) | (go_at_call 30; refine (isDigit_any _ _).mono ?_; rintro e w' ⟨rfl, rfl⟩) | (go_at_call 31; refine (rletter_any _ _).mono ?_; rintro e w' ⟨rfl, rfl⟩) | (go_at_call 29; refine (rdigit_any _ _).mono ?_; rintro e w' ⟨rfl, rfl⟩))
          go_round
          case rel => exact ⟨k + 1, by omega, by go_num, HD2⟩
          case measure => simp [intOf]; omega
      · cases q : digB (bt s k)
        · have HE : Hid (false = headB s) := Lib.hid (by rw [HH.out]; exact (HOK.out (by unfold okAt; rw [if_neg h4, q])).symm)
          go_wp2_with (first | (go_at_call 26; refine (isLetter_any _ _).mono ?_; rintro e w' ⟨rfl, rfl⟩) | (go_at_call 30; refine (isDigit_any _ _).mono ?_; rintro e w' ⟨rfl, rfl⟩) | (go_at_call 31; refine (rletter_any _ _).mono ?_; rintro e w' ⟨rfl, rfl⟩) | (go_at_call 29; refine (rdigit_any _ _).mono ?_; rintro e w' ⟨rfl, rfl⟩))
          go_ret
          exact ⟨ret_bool HE.out, rfl⟩
        · have HD2 := Lib.hid (HD1.out (by unfold okAt; rw [if_neg h4, q]))
          go_wp2_with (first | (go_at_call 26; refine (isLetter_any _ _).mono ?_; rintro e w' ⟨rfl, rfl⟩) | (go_at_call 30; refine (isDigit_any _ _).mono ?_; rintro e w' ⟨rfl, rfl⟩) | (go_at_call 31; refine (rletter_any _ _).mono ?_; rintro e w' ⟨rfl, rfl⟩) | (go_at_call 29; refine (rdigit_any _ _).mono ?_; rintro e w' ⟨rfl, rfl⟩))
          go_round
          case rel => exact ⟨k + 1, by omega, by go_num, HD2⟩
          case measure => simp [intOf]; omega
    · have hk10 : k = 10 := by omega
      subst hk10
      have HE : Hid (true = headB s) := Lib.hid (by rw [HH.out, hd.out])
      go_wp2_with (first | (go_at_call 26; refine (isLetter_any _ _).mono ?_; rintro e w' ⟨rfl, rfl⟩) | (go_at_call 30; refine (isDigit_any _ _).mono ?_; rintro e w' ⟨rfl, rfl⟩) | (go_at_call 31; refine (rletter_any _ _).mono ?_; rintro e w' ⟨rfl, rfl⟩) | (go_at_call 29; refine (rdigit_any _ _).mono ?_; rintro e w' ⟨rfl, rfl⟩))
      go_ret
      exact ⟨ret_bool HE.out, rfl⟩
set_option maxHeartbeats 1600000 in
theorem rsum_any (s : ByteArray) (w : World) (hs : s.size ≤ maxLen) :
    Calls Tryd.prog 13 #[.string s] w fun e w' => e = .returned (.int .i64 (sumV s)) ∧ w = w' := by
  cases hh : headB s
  · have e : Hid (-1 = sumV s) := Lib.hid (sumV_out hh).symm
    have HC := Lib.hid (head_any s w hs)
    rw [hh] at HC
    clear hh
    go_enter Tryd.func13, Tryd.ntmps13
    go_wp2_with fail
    refine HC.out.mono ?_
    rintro e w' ⟨rfl, rfl⟩
    go_wp2
    go_ret
    exact ⟨ret_int e.out, rfl⟩
  have HC := Lib.hid (head_any s w hs)
  rw [hh] at HC
  have h10 : 10 ≤ s.size ∧ headF s 10 = true := by unfold headB at hh; simpa using hh
  have HH := Lib.hid h10.2
  have h10' := h10.1
  have HE : Hid (sumN s 10 % 97 = sumV s) := Lib.hid (by unfold sumV; rw [if_pos hh])
  unfold maxLen at hs
  have hb := get_bt s
  clear hh h10
  go_enter Tryd.func13, Tryd.ntmps13
  go_wp2_with fail
  refine HC.out.mono ?_
  rintro e w' ⟨rfl, rfl⟩
  go_wp2
  go_loop [3, 4] (fun t i => ∃ k : Nat, k ≤ 10 ∧ i = .int .i64 k ∧ t = .int .i64 (sumN s k)) (fun _ i => 10 - (intOf i).toNat)
  case atStart => exact ⟨0, Nat.zero_le _, rfl, rfl⟩
  case round =>
    obtain ⟨k, hk, rfl, rfl⟩ := hrel
    have hs1 := sum_bd hk (headF_of (fun i hi => headF_at HH.out i (by omega)))
    by_cases hlt : k < 10
    · have hks : k < s.size := by omega
      have hok := headF_at HH.out k hlt
      by_cases h4 : k < 4
      · have hq := letB_iff.1 (show letB (bt s k) = true by unfold okAt at hok; rwa [if_pos h4] at hok)
        have HN : Hid (sumN s k + (bt s k - 96) * ((k : Int) + 1) = sumN s (k + 1)) := Lib.hid (by rw [sumN_succ]; unfold vAt; rw [if_pos h4])
        have hp : (bt s k - 96) * ((k : Int) + 1) ≤ 1000 ∧ 0 ≤ (bt s k - 96) * ((k : Int) + 1) := ⟨by
          have := Int.mul_le_mul_of_nonneg_right (show bt s k - 96 ≤ 26 by omega) (show 0 ≤ (k : Int) + 1 by omega); omega, Int.mul_nonneg (by omega) (by omega)⟩
        clear hok
        go_wp2
        go_round
        case rel => exact ⟨k + 1, by omega, by go_num, by rw [← HN.out]⟩
        case measure => simp [intOf]; omega
      · have hq := digB_iff.1 (show digB (bt s k) = true by unfold okAt at hok; rwa [if_neg h4] at hok)
        have HN : Hid (sumN s k + (bt s k - 48) * ((k : Int) + 1) = sumN s (k + 1)) := Lib.hid (by rw [sumN_succ]; unfold vAt; rw [if_neg h4])
        have hp : (bt s k - 48) * ((k : Int) + 1) ≤ 1000 ∧ 0 ≤ (bt s k - 48) * ((k : Int) + 1) := ⟨by
          have := Int.mul_le_mul_of_nonneg_right (show bt s k - 48 ≤ 26 by omega) (show 0 ≤ (k : Int) + 1 by omega); omega, Int.mul_nonneg (by omega) (by omega)⟩
        clear hok
        go_wp2
        go_round
        case rel => exact ⟨k + 1, by omega, by go_num, by rw [← HN.out]⟩
        case measure => simp [intOf]; omega
    · have hk10 : k = 10 := by omega
      subst hk10
      go_wp2
      go_ret
      exact ⟨ret_int HE.out, rfl⟩
set_option maxHeartbeats 1600000 in
theorem rnumber_any (s : ByteArray) (w : World) (hr : headF s 10 = true) (h10 : 10 ≤ s.size) :
    Calls Tryd.prog 17 #[.string s] w fun e w' => e = .returned (.int .i64 (numN s 6)) ∧ w = w' := by
  have HH := Lib.hid hr
  have hb := get_bt s
  clear hr
  go_enter Tryd.func17, Tryd.ntmps17
  go_wp2
  go_loop [3, 4] (fun t i => ∃ k : Nat, k ≤ 6 ∧ i = .int .i64 ((k : Int) + 4) ∧ t = .int .i64 (numN s k)) (fun _ i => 10 - (intOf i).toNat)
  case atStart => exact ⟨0, Nat.zero_le _, rfl, rfl⟩
  case round =>
    obtain ⟨k, hk, rfl, rfl⟩ := hrel
    have hs1 := num_bd HH.out hk
    have hpw : (10 ^ k : Nat) ≤ 10 ^ 6 := Nat.pow_le_pow_right (by omega) hk
    have hpw' : numN s k < 1000000 := by omega
    clear hpw
    by_cases hlt : k < 6
    · have hok := headF_at HH.out (k + 4) (by omega)
      have hq := digB_iff.1 (show digB (bt s (k + 4)) = true by unfold okAt at hok; rwa [if_neg (by omega)] at hok)
      have HN : Hid (numN s k * 10 + bt s (k + 4) - 48 = numN s (k + 1)) := Lib.hid (by rw [numN_succ]; omega)
      have hks : k + 4 < s.size := by omega
      have hs10 := hs1.1
      clear hok hs1
      go_wp2
      go_round
      case rel => exact ⟨k + 1, by omega, by go_num, by rw [← HN.out]⟩
      case measure => simp [intOf]; omega
    · have hk6 : k = 6 := by omega
      subst hk6
      clear hs1
      go_wp2
      go_ret
      exact ⟨rfl, rfl⟩
end Go.Proofs.YtjemmddgeejffaaDoor.kit
