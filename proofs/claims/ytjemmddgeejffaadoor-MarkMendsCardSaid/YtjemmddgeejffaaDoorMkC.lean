/- Whether a mark is right, its owner and its number: the program and the document. No condition. -/
import Derived.Test.YtjemmddgeejffaaDoorMkB
import Derived.Lib.IndexBytes
namespace Go.Proofs.YtjemmddgeejffaaDoor.kit
open Go.RowKit Go.PlainAid
set_option linter.unusedVariables false

theorem two_list (n : Nat) (h : n < 100) : padW 2 n = [UInt8.ofNat (48 + n / 10), UInt8.ofNat (48 + n % 10)] := by
  rw [padW_eq 2 n (by omega) (by omega), digsW, digsW, digsW, Nat.mod_eq_of_lt (show n / 10 < 10 by omega)]
  rfl
theorem tail_list {s : ByteArray} (h : s.size = 12) : s.data.toList.drop 10 = [s[10], s[11]] := by
  have hl := len_list s
  have e10 : s.data.toList[10]? = some s[10] := by rw [List.getElem?_eq_getElem (by omega)]; rfl
  have e11 : s.data.toList[11]? = some s[11] := by rw [List.getElem?_eq_getElem (by omega)]; rfl
  apply List.ext_getElem?
  intro i
  rw [List.getElem?_drop]
  match i with
  | 0 => exact e10
  | 1 => exact e11
  | i + 2 => rw [List.getElem?_eq_none (by omega)]; rfl
theorem u8_is (c : UInt8) (m : Nat) (h : m < 256) : c = UInt8.ofNat m ↔ (c.toNat : Int) = (m : Int) := by
  constructor
  · rintro rfl; simp; omega
  · intro h1
    apply UInt8.toNat_inj.1
    simp; omega
theorem tail_eq {s : ByteArray} (h : s.size = 12) {n : Nat} (hn : n < 97) : ((s.extract 10 s.size).toList == (bstr (padW 2 n)).toList) = (digB (bt s 10) && (digB (bt s 11) && decide ((n : Int) = 10 * (bt s 10 - 48) + (bt s 11 - 48)))) := by
  have h0 := get_bt s 10 (by omega)
  have h1 := get_bt s 11 (by omega)
  rw [ByteArray.toList_eq, ByteArray.toList_eq, Lib.extract_to_end, data_bstr, tail_list h, two_list n (by omega), Bool.eq_iff_iff]
  simp only [beq_iff_eq, List.cons.injEq, and_true, Bool.and_eq_true, decide_eq_true_eq, digB_iff]
  rw [u8_is _ _ (by omega), u8_is _ _ (by omega), h0, h1]
  omega
theorem right_in {s : ByteArray} (h : s.size = 12) (hh : headF s 10 = true) {n : Nat} (hn : (n : Int) = sumV s) : ((s.extract 10 s.size).toList == (bstr (padW 2 n)).toList) = rightB s := by
  have hv : sumV s = sumN s 10 % 97 := by unfold sumV headB; rw [if_pos (by rw [hh, decide_eq_true (by omega)]; rfl)]
  rw [tail_eq h (by have := sumV_bd s; omega)]
  unfold rightB
  rw [hh, decide_eq_true h, Bool.true_and, Bool.true_and, hn, hv]
theorem right_out {s : ByteArray} (hh : headF s 10 = false) : rightB s = false := by unfold rightB; rw [hh, Bool.false_and, Bool.and_false]
set_option maxHeartbeats 1600000 in
theorem right_any (s : ByteArray) (w : World) (hs : s.size ≤ maxLen) :
    Calls Tryd.prog 15 #[.string s] w fun e w' => e = .returned (.bool (rightB s)) ∧ Below w.heap.size w w' := by
  have HS := Lib.hid (sum_any s w hs)
  unfold maxLen at hs
  by_cases h12 : s.size = 12
  · cases hh : headF s 10
    · have E : Hid (false = rightB s) := Lib.hid (right_out hh).symm
      have hv : sumV s = -1 := sumV_out (by unfold headB; rw [hh, Bool.and_false])
      rw [hv] at HS
      clear hh hv
      go_enter Tryd.func15, Tryd.ntmps15
      go_wp2_with fail
      refine HS.out.mono ?_
      rintro e w' ⟨rfl, rfl⟩
      go_wp2_with fail
      go_quiet (fail)
      go_wp2_with fail
      go_ret
      exact ⟨ret_bool E.out, (by first | exact Below.refl _ _ | exact below_drewN (Below.refl _ _) _)⟩
    · obtain ⟨n, hn⟩ : ∃ n : Nat, sumV s = (n : Int) := ⟨(sumV s).toNat, by have := sumV_in (s := s) (by unfold headB; rw [hh, decide_eq_true (by omega)]; rfl); omega⟩
      have hb := sumV_bd s
      have E := right_in h12 hh hn.symm
      rw [h12] at E
      rw [hn] at HS hb
      have n0 : (0 : Int) ≤ (n : Int) := by omega
      have HD := Lib.hid (digits_small n 2 (by omega) (by omega))
      clear hh hn
      go_enter Tryd.func15, Tryd.ntmps15
      go_wp2_with fail
      refine HS.out.mono ?_
      rintro e w' ⟨rfl, rfl⟩
      go_wp2_with fail
      go_quiet ((go_at_call 27; exact Calls.quiet_of_same ((HD.out _).mono fun _ _ h => ⟨h.1, h.2⟩)))
      go_wp2_with fail
      go_ret
      exact ⟨rfl, (by first | exact Below.refl _ _ | exact below_drewN (Below.refl _ _) _)⟩
  · have E : Hid (false = rightB s) := Lib.hid (by unfold rightB; rw [decide_eq_false h12]; rfl)
    have h12' : ¬ (s.size : Int) = 12 := by omega
    clear HS
    go_enter Tryd.func15, Tryd.ntmps15
    go_wp2_with fail
    go_ret
    exact ⟨ret_bool E.out, (by first | exact Below.refl _ _ | exact below_drewN (Below.refl _ _) _)⟩
set_option maxHeartbeats 1600000 in
theorem owner_any (s : ByteArray) (w : World) (hs : s.size ≤ maxLen) :
    Calls Tryd.prog 21 #[.string s] w fun e w' => e = .returned (.string (if rightB s = true then s.extract 0 4 else ⟨#[]⟩)) ∧ Below w.heap.size w w' := by
  have HR := Lib.hid (right_any s w hs)
  unfold maxLen at hs
  cases hh : rightB s
  · rw [hh] at HR
    clear hh
    go_enter Tryd.func21, Tryd.ntmps21
    go_wp2_with fail
    refine HR.out.mono ?_
    rintro e w1 ⟨rfl, hb1⟩
    go_wp2_with fail
    go_ret
    exact ⟨rfl, hb1⟩
  · have h12 : s.size = 12 := by unfold rightB at hh; simp at hh; exact hh.1
    rw [hh] at HR
    clear hh
    go_enter Tryd.func21, Tryd.ntmps21
    go_wp2_with fail
    refine HR.out.mono ?_
    rintro e w1 ⟨rfl, hb1⟩
    go_wp2_with fail
    go_ret
    exact ⟨rfl, hb1⟩
set_option maxHeartbeats 1600000 in
theorem number_any (s : ByteArray) (w : World) (hs : s.size ≤ maxLen) :
    Calls Tryd.prog 22 #[.string s] w fun e w' => e = .returned (.int .i64 (if rightB s = true then numN s 6 else -1)) ∧ Below w.heap.size w w' := by
  have HR := Lib.hid (right_any s w hs)
  unfold maxLen at hs
  cases hh : rightB s
  · rw [hh] at HR
    clear hh
    go_enter Tryd.func22, Tryd.ntmps22
    go_wp2_with fail
    refine HR.out.mono ?_
    rintro e w1 ⟨rfl, hb1⟩
    go_wp2_with fail
    go_ret
    exact ⟨rfl, hb1⟩
  · have h12 : s.size = 12 := by unfold rightB at hh; simp at hh; exact hh.1
    have HH : Hid (headF s 10 = true) := Lib.hid (by unfold rightB at hh; simp at hh; exact hh.2.1)
    rw [hh] at HR
    clear hh
    have hb := get_bt s
    go_enter Tryd.func22, Tryd.ntmps22
    go_wp2_with fail
    refine HR.out.mono ?_
    rintro e w1 ⟨rfl, hb1⟩
    go_wp2_with fail
    go_loop [3, 4] (fun t i => ∃ k : Nat, k ≤ 6 ∧ i = .int .i64 ((k : Int) + 4) ∧ t = .int .i64 (numN s k)) (fun _ i => 10 - (intOf i).toNat)
    case atStart => exact ⟨0, Nat.zero_le _, rfl, rfl⟩
    case round =>
      obtain ⟨k, hk, rfl, rfl⟩ := hrel
      have hs1 := num_bd HH.out hk
      have hpw : (10 ^ k : Nat) ≤ 10 ^ 6 := Nat.pow_le_pow_right (by omega) hk
      have hpw' : numN s k < 1000000 := by omega
      clear hpw
      by_cases hlt : k < 6
      · have hok := headF_at HH.out (k + 4) (by omega)
        have hq := digB_iff.1 (show digB (bt s (k + 4)) = true by unfold okAt at hok; rwa [if_neg (by omega)] at hok)
        have HN : Hid (numN s k * 10 + (bt s (k + 4) - 48) = numN s (k + 1)) := Lib.hid (by rw [numN_succ])
        have hks : k + 4 < s.size := by omega
        have hs10 := hs1.1
        clear hok hs1
        go_wp2
        go_round
        case rel => exact ⟨k + 1, by omega, by go_num, by rw [← HN.out]⟩
        case measure => simp [intOf]; omega
      · have hk6 : k = 6 := by omega
        subst hk6
        clear hs1
        go_wp2
        go_ret
        exact ⟨rfl, hb1⟩
set_option maxHeartbeats 1600000 in
theorem rright_any (s : ByteArray) (w : World) (hs : s.size ≤ maxLen) :
    Calls Tryd.prog 16 #[.string s] w fun e w' => e = .returned (.bool (rightB s)) ∧ Below w.heap.size w w' := by
  have HS := Lib.hid (fun w => rsum_any s w hs)
  have HH := Lib.hid (fun w => head_any s w hs)
  unfold maxLen at hs
  by_cases h12 : s.size = 12
  · have hh : headB s = headF s 10 := by unfold headB; rw [decide_eq_true (by omega)]; rfl
    have hR : rightB s = (headF s 10 && (digB (bt s 10) && (digB (bt s 11) && decide (sumN s 10 % 97 = 10 * (bt s 10 - 48) + (bt s 11 - 48))))) := by unfold rightB; rw [decide_eq_true h12]; rfl
    rw [hh] at HH
    have hb := get_bt s
    cases h0 : headF s 10
    · have E : Hid (false = rightB s) := Lib.hid (right_out h0).symm
      rw [h0] at HH
      clear hh h0 hR
      go_enter Tryd.func16, Tryd.ntmps16
      go_wp2_with fail
      go_quiet ((first | (go_at_call 28; exact Calls.quiet_of_same ((HH.out _).mono fun _ _ h => ⟨h.1, h.2.symm⟩)) | (go_at_call 29; exact Calls.quiet_of_same ((rdigit_any _ _).mono fun _ _ h => ⟨h.1, h.2.symm⟩)) | (go_at_call 13; exact Calls.quiet_of_same ((HS.out _).mono fun _ _ h => ⟨h.1, h.2.symm⟩))))
      go_wp2_with fail
      go_ret
      exact ⟨ret_bool E.out, (by first | exact Below.refl _ _ | exact below_drewN (Below.refl _ _) _)⟩
    have hv : sumV s = sumN s 10 % 97 := by unfold sumV; rw [if_pos (by rw [hh, h0])]
    rw [hv] at HS
    rw [h0] at HH hR
    cases h1 : digB (bt s 10)
    · have E : Hid (false = rightB s) := Lib.hid (by rw [hR, h1]; rfl)
      clear hh h0 hR
      go_enter Tryd.func16, Tryd.ntmps16
      go_wp2_with fail
      go_quiet ((first | (go_at_call 28; exact Calls.quiet_of_same ((HH.out _).mono fun _ _ h => ⟨h.1, h.2.symm⟩)) | (go_at_call 29; exact Calls.quiet_of_same ((rdigit_any _ _).mono fun _ _ h => ⟨h.1, h.2.symm⟩)) | (go_at_call 13; exact Calls.quiet_of_same ((HS.out _).mono fun _ _ h => ⟨h.1, h.2.symm⟩))))
      go_wp2_with fail
      go_ret
      exact ⟨ret_bool E.out, (by first | exact Below.refl _ _ | exact below_drewN (Below.refl _ _) _)⟩
    cases h2 : digB (bt s 11)
    · have E : Hid (false = rightB s) := Lib.hid (by rw [hR, h1, h2]; rfl)
      clear hh h0 hR
      go_enter Tryd.func16, Tryd.ntmps16
      go_wp2_with fail
      go_quiet ((first | (go_at_call 28; exact Calls.quiet_of_same ((HH.out _).mono fun _ _ h => ⟨h.1, h.2.symm⟩)) | (go_at_call 29; exact Calls.quiet_of_same ((rdigit_any _ _).mono fun _ _ h => ⟨h.1, h.2.symm⟩)) | (go_at_call 13; exact Calls.quiet_of_same ((HS.out _).mono fun _ _ h => ⟨h.1, h.2.symm⟩))))
      go_wp2_with fail
      go_ret
      exact ⟨ret_bool E.out, (by first | exact Below.refl _ _ | exact below_drewN (Below.refl _ _) _)⟩
    have E : Hid (decide (sumN s 10 % 97 = 10 * (bt s 10 - 48) + (bt s 11 - 48)) = rightB s) := Lib.hid (by rw [hR, h1, h2]; rfl)
    have d1 := digB_iff.1 h1
    have d2 := digB_iff.1 h2
    have E2 : Hid ((sumN s 10 % 97 == 10 * (bt s 10 - 48) + bt s 11 - 48) = rightB s) := Lib.hid (by
      rw [← E.out, Bool.eq_iff_iff]; simp only [beq_iff_eq, decide_eq_true_eq]; omega)
    obtain ⟨X, hX⟩ : ∃ X, (sumN s 10 % 97 == 10 * (bt s 10 - 48) + bt s 11 - 48) = X := ⟨_, rfl⟩
    rw [hX] at E2
    have w1 : wrap64 (bt s 10 - 48) = bt s 10 - 48 := by unfold wrap64; omega
    have w2 : wrap64 (10 * (bt s 10 - 48)) = 10 * (bt s 10 - 48) := by unfold wrap64; omega
    have w3 : wrap64 (10 * (bt s 10 - 48) + bt s 11) = 10 * (bt s 10 - 48) + bt s 11 := by unfold wrap64; omega
    have w4 : wrap64 (10 * (bt s 10 - 48) + bt s 11 - 48) = 10 * (bt s 10 - 48) + bt s 11 - 48 := by unfold wrap64; omega
    clear hh h0 hR E hv
    go_enter Tryd.func16, Tryd.ntmps16
    go_wp2_with fail
    go_quiet ((first | (go_at_call 28; exact Calls.quiet_of_same ((HH.out _).mono fun _ _ h => ⟨h.1, h.2.symm⟩)) | (go_at_call 29; exact Calls.quiet_of_same ((rdigit_any _ _).mono fun _ _ h => ⟨h.1, h.2.symm⟩)) | (go_at_call 13; exact Calls.quiet_of_same ((HS.out _).mono fun _ _ h => ⟨h.1, h.2.symm⟩))))
    go_wp2_with fail
    go_ret
    exact ⟨ret_bool E2.out, (by first | exact Below.refl _ _ | exact below_drewN (Below.refl _ _) _)⟩
  · have E : Hid (false = rightB s) := Lib.hid (by unfold rightB; rw [decide_eq_false h12]; rfl)
    have h12' : ((s.size : Int) == 12) = false := by simp; omega
    have h12n : (s.size == 12) = false := by simp; omega
    go_enter Tryd.func16, Tryd.ntmps16
    go_wp2_with fail
    go_quiet ((first | (go_at_call 28; exact Calls.quiet_of_same ((HH.out _).mono fun _ _ h => ⟨h.1, h.2.symm⟩)) | (go_at_call 29; exact Calls.quiet_of_same ((rdigit_any _ _).mono fun _ _ h => ⟨h.1, h.2.symm⟩)) | (go_at_call 13; exact Calls.quiet_of_same ((HS.out _).mono fun _ _ h => ⟨h.1, h.2.symm⟩))))
    go_wp2_with fail
    go_ret
    exact ⟨ret_bool E.out, (by first | exact Below.refl _ _ | exact below_drewN (Below.refl _ _) _)⟩
end Go.Proofs.YtjemmddgeejffaaDoor.kit
