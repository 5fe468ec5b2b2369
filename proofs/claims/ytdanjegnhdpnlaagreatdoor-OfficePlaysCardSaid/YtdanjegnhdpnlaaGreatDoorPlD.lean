/- The document's digits of a number; its paper of an insurance. No condition. -/
import Derived.Test.YtdanjegnhdpnlaaGreatDoorPlC
import Derived.Laws.BytesArg
import Derived.IntWalk
namespace Go.Proofs.YtdanjegnhdpnlaaGreatDoor.kit
open Go.RowKit Go.PlainAid
set_option linter.unusedVariables false
set_option linter.unusedSimpArgs false
set_option maxRecDepth 100000
set_option maxHeartbeats 6400000
theorem dec_le (n : Nat) : (Lib.decDigits n).length ≤ n + 1 := by
  induction n using Nat.strongRecOn with
  | ind n ih =>
    by_cases h : n < 10
    · rw [dec_small h]; simp
    · rw [dec_big h, List.length_append]
      have := ih (n / 10) (by omega)
      simp
      omega
theorem conv_d (w : World) (c : Int) : (convert 66 9 (.slice (some ⟨w.heap.size, 0, none⟩) 1 1)).run Tryz.prog (w.alloc (.cells #[.int .u8 c] 5)) = .ok (.string ⟨#[UInt8.ofNat c.toNat]⟩) (w.alloc (.cells #[.int .u8 c] 5)) :=
  run_convert_bytes_arg _ _ _ Tryz.underlying66 Tryz.underlying5 w.heap.size 0 1 1 [c] rfl (fun i hi => by
    obtain rfl : i = 0 := by omega
    exact (Blk.new w 5 #[.int .u8 c]).cell 0) _ Tryz.underlying9
theorem conv_g (w : World) (g : Nat) (c : Int) (h : Blk w g 5 #[.int .u8 c]) : (convert 66 9 (.slice (some ⟨g, 0, none⟩) 1 1)).run Tryz.prog w = .ok (.string ⟨#[UInt8.ofNat c.toNat]⟩) w :=
  run_convert_bytes_arg _ _ _ Tryz.underlying66 Tryz.underlying5 g 0 1 1 [c] rfl (fun i hi => by
    obtain rfl : i = 0 := by omega
    exact h.cell 0) _ Tryz.underlying9
theorem bs_u8 (w : World) (c : Int) : (Instr.buildSlice 66 1 #[(0, .int .u8 c)]).run Tryz.prog w = .ok (.slice (some ⟨w.heap.size, 0, none⟩) 1 1) (w.alloc (.cells #[.int .u8 c] 5)) := by kernel_rfl
/-- The row of one byte. -/
def ByR (c : Int) : Value → World → Prop := fun v W => ∃ g, v = .slice (some ⟨g, 0, none⟩) 1 1 ∧ Blk W g 5 #[.int .u8 c]
theorem stab_byr (c : Int) : Stab (ByR c) := fun _ _ _ ⟨g, h1, h2⟩ hb => ⟨g, h1, h2.below hb h2.lt⟩
theorem quo_p (m : Nat) (w : World) (hm : m ≤ 9223372036854775807) : (binOp .quo 2 (.int .i64 (m : Int)) (.int .i64 10)).run Tryz.prog w = .ok (.int .i64 ((m / 10 : Nat) : Int)) w := by
  go_simp
  exact IntWalk.i64_in _ (by omega)
theorem quo_n (m : Nat) (w : World) (hm : m ≤ 9223372036854775808) : (binOp .quo 2 (.int .i64 (-(m : Int))) (.int .i64 10)).run Tryz.prog w = .ok (.int .i64 (-((m / 10 : Nat) : Int))) w := by
  go_simp
  exact IntWalk.i64_in _ (by omega)
theorem rem_p (m : Nat) (w : World) (hm : m ≤ 9223372036854775807) : (binOp .rem 2 (.int .i64 (m : Int)) (.int .i64 10)).run Tryz.prog w = .ok (.int .i64 ((m % 10 : Nat) : Int)) w := by
  go_simp
  rw [IntWalk.rem_in _ _ (by omega)]
theorem rem_n (m : Nat) (w : World) (hm : m ≤ 9223372036854775808) : (binOp .rem 2 (.int .i64 (-(m : Int))) (.int .i64 10)).run Tryz.prog w = .ok (.int .i64 (-((m % 10 : Nat) : Int))) w := by
  go_simp
  rw [IntWalk.rem_in _ _ (by omega)]
theorem sub_n (m : Nat) (w : World) (hm : m ≤ 9) : (binOp .sub 2 (.int .i64 48) (.int .i64 (-(m : Int)))).run Tryz.prog w = .ok (.int .i64 ((48 + m : Nat) : Int)) w := by
  go_simp
  exact IntWalk.i64_in _ (by omega)
theorem add_p (m : Nat) (w : World) (hm : m ≤ 9) : (binOp .add 2 (.int .i64 48) (.int .i64 (m : Int))).run Tryz.prog w = .ok (.int .i64 ((48 + m : Nat) : Int)) w := by
  go_simp
  exact IntWalk.i64_in _ (by omega)
theorem cv_u8 (m : Nat) (w : World) (hm : m ≤ 255) : (convert 2 5 (.int .i64 (m : Int))).run Tryz.prog w = .ok (.int .u8 (m : Int)) w := by
  go_simp
  exact IntWalk.u8_in _ (by omega)
theorem dig_put {m : Nat} (h : ¬ m < 10) : bstr (Lib.decDigits (m / 10)) ++ (⟨#[UInt8.ofNat (48 + m % 10)]⟩ : ByteArray) = bstr (Lib.decDigits m) := by
  rw [dec_big h, ← bstr_app]; rfl
theorem dig_neg {m : Nat} (h : ¬ m < 10) : bstr (45 :: Lib.decDigits (m / 10)) ++ (⟨#[UInt8.ofNat (48 + m % 10)]⟩ : ByteArray) = bstr (45 :: Lib.decDigits m) := by
  rw [dec_big h]
  exact bstr_app (45 :: Lib.decDigits (m / 10)) [UInt8.ofNat (48 + m % 10)]
theorem rdig_pos (m : Nat) : m ≤ 9223372036854775807 → ∀ w : World, Calls Tryz.prog 27 #[.int .i64 (m : Int)] w fun e w' => e = .returned (.string (bstr (Lib.decDigits m))) ∧ Below w.heap.size w w' := by
  induction m using Nat.strongRecOn with
  | ind m ih =>
    intro hm w
    have n0 : ¬ (m : Int) < 0 := by omega
    by_cases h : m < 10
    · have d1 : (m : Int) < 10 := by omega
      have h1 := conv_d
      have HX : Hid ((⟨#[48 + UInt8.ofNat m]⟩ : ByteArray) = bstr (Lib.decDigits m)) := Lib.hid (by rw [dec_small h, ← of48]; rfl)
      have HW : Hid (∀ c, Below w.heap.size w (w.alloc (.cells #[.int .u8 c] 5))) := Lib.hid fun c => one_alloc _ _
      have hc : (48 + (m : Int)).toNat = 48 + m := by omega
      clear ih
      go_enter Tryz.func27, Tryz.ntmps27
      go_wp2_with fail
      go_ret
      exact ⟨by rw [← HX.out]; rfl, HW.out _⟩
    · have d1 : ¬ (m : Int) < 10 := by omega
      obtain ⟨q, hq⟩ : ∃ q, m / 10 = q := ⟨_, rfl⟩
      obtain ⟨r, hr⟩ : ∃ r, m % 10 = r := ⟨_, rfl⟩
      obtain ⟨c, hc⟩ : ∃ c, 48 + r = c := ⟨_, rfl⟩
      obtain ⟨b1, hb1⟩ : ∃ b : ByteArray, (⟨#[UInt8.ofNat c]⟩ : ByteArray) = b := ⟨_, rfl⟩
      obtain ⟨b0, hb0⟩ : ∃ b : ByteArray, bstr (Lib.decDigits (m / 10)) = b := ⟨_, rfl⟩
      have QQ : Hid (∀ w, (binOp .quo 2 (.int .i64 ((m : Int))) (.int .i64 10)).run Tryz.prog w = .ok (.int .i64 ((q : Int))) w) := Lib.hid (fun w => by rw [← hq]; exact quo_p m w hm)
      have RR : Hid (∀ w, (binOp .rem 2 (.int .i64 ((m : Int))) (.int .i64 10)).run Tryz.prog w = .ok (.int .i64 ((r : Int))) w) := Lib.hid (fun w => by rw [← hr]; exact rem_p m w hm)
      have CC : Hid (∀ w, (binOp .add 2 (.int .i64 48) (.int .i64 ((r : Int)))).run Tryz.prog w = .ok (.int .i64 (c : Int)) w) := Lib.hid (fun w => by rw [← hc]; exact add_p r w (by omega))
      have VV : Hid (∀ w, (convert 2 5 (.int .i64 (c : Int))).run Tryz.prog w = .ok (.int .u8 (c : Int)) w) := Lib.hid (fun w => cv_u8 c w (by omega))
      have KK : Hid (∀ w g, Blk w g 5 #[.int .u8 (c : Int)] → (convert 66 9 (.slice (some ⟨g, 0, none⟩) 1 1)).run Tryz.prog w = .ok (.string b1) w) := Lib.hid (fun w g h => by have := conv_g w g _ h; rw [Int.toNat_natCast, hb1] at this; exact this)
      have HI : Hid (∀ w : World, Calls Tryz.prog 27 #[.int .i64 ((q : Int))] w fun e w' => e = .returned (.string b0) ∧ Below w.heap.size w w') := Lib.hid (fun w => by have := ih (m / 10) (by omega) (by omega) w; rw [hb0, hq] at this; exact this)
      have HP : Hid (b0 ++ b1 = bstr (Lib.decDigits m)) := Lib.hid (by rw [← hb0, ← hb1, ← hc, ← hr]; exact dig_put h)
      have HL : Hid (b0.size ≤ q + 2) := Lib.hid (by rw [← hb0, size_bstr, ← hq]; have := dec_le (m / 10); (try rw [List.length_cons]); omega)
      have HM : Hid (q ≤ 922337203685477581 ∧ b1.size = 1) := Lib.hid ⟨by omega, by rw [← hb1]; rfl⟩
      clear ih h hq hr hc hb1 hb0 hm
      go_enter Tryz.func27, Tryz.ntmps27
      go_upto_region 7 with (fail)
      refine wp_region_soft [Is (.int .i64 ((m : Int))), Is (.int .i64 ((q : Int))), Is (.string b0), Is (.int .i64 ((m : Int))), Is (.int .i64 ((r : Int))), Is (.int .i64 (c : Int)), Is (.int .u8 (c : Int)), ByR (c : Int), Is (.string b1), Is (.string (b0 ++ b1)), Is (.string (b0 ++ b1))] ⟨stab_is _, stab_is _, stab_is _, stab_is _, stab_is _, stab_is _, stab_is _, stab_byr _, stab_is _, stab_is _, stab_is _, trivial⟩ (by kernel_rfl) (by kernel_rfl) ?_ ?_
      · refine ⟨?_, ?_, ?_, ?_, ?_, ?_, ?_, ?_, ?_, ?_, ?_, trivial⟩
        all_goals intro done vs ac W1 hdep hB hR hE
        all_goals have ec : ∀ v : Value, ac.eval (.const v) = v := fun _ => rfl
        all_goals try simp [Region.binds] at hdep
        · have e0 : ac.eval (.tmp 0) = .int .i64 ((m : Int)) := (hE 0 (by simp)).trans (by simp [evF, Act.eval])
          exact soft_value (.int .i64 ((m : Int))) (by unfold execOp; simp only [e0, ec]; rfl) rfl
        · have d0 : vs 0 = .int .i64 ((m : Int)) := hR 0 (by simp [hdep])
          have e30 : ac.eval (.tmp 30) = .int .i64 ((m : Int)) := (hE 30 (by simp)).trans (by simp [evF, hdep, d0])
          exact soft_value (.int .i64 ((q : Int))) (by unfold execOp; simp only [e30, ec]; simp [eqGuard_quo, QQ.out W1, Result.andThen]) rfl
        · have d1 : vs 1 = .int .i64 ((q : Int)) := hR 1 (by simp [hdep])
          have e31 : ac.eval (.tmp 31) = .int .i64 ((q : Int)) := (hE 31 (by simp)).trans (by simp [evF, hdep, d1])
          refine soft_call 27 _ _ rfl (enters_fn Tryz.func27 (by kernel_rfl) rfl) #[.int .i64 ((q : Int))] (by simp [e31, ec]) ?_
          refine (HI.out W1).mono ?_
          rintro e9 w9 ⟨rfl, hb9⟩
          exact ⟨_, rfl, hb9, rfl⟩
        · have e0 : ac.eval (.tmp 0) = .int .i64 ((m : Int)) := (hE 0 (by simp)).trans (by simp [evF, Act.eval])
          exact soft_value (.int .i64 ((m : Int))) (by unfold execOp; simp only [e0, ec]; rfl) rfl
        · have d3 : vs 3 = .int .i64 ((m : Int)) := hR 3 (by simp [hdep])
          have e33 : ac.eval (.tmp 33) = .int .i64 ((m : Int)) := (hE 33 (by simp)).trans (by simp [evF, hdep, d3])
          exact soft_value (.int .i64 ((r : Int))) (by unfold execOp; simp only [e33, ec]; simp [eqGuard_rem, RR.out W1, Result.andThen]) rfl
        · have d4 : vs 4 = .int .i64 ((r : Int)) := hR 4 (by simp [hdep])
          have e34 : ac.eval (.tmp 34) = .int .i64 ((r : Int)) := (hE 34 (by simp)).trans (by simp [evF, hdep, d4])
          exact soft_value (.int .i64 (c : Int)) (by unfold execOp; simp only [e34, ec]; simp [eqGuard_add, CC.out W1, Result.andThen]) rfl
        · have d5 : vs 5 = .int .i64 (c : Int) := hR 5 (by simp [hdep])
          have e35 : ac.eval (.tmp 35) = .int .i64 (c : Int) := (hE 35 (by simp)).trans (by simp [evF, hdep, d5])
          exact soft_value (.int .u8 (c : Int)) (by unfold execOp; simp only [e35, ec]; simp [VV.out W1, Result.andThen]) rfl
        · have d6 : vs 6 = .int .u8 (c : Int) := hR 6 (by simp [hdep])
          have e36 : ac.eval (.tmp 36) = .int .u8 (c : Int) := (hE 36 (by simp)).trans (by simp [evF, hdep, d6])
          refine soft_build 66 5 1 _ rfl #[(0, .int .u8 (c : Int))] (by simp [e36, ec]) _ (bs_u8 W1 _) ⟨_, rfl, Blk.new _ _ _⟩
        · obtain ⟨g7, d7, b7⟩ := (show (ByR (c : Int)) (vs 7) W1 from hR 7 (by simp [hdep]))
          have e37 : ac.eval (.tmp 37) = .slice (some ⟨g7, 0, none⟩) 1 1 := (hE 37 (by simp)).trans (by simp [evF, hdep, d7])
          exact soft_value (.string b1) (by unfold execOp; simp only [e37, ec]; simp [KK.out W1 g7 b7, Result.andThen]) rfl
        · have d2 : vs 2 = .string b0 := hR 2 (by simp [hdep])
          have e32 : ac.eval (.tmp 32) = .string b0 := (hE 32 (by simp)).trans (by simp [evF, hdep, d2])
          have d8 : vs 8 = .string b1 := hR 8 (by simp [hdep])
          have e38 : ac.eval (.tmp 38) = .string b1 := (hE 38 (by simp)).trans (by simp [evF, hdep, d8])
          have hl := HL.out
          have hm2 := HM.out
          exact soft_value (.string (b0 ++ b1)) (by unfold execOp; simp only [e32, e38, ec]; go_simp; omega) rfl
        · have d9 : vs 9 = .string (b0 ++ b1) := hR 9 (by simp [hdep])
          have e39 : ac.eval (.tmp 39) = .string (b0 ++ b1) := (hE 39 (by simp)).trans (by simp [evF, hdep, d9])
          exact soft_value (.string (b0 ++ b1)) (by unfold execOp; simp only [e39, ec]; rfl) rfl
      · intro vs W hB hR
        have r10 : vs 10 = .string (b0 ++ b1) := hR 10 (by simp)
        rw [HP.out] at r10
        have HBW := Lib.hid hB
        clear hR hB
        simp only [fillA, Act.put, List.setIfInBounds_toArray, List.set_cons_zero, List.set_cons_succ, if_true, r10]
        go_wp2_with fail
        go_ret
        exact ⟨rfl, HBW.out⟩
theorem rdig_neg (m : Nat) : m ≤ 9223372036854775808 → 0 < m → ∀ w : World, Calls Tryz.prog 27 #[.int .i64 (-(m : Int))] w fun e w' => e = .returned (.string (bstr (45 :: Lib.decDigits m))) ∧ Below w.heap.size w w' := by
  induction m using Nat.strongRecOn with
  | ind m ih =>
    intro hm hm0 w
    have n0 : -(m : Int) < 0 := by omega
    by_cases h : m < 10
    · have d1 : (-10 : Int) < -(m : Int) := by omega
      have h1 := conv_d
      have HX : Hid ((⟨#[45]⟩ : ByteArray) ++ ⟨#[48 + UInt8.ofNat m]⟩ = bstr (45 :: Lib.decDigits m)) := Lib.hid (by rw [dec_small h, ← of48]; exact one_cons 45 [UInt8.ofNat (48 + m)])
      have HW : Hid (∀ c, Below w.heap.size w (w.alloc (.cells #[.int .u8 c] 5))) := Lib.hid fun c => one_alloc _ _
      have hc : (48 + (m : Int)).toNat = 48 + m := by omega
      have hs : (48 : Int) - -(m : Int) = 48 + (m : Int) := by omega
      clear ih
      go_enter Tryz.func27, Tryz.ntmps27
      go_wp2_with fail
      go_ret
      exact ⟨by rw [← HX.out]; rfl, HW.out _⟩
    · have d1 : ¬ (-10 : Int) < -(m : Int) := by omega
      obtain ⟨q, hq⟩ : ∃ q, m / 10 = q := ⟨_, rfl⟩
      obtain ⟨r, hr⟩ : ∃ r, m % 10 = r := ⟨_, rfl⟩
      obtain ⟨c, hc⟩ : ∃ c, 48 + r = c := ⟨_, rfl⟩
      obtain ⟨b1, hb1⟩ : ∃ b : ByteArray, (⟨#[UInt8.ofNat c]⟩ : ByteArray) = b := ⟨_, rfl⟩
      obtain ⟨b0, hb0⟩ : ∃ b : ByteArray, bstr (45 :: Lib.decDigits (m / 10)) = b := ⟨_, rfl⟩
      have QQ : Hid (∀ w, (binOp .quo 2 (.int .i64 (-(m : Int))) (.int .i64 10)).run Tryz.prog w = .ok (.int .i64 (-(q : Int))) w) := Lib.hid (fun w => by rw [← hq]; exact quo_n m w hm)
      have RR : Hid (∀ w, (binOp .rem 2 (.int .i64 (-(m : Int))) (.int .i64 10)).run Tryz.prog w = .ok (.int .i64 (-(r : Int))) w) := Lib.hid (fun w => by rw [← hr]; exact rem_n m w hm)
      have CC : Hid (∀ w, (binOp .sub 2 (.int .i64 48) (.int .i64 (-(r : Int)))).run Tryz.prog w = .ok (.int .i64 (c : Int)) w) := Lib.hid (fun w => by rw [← hc]; exact sub_n r w (by omega))
      have VV : Hid (∀ w, (convert 2 5 (.int .i64 (c : Int))).run Tryz.prog w = .ok (.int .u8 (c : Int)) w) := Lib.hid (fun w => cv_u8 c w (by omega))
      have KK : Hid (∀ w g, Blk w g 5 #[.int .u8 (c : Int)] → (convert 66 9 (.slice (some ⟨g, 0, none⟩) 1 1)).run Tryz.prog w = .ok (.string b1) w) := Lib.hid (fun w g h => by have := conv_g w g _ h; rw [Int.toNat_natCast, hb1] at this; exact this)
      have HI : Hid (∀ w : World, Calls Tryz.prog 27 #[.int .i64 (-(q : Int))] w fun e w' => e = .returned (.string b0) ∧ Below w.heap.size w w') := Lib.hid (fun w => by have := ih (m / 10) (by omega) (by omega) (by omega) w; rw [hb0, hq] at this; exact this)
      have HP : Hid (b0 ++ b1 = bstr (45 :: Lib.decDigits m)) := Lib.hid (by rw [← hb0, ← hb1, ← hc, ← hr]; exact dig_neg h)
      have HL : Hid (b0.size ≤ q + 2) := Lib.hid (by rw [← hb0, size_bstr, ← hq]; have := dec_le (m / 10); (try rw [List.length_cons]); omega)
      have HM : Hid (q ≤ 922337203685477581 ∧ b1.size = 1) := Lib.hid ⟨by omega, by rw [← hb1]; rfl⟩
      clear ih h hq hr hc hb1 hb0 hm hm0
      go_enter Tryz.func27, Tryz.ntmps27
      go_upto_region 4 with (fail)
      refine wp_region_soft [Is (.int .i64 (-(m : Int))), Is (.int .i64 (-(q : Int))), Is (.string b0), Is (.int .i64 (-(m : Int))), Is (.int .i64 (-(r : Int))), Is (.int .i64 (c : Int)), Is (.int .u8 (c : Int)), ByR (c : Int), Is (.string b1), Is (.string (b0 ++ b1)), Is (.string (b0 ++ b1))] ⟨stab_is _, stab_is _, stab_is _, stab_is _, stab_is _, stab_is _, stab_is _, stab_byr _, stab_is _, stab_is _, stab_is _, trivial⟩ (by kernel_rfl) (by kernel_rfl) ?_ ?_
      · refine ⟨?_, ?_, ?_, ?_, ?_, ?_, ?_, ?_, ?_, ?_, ?_, trivial⟩
        all_goals intro done vs ac W1 hdep hB hR hE
        all_goals have ec : ∀ v : Value, ac.eval (.const v) = v := fun _ => rfl
        all_goals try simp [Region.binds] at hdep
        · have e0 : ac.eval (.tmp 0) = .int .i64 (-(m : Int)) := (hE 0 (by simp)).trans (by simp [evF, Act.eval])
          exact soft_value (.int .i64 (-(m : Int))) (by unfold execOp; simp only [e0, ec]; rfl) rfl
        · have d0 : vs 0 = .int .i64 (-(m : Int)) := hR 0 (by simp [hdep])
          have e13 : ac.eval (.tmp 13) = .int .i64 (-(m : Int)) := (hE 13 (by simp)).trans (by simp [evF, hdep, d0])
          exact soft_value (.int .i64 (-(q : Int))) (by unfold execOp; simp only [e13, ec]; simp [eqGuard_quo, QQ.out W1, Result.andThen]) rfl
        · have d1 : vs 1 = .int .i64 (-(q : Int)) := hR 1 (by simp [hdep])
          have e14 : ac.eval (.tmp 14) = .int .i64 (-(q : Int)) := (hE 14 (by simp)).trans (by simp [evF, hdep, d1])
          refine soft_call 27 _ _ rfl (enters_fn Tryz.func27 (by kernel_rfl) rfl) #[.int .i64 (-(q : Int))] (by simp [e14, ec]) ?_
          refine (HI.out W1).mono ?_
          rintro e9 w9 ⟨rfl, hb9⟩
          exact ⟨_, rfl, hb9, rfl⟩
        · have e0 : ac.eval (.tmp 0) = .int .i64 (-(m : Int)) := (hE 0 (by simp)).trans (by simp [evF, Act.eval])
          exact soft_value (.int .i64 (-(m : Int))) (by unfold execOp; simp only [e0, ec]; rfl) rfl
        · have d3 : vs 3 = .int .i64 (-(m : Int)) := hR 3 (by simp [hdep])
          have e16 : ac.eval (.tmp 16) = .int .i64 (-(m : Int)) := (hE 16 (by simp)).trans (by simp [evF, hdep, d3])
          exact soft_value (.int .i64 (-(r : Int))) (by unfold execOp; simp only [e16, ec]; simp [eqGuard_rem, RR.out W1, Result.andThen]) rfl
        · have d4 : vs 4 = .int .i64 (-(r : Int)) := hR 4 (by simp [hdep])
          have e17 : ac.eval (.tmp 17) = .int .i64 (-(r : Int)) := (hE 17 (by simp)).trans (by simp [evF, hdep, d4])
          exact soft_value (.int .i64 (c : Int)) (by unfold execOp; simp only [e17, ec]; simp [eqGuard_sub, CC.out W1, Result.andThen]) rfl
        · have d5 : vs 5 = .int .i64 (c : Int) := hR 5 (by simp [hdep])
          have e18 : ac.eval (.tmp 18) = .int .i64 (c : Int) := (hE 18 (by simp)).trans (by simp [evF, hdep, d5])
          exact soft_value (.int .u8 (c : Int)) (by unfold execOp; simp only [e18, ec]; simp [VV.out W1, Result.andThen]) rfl
        · have d6 : vs 6 = .int .u8 (c : Int) := hR 6 (by simp [hdep])
          have e19 : ac.eval (.tmp 19) = .int .u8 (c : Int) := (hE 19 (by simp)).trans (by simp [evF, hdep, d6])
          refine soft_build 66 5 1 _ rfl #[(0, .int .u8 (c : Int))] (by simp [e19, ec]) _ (bs_u8 W1 _) ⟨_, rfl, Blk.new _ _ _⟩
        · obtain ⟨g7, d7, b7⟩ := (show (ByR (c : Int)) (vs 7) W1 from hR 7 (by simp [hdep]))
          have e20 : ac.eval (.tmp 20) = .slice (some ⟨g7, 0, none⟩) 1 1 := (hE 20 (by simp)).trans (by simp [evF, hdep, d7])
          exact soft_value (.string b1) (by unfold execOp; simp only [e20, ec]; simp [KK.out W1 g7 b7, Result.andThen]) rfl
        · have d2 : vs 2 = .string b0 := hR 2 (by simp [hdep])
          have e15 : ac.eval (.tmp 15) = .string b0 := (hE 15 (by simp)).trans (by simp [evF, hdep, d2])
          have d8 : vs 8 = .string b1 := hR 8 (by simp [hdep])
          have e21 : ac.eval (.tmp 21) = .string b1 := (hE 21 (by simp)).trans (by simp [evF, hdep, d8])
          have hl := HL.out
          have hm2 := HM.out
          exact soft_value (.string (b0 ++ b1)) (by unfold execOp; simp only [e15, e21, ec]; go_simp; omega) rfl
        · have d9 : vs 9 = .string (b0 ++ b1) := hR 9 (by simp [hdep])
          have e22 : ac.eval (.tmp 22) = .string (b0 ++ b1) := (hE 22 (by simp)).trans (by simp [evF, hdep, d9])
          exact soft_value (.string (b0 ++ b1)) (by unfold execOp; simp only [e22, ec]; rfl) rfl
      · intro vs W hB hR
        have r10 : vs 10 = .string (b0 ++ b1) := hR 10 (by simp)
        rw [HP.out] at r10
        have HBW := Lib.hid hB
        clear hR hB
        simp only [fillA, Act.put, List.setIfInBounds_toArray, List.set_cons_zero, List.set_cons_succ, if_true, r10]
        go_wp2_with fail
        go_ret
        exact ⟨rfl, HBW.out⟩
theorem rdig_any (n : Int) (h : I64 n) (w : World) : Calls Tryz.prog 27 #[.int .i64 n] w fun e w' => e = .returned (.string (itS n)) ∧ Below w.heap.size w w' := by
  by_cases hn : n < 0
  · obtain ⟨m, rfl⟩ : ∃ m : Nat, n = -(m : Int) := ⟨n.natAbs, by omega⟩
    have e : itS (-(m : Int)) = bstr (45 :: Lib.decDigits m) := by
      unfold itS Lib.itoa bstr
      rw [if_pos hn, Int.natAbs_neg, Int.natAbs_natCast]
    rw [e]
    exact rdig_neg m (by have := h.1; omega) (by omega) w
  · obtain ⟨m, rfl⟩ : ∃ m : Nat, n = (m : Int) := ⟨n.toNat, by omega⟩
    have e : itS (m : Int) = bstr (Lib.decDigits m) := by
      unfold itS bstr
      rw [itoa_nat]
    rw [e]
    exact rdig_pos m (by have := h.2; omega) w
/-! a paper -/
theorem fd_build (w : World) (a b : ByteArray) : (Instr.build 123 #[(0, .string a), (1, .string b)]).run Tryz.prog w = .ok (.agg #[.string a, .string b]) w := run_build w _ _ _ (by kernel_rfl)
theorem rfield_any (a b : ByteArray) (w : World) : Calls Tryz.prog 50 #[.string a, .string b] w fun e w' => e = .returned (.agg #[.string a, .string b]) ∧ Below w.heap.size w w' := by
  have HB := Lib.hid (one_alloc w (.cells #[.string a, .string b] 123))
  have hk : Blk (w.alloc (.cells #[.string a, .string b] 123)) w.heap.size 123 #[.string a, .string b] := Blk.new _ _ _
  have r0 := hk.cell 0; have r1 := hk.cell 1
  simp only [List.getElem?_toArray, List.getElem?_cons_zero, List.getElem?_cons_succ] at r0 r1
  clear hk
  have hfb := fun w => fd_build w a b
  go_enter Tryz.func50, Tryz.ntmps50
  go_wp2_with ((refine stop_store 123 _ _ rfl ?_; refine wpList_store_new rfl 123 _ _ rfl _ rfl rfl (by kernel_rfl) rfl rfl ?_))
  refine bodyPost_ret (v := .agg #[.string a, .string b]) (by simp [results, Tryz.results50, go_sem, r0, r1]) rfl ⟨rfl, HB.out⟩
theorem rnumber_any (a : ByteArray) (n : Int) (h : I64 n) (w : World) : Calls Tryz.prog 51 #[.string a, .int .i64 n] w fun e w' => e = .returned (.agg #[.string a, .string (itS n)]) ∧ Below w.heap.size w w' := by
  have HB := Lib.hid (one_alloc w (.cells #[.string ⟨#[]⟩, .string ⟨#[]⟩] 123))
  have HK : Hid (Blk (w.alloc (.cells #[.string ⟨#[]⟩, .string ⟨#[]⟩] 123)) w.heap.size 123 #[.string ⟨#[]⟩, .string ⟨#[]⟩]) := Lib.hid (Blk.new _ _ _)
  have HD := Lib.hid (fun W => rdig_any n h W)
  clear h
  go_enter Tryz.func51, Tryz.ntmps51
  go_upto_region 1 with (fail)
  obtain ⟨w1, hw1⟩ : ∃ W, w.alloc (.cells #[.string ⟨#[]⟩, .string ⟨#[]⟩] 123) = W := ⟨_, rfl⟩
  obtain ⟨g, hg⟩ : ∃ g, w.heap.size = g := ⟨_, rfl⟩
  have HGE := Lib.hid hg
  rw [hw1] at HB HK ⊢
  rw [hg] at HK
  simp only [hg]
  clear hw1 hg
  go_wp2_with fail
  refine (HD.out _).mono ?_
  rintro e w2 ⟨rfl, hb2⟩
  have HK2 := Lib.hid (HK.out.below hb2 HK.out.lt)
  have HB2 := Lib.hid (HB.out.trans (hb2.mono HB.out.size))
  clear hb2
  go_wp2_with fail
  refine (rfield_any a (itS n) w2).mono ?_
  rintro e w3 ⟨rfl, hb3⟩
  have HK3 := Lib.hid (HK2.out.below hb3 HK2.out.lt)
  have HB3 := Lib.hid (HB2.out.trans (hb3.mono HB2.out.size))
  clear hb3
  go_wp2_with (refine stop_store 123 _ _ rfl ?_; refine wpList_store_fr rfl 123 _ _ rfl _ rfl rfl HK3.out (by kernel_rfl) rfl rfl ?_; intro w6 hm6 fr6)
  have r0 := hm6.cell 0; have r1 := hm6.cell 1
  simp only [List.getElem?_toArray, List.getElem?_cons_zero, List.getElem?_cons_succ] at r0 r1
  have hb6 : Below w.heap.size w w6 := fr6.bel HB3.out (fun k e => by have := HGE.out; omega) HB3.out.size
  refine bodyPost_ret (v := .agg #[.string a, .string (itS n)]) (by simp [results, Tryz.results51, go_sem, r0, r1]) rfl ⟨rfl, hb6⟩
theorem bs5 (a0 b0 a1 b1 a2 b2 a3 b3 a4 b4 : ByteArray) (w : World) : (Instr.buildSlice 107 5 #[(0, .agg #[.string a0, .string b0]), (1, .agg #[.string a1, .string b1]), (2, .agg #[.string a2, .string b2]), (3, .agg #[.string a3, .string b3]), (4, .agg #[.string a4, .string b4])]).run Tryz.prog w = .ok (.slice (some ⟨w.heap.size, 0, none⟩) 5 5) (w.alloc (.cells #[.string a0, .string b0, .string a1, .string b1, .string a2, .string b2, .string a3, .string b3, .string a4, .string b4] 123)) := by kernel_rfl
theorem rcov_any (d : Dl) (A : Option Addr) (nb c : Nat) (m : Mon) (w : World) (hm : I64 m.amt) (hn : d.num.size ≤ 140737488355328) :
    Calls Tryz.prog 34 #[.agg #[.string d.num, .string d.sel, .string d.buy, .string d.car, .string d.iss, .string d.hou, .string d.ins, .string d.fr, .string d.dst, .string d.cur, .int .i64 d.amt, .slice A nb c, .int .i64 d.term, .int .i64 d.lat, .int .i64 d.exp, .int .i64 d.ten, .int .i64 d.dut], .agg #[.string m.cur, .int .i64 m.amt]] w fun e w' => ∃ fa fc, e = .returned (.agg #[.int .i64 3, .string (⟨#[105, 110, 45]⟩ ++ d.num), .string d.ins, .slice fa 5 fc]) ∧ SliceOf w' 2 fdC fa 5 (covP d m).fs ∧ (∀ x off, fa = some ⟨x, off, none⟩ → w.heap.size ≤ x) ∧ Below w.heap.size w w' := by
  have HI := Lib.hid hm
  have HN := Lib.hid hn
  clear hm hn
  have HB0 : Hid (Below w.heap.size w (((w.alloc (.cells #[.string d.num, .string d.sel, .string d.buy, .string d.car, .string d.iss, .string d.hou, .string d.ins, .string d.fr, .string d.dst, .string d.cur, .int .i64 d.amt, .slice A nb c, .int .i64 d.term, .int .i64 d.lat, .int .i64 d.exp, .int .i64 d.ten, .int .i64 d.dut] 53)).alloc (.cells #[.string m.cur, .int .i64 m.amt] 50)).alloc (.cells #[.int .i64 0, .string ⟨#[]⟩, .string ⟨#[]⟩, .slice none 0 0] 109))) := Lib.hid ((two_alloc w (.cells #[.string d.num, .string d.sel, .string d.buy, .string d.car, .string d.iss, .string d.hou, .string d.ins, .string d.fr, .string d.dst, .string d.cur, .int .i64 d.amt, .slice A nb c, .int .i64 d.term, .int .i64 d.lat, .int .i64 d.exp, .int .i64 d.ten, .int .i64 d.dut] 53) (.cells #[.string m.cur, .int .i64 m.amt] 50)).alloc (by simp; omega) _)
  have HK0 : Hid (Blk (((w.alloc (.cells #[.string d.num, .string d.sel, .string d.buy, .string d.car, .string d.iss, .string d.hou, .string d.ins, .string d.fr, .string d.dst, .string d.cur, .int .i64 d.amt, .slice A nb c, .int .i64 d.term, .int .i64 d.lat, .int .i64 d.exp, .int .i64 d.ten, .int .i64 d.dut] 53)).alloc (.cells #[.string m.cur, .int .i64 m.amt] 50)).alloc (.cells #[.int .i64 0, .string ⟨#[]⟩, .string ⟨#[]⟩, .slice none 0 0] 109)) w.heap.size 53 #[.string d.num, .string d.sel, .string d.buy, .string d.car, .string d.iss, .string d.hou, .string d.ins, .string d.fr, .string d.dst, .string d.cur, .int .i64 d.amt, .slice A nb c, .int .i64 d.term, .int .i64 d.lat, .int .i64 d.exp, .int .i64 d.ten, .int .i64 d.dut]) := Lib.hid (((Blk.new _ _ _).alloc _).alloc _)
  have HM0 : Hid (Blk (((w.alloc (.cells #[.string d.num, .string d.sel, .string d.buy, .string d.car, .string d.iss, .string d.hou, .string d.ins, .string d.fr, .string d.dst, .string d.cur, .int .i64 d.amt, .slice A nb c, .int .i64 d.term, .int .i64 d.lat, .int .i64 d.exp, .int .i64 d.ten, .int .i64 d.dut] 53)).alloc (.cells #[.string m.cur, .int .i64 m.amt] 50)).alloc (.cells #[.int .i64 0, .string ⟨#[]⟩, .string ⟨#[]⟩, .slice none 0 0] 109)) (w.heap.size + 1) 50 #[.string m.cur, .int .i64 m.amt]) := Lib.hid ((blk_second _ _ _ _).alloc _)
  have HR0 : Hid (Blk (((w.alloc (.cells #[.string d.num, .string d.sel, .string d.buy, .string d.car, .string d.iss, .string d.hou, .string d.ins, .string d.fr, .string d.dst, .string d.cur, .int .i64 d.amt, .slice A nb c, .int .i64 d.term, .int .i64 d.lat, .int .i64 d.exp, .int .i64 d.ten, .int .i64 d.dut] 53)).alloc (.cells #[.string m.cur, .int .i64 m.amt] 50)).alloc (.cells #[.int .i64 0, .string ⟨#[]⟩, .string ⟨#[]⟩, .slice none 0 0] 109)) (w.heap.size + 2) 109 #[.int .i64 0, .string ⟨#[]⟩, .string ⟨#[]⟩, .slice none 0 0]) := Lib.hid (Blk.new_at _ _ _ _ (by simp))
  have HS0 : Hid (w.heap.size + 3 ≤ (((w.alloc (.cells #[.string d.num, .string d.sel, .string d.buy, .string d.car, .string d.iss, .string d.hou, .string d.ins, .string d.fr, .string d.dst, .string d.cur, .int .i64 d.amt, .slice A nb c, .int .i64 d.term, .int .i64 d.lat, .int .i64 d.exp, .int .i64 d.ten, .int .i64 d.dut] 53)).alloc (.cells #[.string m.cur, .int .i64 m.amt] 50)).alloc (.cells #[.int .i64 0, .string ⟨#[]⟩, .string ⟨#[]⟩, .slice none 0 0] 109)).heap.size) := Lib.hid (by simp)
  obtain ⟨g, hg⟩ : ∃ g, w.heap.size = g := ⟨_, rfl⟩
  rw [hg] at HK0 HM0 HR0 HS0
  have HG := Lib.hid hg
  go_enter Tryz.func34, Tryz.ntmps34
  go_wp2_with fail
  clear hg
  refine wp_region_soft_last [Is (.pointer (some ⟨g, 0, none⟩)), Is (.string d.num), Is (.string ((⟨#[105, 110, 45]⟩ : ByteArray) ++ (d.num : ByteArray))), Is (.pointer (some ⟨g, 6, none⟩)), Is (.string d.ins), Is (.pointer (some ⟨g, 1, none⟩)), Is (.string d.sel), Is (.agg #[.string ⟨#[115, 101, 108, 108, 101, 114]⟩, .string d.sel]), Is (.pointer (some ⟨g, 7, none⟩)), Is (.string d.fr), Is (.agg #[.string ⟨#[102, 114, 111, 109]⟩, .string d.fr]), Is (.pointer (some ⟨g, 8, none⟩)), Is (.string d.dst), Is (.agg #[.string ⟨#[116, 111]⟩, .string d.dst]), Is (.pointer (some ⟨g + 1, 0, none⟩)), Is (.string m.cur), Is (.agg #[.string ⟨#[99, 117, 114, 114, 101, 110, 99, 121]⟩, .string m.cur]), Is (.pointer (some ⟨g + 1, 1, none⟩)), Is (.int .i64 m.amt), Is (.agg #[.string ⟨#[115, 117, 109]⟩, .string (itS m.amt)]), SlHi (g + 3) 2 fdC 5 (covP d m).fs, DocHi (g + 3) d m] ⟨stab_is _, stab_is _, stab_is _, stab_is _, stab_is _, stab_is _, stab_is _, stab_is _, stab_is _, stab_is _, stab_is _, stab_is _, stab_is _, stab_is _, stab_is _, stab_is _, stab_is _, stab_is _, stab_is _, stab_is _, stab_slhi _ _ _ _ _, stab_dochi _ _ _, trivial⟩ (by kernel_rfl) (by kernel_rfl) (by kernel_rfl) (by simp) ?_
  refine ⟨?_, ?_, ?_, ?_, ?_, ?_, ?_, ?_, ?_, ?_, ?_, ?_, ?_, ?_, ?_, ?_, ?_, ?_, ?_, ?_, ?_, ?_, ?_⟩
  all_goals intro done vs ac W1 hdep hB hR hE
  all_goals have ec : ∀ v : Value, ac.eval (.const v) = v := fun _ => rfl
  all_goals try simp [Region.binds] at hdep
  · have e2 : ac.eval (.tmp 2) = .pointer (some ⟨g, 0, none⟩) := (hE 2 (by simp)).trans (by simp [evF, Act.eval])
    exact soft_value (.pointer (some ⟨g, 0, none⟩)) (by unfold execOp; simp only [e2]; kernel_rfl) rfl
  · have d0 : vs 0 = .pointer (some ⟨g, 0, none⟩) := hR 0 (by simp [hdep])
    have e5 : ac.eval (.tmp 5) = .pointer (some ⟨g, 0, none⟩) := (hE 5 (by simp)).trans (by simp [evF, hdep, d0])
    have hc0 : W1.cell? ⟨g, 0, none⟩ = some (.string d.num) := (HK0.out.below hB HK0.out.lt).cell 0
    exact soft_value (.string d.num) (by unfold execOp; simp only [e5]; go_simp) rfl
  · have d1 : vs 1 = .string d.num := hR 1 (by simp [hdep])
    have e6 : ac.eval (.tmp 6) = .string d.num := (hE 6 (by simp)).trans (by simp [evF, hdep, d1])
    exact soft_value (.string ((⟨#[105, 110, 45]⟩ : ByteArray) ++ (d.num : ByteArray))) (by have := HN.out; unfold execOp; simp only [e6, ec]; go_simp; omega) rfl
  · have e2 : ac.eval (.tmp 2) = .pointer (some ⟨g, 0, none⟩) := (hE 2 (by simp)).trans (by simp [evF, Act.eval])
    exact soft_value (.pointer (some ⟨g, 6, none⟩)) (by unfold execOp; simp only [e2]; kernel_rfl) rfl
  · have d3 : vs 3 = .pointer (some ⟨g, 6, none⟩) := hR 3 (by simp [hdep])
    have e8 : ac.eval (.tmp 8) = .pointer (some ⟨g, 6, none⟩) := (hE 8 (by simp)).trans (by simp [evF, hdep, d3])
    have hc6 : W1.cell? ⟨g, 6, none⟩ = some (.string d.ins) := (HK0.out.below hB HK0.out.lt).cell 6
    exact soft_value (.string d.ins) (by unfold execOp; simp only [e8]; go_simp) rfl
  · have e2 : ac.eval (.tmp 2) = .pointer (some ⟨g, 0, none⟩) := (hE 2 (by simp)).trans (by simp [evF, Act.eval])
    exact soft_value (.pointer (some ⟨g, 1, none⟩)) (by unfold execOp; simp only [e2]; kernel_rfl) rfl
  · have d5 : vs 5 = .pointer (some ⟨g, 1, none⟩) := hR 5 (by simp [hdep])
    have e10 : ac.eval (.tmp 10) = .pointer (some ⟨g, 1, none⟩) := (hE 10 (by simp)).trans (by simp [evF, hdep, d5])
    have hc1 : W1.cell? ⟨g, 1, none⟩ = some (.string d.sel) := (HK0.out.below hB HK0.out.lt).cell 1
    exact soft_value (.string d.sel) (by unfold execOp; simp only [e10]; go_simp) rfl
  · have d6 : vs 6 = .string d.sel := hR 6 (by simp [hdep])
    have e11 : ac.eval (.tmp 11) = .string d.sel := (hE 11 (by simp)).trans (by simp [evF, hdep, d6])
    refine soft_call 50 _ _ rfl (enters_fn Tryz.func50 (by kernel_rfl) rfl) #[.string ⟨#[115, 101, 108, 108, 101, 114]⟩, .string d.sel] (by simp [e11, ec]) ?_
    refine (rfield_any (⟨#[115, 101, 108, 108, 101, 114]⟩) (d.sel) W1).mono ?_
    rintro e9 w9 ⟨rfl, hb9⟩
    exact ⟨_, rfl, hb9, rfl⟩
  · have e2 : ac.eval (.tmp 2) = .pointer (some ⟨g, 0, none⟩) := (hE 2 (by simp)).trans (by simp [evF, Act.eval])
    exact soft_value (.pointer (some ⟨g, 7, none⟩)) (by unfold execOp; simp only [e2]; kernel_rfl) rfl
  · have d8 : vs 8 = .pointer (some ⟨g, 7, none⟩) := hR 8 (by simp [hdep])
    have e13 : ac.eval (.tmp 13) = .pointer (some ⟨g, 7, none⟩) := (hE 13 (by simp)).trans (by simp [evF, hdep, d8])
    have hc7 : W1.cell? ⟨g, 7, none⟩ = some (.string d.fr) := (HK0.out.below hB HK0.out.lt).cell 7
    exact soft_value (.string d.fr) (by unfold execOp; simp only [e13]; go_simp) rfl
  · have d9 : vs 9 = .string d.fr := hR 9 (by simp [hdep])
    have e14 : ac.eval (.tmp 14) = .string d.fr := (hE 14 (by simp)).trans (by simp [evF, hdep, d9])
    refine soft_call 50 _ _ rfl (enters_fn Tryz.func50 (by kernel_rfl) rfl) #[.string ⟨#[102, 114, 111, 109]⟩, .string d.fr] (by simp [e14, ec]) ?_
    refine (rfield_any (⟨#[102, 114, 111, 109]⟩) (d.fr) W1).mono ?_
    rintro e9 w9 ⟨rfl, hb9⟩
    exact ⟨_, rfl, hb9, rfl⟩
  · have e2 : ac.eval (.tmp 2) = .pointer (some ⟨g, 0, none⟩) := (hE 2 (by simp)).trans (by simp [evF, Act.eval])
    exact soft_value (.pointer (some ⟨g, 8, none⟩)) (by unfold execOp; simp only [e2]; kernel_rfl) rfl
  · have d11 : vs 11 = .pointer (some ⟨g, 8, none⟩) := hR 11 (by simp [hdep])
    have e16 : ac.eval (.tmp 16) = .pointer (some ⟨g, 8, none⟩) := (hE 16 (by simp)).trans (by simp [evF, hdep, d11])
    have hc8 : W1.cell? ⟨g, 8, none⟩ = some (.string d.dst) := (HK0.out.below hB HK0.out.lt).cell 8
    exact soft_value (.string d.dst) (by unfold execOp; simp only [e16]; go_simp) rfl
  · have d12 : vs 12 = .string d.dst := hR 12 (by simp [hdep])
    have e17 : ac.eval (.tmp 17) = .string d.dst := (hE 17 (by simp)).trans (by simp [evF, hdep, d12])
    refine soft_call 50 _ _ rfl (enters_fn Tryz.func50 (by kernel_rfl) rfl) #[.string ⟨#[116, 111]⟩, .string d.dst] (by simp [e17, ec]) ?_
    refine (rfield_any (⟨#[116, 111]⟩) (d.dst) W1).mono ?_
    rintro e9 w9 ⟨rfl, hb9⟩
    exact ⟨_, rfl, hb9, rfl⟩
  · have e3 : ac.eval (.tmp 3) = .pointer (some ⟨g + 1, 0, none⟩) := (hE 3 (by simp)).trans (by simp [evF, Act.eval])
    exact soft_value (.pointer (some ⟨g + 1, 0, none⟩)) (by unfold execOp; simp only [e3]; kernel_rfl) rfl
  · have d14 : vs 14 = .pointer (some ⟨g + 1, 0, none⟩) := hR 14 (by simp [hdep])
    have e19 : ac.eval (.tmp 19) = .pointer (some ⟨g + 1, 0, none⟩) := (hE 19 (by simp)).trans (by simp [evF, hdep, d14])
    have hc0 : W1.cell? ⟨g + 1, 0, none⟩ = some (.string m.cur) := (HM0.out.below hB HM0.out.lt).cell 0
    exact soft_value (.string m.cur) (by unfold execOp; simp only [e19]; go_simp) rfl
  · have d15 : vs 15 = .string m.cur := hR 15 (by simp [hdep])
    have e20 : ac.eval (.tmp 20) = .string m.cur := (hE 20 (by simp)).trans (by simp [evF, hdep, d15])
    refine soft_call 50 _ _ rfl (enters_fn Tryz.func50 (by kernel_rfl) rfl) #[.string ⟨#[99, 117, 114, 114, 101, 110, 99, 121]⟩, .string m.cur] (by simp [e20, ec]) ?_
    refine (rfield_any (⟨#[99, 117, 114, 114, 101, 110, 99, 121]⟩) (m.cur) W1).mono ?_
    rintro e9 w9 ⟨rfl, hb9⟩
    exact ⟨_, rfl, hb9, rfl⟩
  · have e3 : ac.eval (.tmp 3) = .pointer (some ⟨g + 1, 0, none⟩) := (hE 3 (by simp)).trans (by simp [evF, Act.eval])
    exact soft_value (.pointer (some ⟨g + 1, 1, none⟩)) (by unfold execOp; simp only [e3]; kernel_rfl) rfl
  · have d17 : vs 17 = .pointer (some ⟨g + 1, 1, none⟩) := hR 17 (by simp [hdep])
    have e22 : ac.eval (.tmp 22) = .pointer (some ⟨g + 1, 1, none⟩) := (hE 22 (by simp)).trans (by simp [evF, hdep, d17])
    have hc1 : W1.cell? ⟨g + 1, 1, none⟩ = some (.int .i64 m.amt) := (HM0.out.below hB HM0.out.lt).cell 1
    exact soft_value (.int .i64 m.amt) (by unfold execOp; simp only [e22]; go_simp) rfl
  · have d18 : vs 18 = .int .i64 m.amt := hR 18 (by simp [hdep])
    have e23 : ac.eval (.tmp 23) = .int .i64 m.amt := (hE 23 (by simp)).trans (by simp [evF, hdep, d18])
    refine soft_call 51 _ _ rfl (enters_fn Tryz.func51 (by kernel_rfl) rfl) #[.string ⟨#[115, 117, 109]⟩, .int .i64 m.amt] (by simp [e23, ec]) ?_
    refine (rnumber_any (⟨#[115, 117, 109]⟩) m.amt HI.out W1).mono ?_
    rintro e9 w9 ⟨rfl, hb9⟩
    exact ⟨_, rfl, hb9, rfl⟩
  · have d7 : vs 7 = .agg #[.string ⟨#[115, 101, 108, 108, 101, 114]⟩, .string d.sel] := hR 7 (by simp [hdep])
    have e12 : ac.eval (.tmp 12) = .agg #[.string ⟨#[115, 101, 108, 108, 101, 114]⟩, .string d.sel] := (hE 12 (by simp)).trans (by simp [evF, hdep, d7])
    have d10 : vs 10 = .agg #[.string ⟨#[102, 114, 111, 109]⟩, .string d.fr] := hR 10 (by simp [hdep])
    have e15 : ac.eval (.tmp 15) = .agg #[.string ⟨#[102, 114, 111, 109]⟩, .string d.fr] := (hE 15 (by simp)).trans (by simp [evF, hdep, d10])
    have d13 : vs 13 = .agg #[.string ⟨#[116, 111]⟩, .string d.dst] := hR 13 (by simp [hdep])
    have e18 : ac.eval (.tmp 18) = .agg #[.string ⟨#[116, 111]⟩, .string d.dst] := (hE 18 (by simp)).trans (by simp [evF, hdep, d13])
    have d16 : vs 16 = .agg #[.string ⟨#[99, 117, 114, 114, 101, 110, 99, 121]⟩, .string m.cur] := hR 16 (by simp [hdep])
    have e21 : ac.eval (.tmp 21) = .agg #[.string ⟨#[99, 117, 114, 114, 101, 110, 99, 121]⟩, .string m.cur] := (hE 21 (by simp)).trans (by simp [evF, hdep, d16])
    have d19 : vs 19 = .agg #[.string ⟨#[115, 117, 109]⟩, .string (itS m.amt)] := hR 19 (by simp [hdep])
    have e24 : ac.eval (.tmp 24) = .agg #[.string ⟨#[115, 117, 109]⟩, .string (itS m.amt)] := (hE 24 (by simp)).trans (by simp [evF, hdep, d19])
    refine soft_build 107 123 5 _ rfl #[(0, .agg #[.string ⟨#[115, 101, 108, 108, 101, 114]⟩, .string d.sel]), (1, .agg #[.string ⟨#[102, 114, 111, 109]⟩, .string d.fr]), (2, .agg #[.string ⟨#[116, 111]⟩, .string d.dst]), (3, .agg #[.string ⟨#[99, 117, 114, 114, 101, 110, 99, 121]⟩, .string m.cur]), (4, .agg #[.string ⟨#[115, 117, 109]⟩, .string (itS m.amt)])] (by simp [e12, e15, e18, e21, e24, ec]) #[.string (⟨#[115, 101, 108, 108, 101, 114]⟩), .string (d.sel), .string (⟨#[102, 114, 111, 109]⟩), .string (d.fr), .string (⟨#[116, 111]⟩), .string (d.dst), .string (⟨#[99, 117, 114, 114, 101, 110, 99, 121]⟩), .string (m.cur), .string (⟨#[115, 117, 109]⟩), .string ((itS m.amt))] (bs5 (⟨#[115, 101, 108, 108, 101, 114]⟩) (d.sel) (⟨#[102, 114, 111, 109]⟩) (d.fr) (⟨#[116, 111]⟩) (d.dst) (⟨#[99, 117, 114, 114, 101, 110, 99, 121]⟩) (m.cur) (⟨#[115, 117, 109]⟩) ((itS m.amt)) W1) ⟨_, _, rfl, SliceOf.blk (en := fdC) (Blk.new_at W1 123 _ _ rfl) (covP d m).fs rfl (fun _ => rfl) rfl, fun x off e => (by injection e with e; injection e with e; rw [← e]; exact Nat.le_trans HS0.out hB.size)⟩
  · have d2 : vs 2 = .string ((⟨#[105, 110, 45]⟩ : ByteArray) ++ (d.num : ByteArray)) := hR 2 (by simp [hdep])
    have e7 : ac.eval (.tmp 7) = .string ((⟨#[105, 110, 45]⟩ : ByteArray) ++ (d.num : ByteArray)) := (hE 7 (by simp)).trans (by simp [evF, hdep, d2])
    have d4 : vs 4 = .string d.ins := hR 4 (by simp [hdep])
    have e9 : ac.eval (.tmp 9) = .string d.ins := (hE 9 (by simp)).trans (by simp [evF, hdep, d4])
    obtain ⟨A20, c20, d20, h20, l20⟩ := (show (SlHi (g + 3) 2 fdC 5 (covP d m).fs) (vs 20) W1 from hR 20 (by simp [hdep]))
    have e25 : ac.eval (.tmp 25) = .slice A20 5 c20 := (hE 25 (by simp)).trans (by simp [evF, hdep, d20])
    exact soft_value (.agg #[.int .i64 3, .string ((⟨#[105, 110, 45]⟩ : ByteArray) ++ (d.num : ByteArray)), .string d.ins, .slice A20 5 c20]) (by unfold execOp; simp [e7, e9, e25, ec]; kernel_rfl) ⟨A20, c20, rfl, h20, l20⟩
  · have hall := hdep
    have e4 : ac.eval (.tmp 4) = .pointer (some ⟨g + 2, 0, none⟩) := (hE 4 (by simp)).trans (by simp [evF, Act.eval])
    obtain ⟨A20, c20, d21, h21, l21⟩ := (show (DocHi (g + 3) d m) (vs 21) W1 from hR 21 (by omega))
    have e26 : ac.eval (.tmp 26) = .agg #[.int .i64 3, .string ((⟨#[105, 110, 45]⟩ : ByteArray) ++ (d.num : ByteArray)), .string d.ins, .slice A20 5 c20] := (hE 26 (by simp)).trans (by simp [evF, hall 21 (by omega), d21])
    have hk := HR0.out.below hB HR0.out.lt
    refine wp_store_row 109 _ _ rfl (g + 2) #[.int .i64 3, .string ((⟨#[105, 110, 45]⟩ : ByteArray) ++ (d.num : ByteArray)), .string d.ins, .slice A20 5 c20] e4 e26 109 _ hk (by kernel_rfl) rfl (by simp [Value.oneCell']) ⟨_, rfl, ?_⟩
    have hk2 : Blk (W1.setRow (g + 2) #[.int .i64 3, .string ((⟨#[105, 110, 45]⟩ : ByteArray) ++ (d.num : ByteArray)), .string d.ins, .slice A20 5 c20]) (g + 2) 109 #[.int .i64 3, .string ((⟨#[105, 110, 45]⟩ : ByteArray) ++ (d.num : ByteArray)), .string d.ins, .slice A20 5 c20] := setRow_heap W1 (g + 2) _ _ _ (0, 0) hk
    have hs2 := h21.rowF (g := g + 2) (cs := #[.int .i64 3, .string ((⟨#[105, 110, 45]⟩ : ByteArray) ++ (d.num : ByteArray)), .string d.ins, .slice A20 5 c20]) (fun x off e => by have := l21 x off e; omega)
    have hb2 : Below w.heap.size w (W1.setRow (g + 2) #[.int .i64 3, .string ((⟨#[105, 110, 45]⟩ : ByteArray) ++ (d.num : ByteArray)), .string d.ins, .slice A20 5 c20]) := (HB0.out.trans (hB.mono HB0.out.size)).trans ⟨rfl, rfl, rfl, by simp [World.setRow], fun j hj => setRow_other W1 (g + 2) j _ (by have := HG.out; omega)⟩
    have q0 := hk2.cell 0; have q1 := hk2.cell 1; have q2 := hk2.cell 2; have q3 := hk2.cell 3
    simp only [List.getElem?_toArray, List.getElem?_cons_zero, List.getElem?_cons_succ] at q0 q1 q2 q3
    simp only [fillA, Act.put, List.setIfInBounds_toArray, List.set_cons_zero, List.set_cons_succ, if_true]
    have HS2 := Lib.hid hs2
    have HB2 := Lib.hid hb2
    have HL2 : Hid (∀ x off, A20 = some ⟨x, off, none⟩ → w.heap.size ≤ x) := Lib.hid (fun x off e => by have := l21 x off e; have := HG.out; omega)
    clear hs2 hb2 hk hk2 hB hR hE hdep hall
    go_wp2_with fail
    refine bodyPost_ret (v := .agg #[.int .i64 3, .string ((⟨#[105, 110, 45]⟩ : ByteArray) ++ (d.num : ByteArray)), .string d.ins, .slice A20 5 c20]) (by simp [results, Tryz.results34, go_sem, q0, q1, q2, q3]) rfl ?_
    exact ⟨_, _, rfl, HS2.out, HL2.out, HB2.out⟩
end Go.Proofs.YtdanjegnhdpnlaaGreatDoor.kit
