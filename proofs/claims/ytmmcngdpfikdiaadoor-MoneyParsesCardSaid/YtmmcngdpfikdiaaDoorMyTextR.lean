/- The text of money: the document. No condition. -/
import Derived.Test.YtmmcngdpfikdiaaDoorMyText
namespace Go.Proofs.YtmmcngdpfikdiaaDoor.kit
open Go.RowKit Go.PlainAid
set_option linter.unusedVariables false

set_option maxRecDepth 100000 in
set_option maxHeartbeats 6400000 in
theorem rtext_pos (cur : ByteArray) (A : Nat) (w : World) (hc : cur.size ≤ maxLen) (hA : A ≤ 9223372036854775807) (hy : 0 ≤ A) :
    Calls Tryd.prog 17 #[.agg #[.string cur, .int .i64 (A : Int)]] w fun e w' => e = .returned (.string (textV ⟨cur, (A : Int)⟩)) ∧ Below w.heap.size w w' := by
  have HM := Lib.hid (fun w => rmay_any ⟨cur, (A : Int)⟩ w hc)
  have hA0 : Blk (w.alloc (.cells #[.string cur, .int .i64 (A : Int)] 23)) w.heap.size 23 #[.string cur, .int .i64 (A : Int)] := Blk.new _ _ _
  have hB0 : Below w.heap.size w (w.alloc (.cells #[.string cur, .int .i64 (A : Int)] 23)) := (Below.refl _ _).alloc (Nat.le_refl _) _
  have a0 := hA0.cell 0; have a1 := hA0.cell 1
  simp only [List.getElem?_toArray, List.getElem?_cons_zero, List.getElem?_cons_succ] at a0 a1
  cases q0 : mayM ⟨cur, (A : Int)⟩
  · have e1 : Hid (⟨#[]⟩ = textV ⟨cur, (A : Int)⟩) := Lib.hid (by unfold textV; rw [q0, if_neg (by simp)])
    rw [q0] at HM
    clear q0
    go_enter Tryd.func17, Tryd.ntmps17
    go_wp2_with fail
    refine (HM.out _).mono ?_
    rintro e w1 ⟨rfl, hb1⟩
    have hB1 := hB0.trans (hb1.mono hB0.size)
    have hA1 := hA0.below hb1 hA0.lt
    clear a0 a1 hB0 hA0 hb1
    have a0 := hA1.cell 0; have a1 := hA1.cell 1
    simp only [List.getElem?_toArray, List.getElem?_cons_zero, List.getElem?_cons_succ] at a0 a1
    go_wp2_with fail
    go_ret
    exact ⟨ret_string e1.out, hB1⟩
  rw [q0] at HM
  have hma := (may_iff.1 q0).2
  have hc3 := cur_size (may_iff.1 q0).1
  simp only [] at hma hc3
  have hA40 : A ≤ 1099511627776 := by
    have h1 := hma.1
    have h2 := hma.2
    change _ ≤ (A : Int) at h1
    change (A : Int) ≤ _ at h2
    omega
  have HDG := Lib.hid (fun w => rdigits_any cur w)
  have hd3 := digV_cases cur
  have hng : (¬ ((A : Int) < 0)) := by omega
  have EV : textV ⟨cur, (A : Int)⟩ = cur ++ (⟨#[32]⟩ : ByteArray) ++ (⟨#[]⟩ : ByteArray) ++ bstr (bodyL (digV cur) A) := by
    unfold textV sgnS; rw [if_pos q0, if_neg hng, show (Mon.mk cur (A : Int)).amt.natAbs = A by simp]
  obtain ⟨d, hd⟩ : ∃ d, digV cur = d := ⟨_, rfl⟩
  rw [hd] at HDG hd3 EV
  obtain ⟨X, hX⟩ : ∃ X, A / 10 ^ d = X := ⟨_, rfl⟩
  obtain ⟨Y, hY⟩ : ∃ X, A % 10 ^ d = X := ⟨_, rfl⟩
  have hX40 : X ≤ 1099511627776 := by rw [← hX]; have := Nat.div_le_self A (10 ^ d); omega
  have hY40 : Y ≤ 1099511627776 := by rw [← hY]; have := Nat.mod_le A (10 ^ d); omega
  have HX1 := Lib.hid (fun w => whole_any X 1 w (by omega) (by omega) hX40)
  have HB1 : Hid (d = 0 → (cur ++ (⟨#[32]⟩ : ByteArray)) ++ bstr (padW 1 X) = textV ⟨cur, (A : Int)⟩) := Lib.hid (fun h => by
    rw [EV]; apply list_inj; unfold bodyL; rw [if_pos h, hX, padW_one]; simp [data_bstr])
  have HB2 : Hid (d ≠ 0 → (cur ++ (⟨#[32]⟩ : ByteArray)) ++ bstr (padW 1 X) ++ ((⟨#[46]⟩ : ByteArray) ++ bstr (padW d Y)) = textV ⟨cur, (A : Int)⟩) := Lib.hid (fun h => by
    rw [EV]; apply list_inj; unfold bodyL
    have hYd : padW d Y = digsW d A := by rw [← hY, padW_eq d _ (Nat.mod_lt _ (Nat.pow_pos (by omega))) (by omega), digsW_mod]
    rw [if_neg h, hX, padW_one, hYd]
    simp only [app_list, data_bstr, List.append_assoc]
    rfl)
  have w1 : wrap64 (-(A : Int)) = -(A : Int) := w64_id ⟨by omega, by omega⟩
  have z1 : (bstr (padW 1 X)).size ≤ 20 := by have := pad_len 0 X hX40 (by omega); simp only [Nat.zero_add] at this; rw [size_bstr]; omega
  have z2 : d ≠ 0 → (bstr (padW d Y)).size ≤ 20 := fun h => by
    have := pad_len (d - 1) Y hY40 (by omega)
    rw [show d - 1 + 1 = d by omega] at this
    rw [size_bstr]; omega
  obtain ⟨S1, hS1⟩ : ∃ S, bstr (padW 1 X) = S := ⟨_, rfl⟩
  rw [hS1] at HX1 HB1 HB2 z1
  obtain ⟨U, hU⟩ : ∃ U, 10 ^ d = U := ⟨_, rfl⟩
  rw [hU] at hX hY
  have hU1 : 1 ≤ U := by rw [← hU]; exact Nat.pow_pos (by omega)
  have hUx : (A : Int) / (U : Int) = (X : Int) := by rw [← Int.natCast_ediv, hX]
  have hUy : (A : Int) % (U : Int) = (Y : Int) := by rw [← Int.natCast_emod, hY]
  have hUx2 : Int.tdiv (A : Int) (U : Int) = (X : Int) := by rw [Int.tdiv_eq_ediv_of_nonneg (by omega), hUx]
  have hUy2 : Int.tmod (A : Int) (U : Int) = (Y : Int) := by rw [Int.tmod_eq_emod_of_nonneg (by omega), hUy]
  have hU0 : ((U : Int) == 0) = false := by simp; omega
  have HU := Lib.hid hU
  clear EV hd q0 hX hY hU
  go_enter Tryd.func17, Tryd.ntmps17
  go_wp2_with fail
  refine (HM.out _).mono ?_
  rintro e w1 ⟨rfl, hb1⟩
  have hB1 := hB0.trans (hb1.mono hB0.size)
  have hA1 := hA0.below hb1 hA0.lt
  clear a0 a1 hB0 hA0 hb1
  have a0 := hA1.cell 0; have a1 := hA1.cell 1
  simp only [List.getElem?_toArray, List.getElem?_cons_zero, List.getElem?_cons_succ] at a0 a1
  go_wp2_with fail
  go_quiet (fail)
  have hB2 := below_drewN hB1 nq
  have hA2 := hA1.drewN nq
  clear a0 a1
  have a0 := hA2.cell 0; have a1 := hA2.cell 1
  simp only [List.getElem?_toArray, List.getElem?_cons_zero, List.getElem?_cons_succ] at a0 a1
  go_wp2_with fail
  refine (HDG.out _).mono ?_
  rintro e w' ⟨rfl, rfl⟩
  go_wp2_with fail
  go_loop [6, 7] (fun u i => ∃ k : Nat, k ≤ d ∧ i = .int .i64 k ∧ u = .int .i64 ((10 ^ k : Nat) : Int)) (fun _ i => d - (intOf i).toNat)
  case atStart => exact ⟨0, by omega, rfl, rfl⟩
  case round =>
    obtain ⟨k, hk, rfl, rfl⟩ := hrel
    by_cases hlt : k < d
    · have hkd : k = 0 ∨ k = 1 ∨ k = 2 := by omega
      rcases hkd with rfl | rfl | rfl
      all_goals
        go_wp2_with fail
        go_round
        case rel => exact ⟨_, hlt, by go_num, rfl⟩
        case measure => simp [intOf]; omega
    · have hkd : k = d := by omega
      rw [hkd, HU.out]
      clear hkd hk hlt
      go_wp2_with fail
      refine (HX1.out _).mono ?_
      rintro e w3 ⟨rfl, hb3⟩
      have HB3 := Lib.hid (hB2.trans (hb3.mono hB2.size))
      clear hb3
      by_cases hd0 : d = 0
      · subst hd0
        have HE := Lib.hid (HB1.out rfl)
        go_wp2_with fail
        go_ret
        exact ⟨ret_string HE.out, HB3.out⟩
      · have HE := Lib.hid (HB2.out hd0)
        have zz := z2 hd0
        have HY1 := Lib.hid (fun w => whole_any Y d w (by omega) (by omega) hY40)
        have d0 : decide ((0 : Int) < (d : Int)) = true := decide_eq_true (by omega)
        have d0n : decide (0 < d) = true := decide_eq_true (by omega)
        obtain ⟨S2, hS2⟩ : ∃ S, bstr (padW d Y) = S := ⟨_, rfl⟩
        rw [hS2] at HY1 HE zz
        clear hS2 z2 hd0
        go_wp2_with fail
        refine (HY1.out _).mono ?_
        rintro e w4 ⟨rfl, hb4⟩
        have HB4 := Lib.hid (HB3.out.trans (hb4.mono HB3.out.size))
        clear hb4
        go_wp2_with fail
        go_ret
        exact ⟨ret_string HE.out, HB4.out⟩
set_option maxRecDepth 100000 in
set_option maxHeartbeats 6400000 in
theorem rtext_neg (cur : ByteArray) (A : Nat) (w : World) (hc : cur.size ≤ maxLen) (hA : A ≤ 9223372036854775807) (hy : 1 ≤ A) :
    Calls Tryd.prog 17 #[.agg #[.string cur, .int .i64 (-(A : Int))]] w fun e w' => e = .returned (.string (textV ⟨cur, (-(A : Int))⟩)) ∧ Below w.heap.size w w' := by
  have HM := Lib.hid (fun w => rmay_any ⟨cur, (-(A : Int))⟩ w hc)
  have hA0 : Blk (w.alloc (.cells #[.string cur, .int .i64 (-(A : Int))] 23)) w.heap.size 23 #[.string cur, .int .i64 (-(A : Int))] := Blk.new _ _ _
  have hB0 : Below w.heap.size w (w.alloc (.cells #[.string cur, .int .i64 (-(A : Int))] 23)) := (Below.refl _ _).alloc (Nat.le_refl _) _
  have a0 := hA0.cell 0; have a1 := hA0.cell 1
  simp only [List.getElem?_toArray, List.getElem?_cons_zero, List.getElem?_cons_succ] at a0 a1
  cases q0 : mayM ⟨cur, (-(A : Int))⟩
  · have e1 : Hid (⟨#[]⟩ = textV ⟨cur, (-(A : Int))⟩) := Lib.hid (by unfold textV; rw [q0, if_neg (by simp)])
    rw [q0] at HM
    clear q0
    go_enter Tryd.func17, Tryd.ntmps17
    go_wp2_with fail
    refine (HM.out _).mono ?_
    rintro e w1 ⟨rfl, hb1⟩
    have hB1 := hB0.trans (hb1.mono hB0.size)
    have hA1 := hA0.below hb1 hA0.lt
    clear a0 a1 hB0 hA0 hb1
    have a0 := hA1.cell 0; have a1 := hA1.cell 1
    simp only [List.getElem?_toArray, List.getElem?_cons_zero, List.getElem?_cons_succ] at a0 a1
    go_wp2_with fail
    go_ret
    exact ⟨ret_string e1.out, hB1⟩
  rw [q0] at HM
  have hma := (may_iff.1 q0).2
  have hc3 := cur_size (may_iff.1 q0).1
  simp only [] at hma hc3
  have hA40 : A ≤ 1099511627776 := by
    have h1 := hma.1
    have h2 := hma.2
    change _ ≤ (-(A : Int)) at h1
    change (-(A : Int)) ≤ _ at h2
    omega
  have HDG := Lib.hid (fun w => rdigits_any cur w)
  have hd3 := digV_cases cur
  have hng : (-(A : Int) < 0) := by omega
  have EV : textV ⟨cur, (-(A : Int))⟩ = cur ++ (⟨#[32]⟩ : ByteArray) ++ (⟨#[45]⟩ : ByteArray) ++ bstr (bodyL (digV cur) A) := by
    unfold textV sgnS; rw [if_pos q0, if_pos hng, show (Mon.mk cur (-(A : Int))).amt.natAbs = A by simp]
  obtain ⟨d, hd⟩ : ∃ d, digV cur = d := ⟨_, rfl⟩
  rw [hd] at HDG hd3 EV
  obtain ⟨X, hX⟩ : ∃ X, A / 10 ^ d = X := ⟨_, rfl⟩
  obtain ⟨Y, hY⟩ : ∃ X, A % 10 ^ d = X := ⟨_, rfl⟩
  have hX40 : X ≤ 1099511627776 := by rw [← hX]; have := Nat.div_le_self A (10 ^ d); omega
  have hY40 : Y ≤ 1099511627776 := by rw [← hY]; have := Nat.mod_le A (10 ^ d); omega
  have HX1 := Lib.hid (fun w => whole_any X 1 w (by omega) (by omega) hX40)
  have HB1 : Hid (d = 0 → (cur ++ (⟨#[32]⟩ : ByteArray) ++ (⟨#[45]⟩ : ByteArray)) ++ bstr (padW 1 X) = textV ⟨cur, (-(A : Int))⟩) := Lib.hid (fun h => by
    rw [EV]; apply list_inj; unfold bodyL; rw [if_pos h, hX, padW_one]; simp [data_bstr])
  have HB2 : Hid (d ≠ 0 → (cur ++ (⟨#[32]⟩ : ByteArray) ++ (⟨#[45]⟩ : ByteArray)) ++ bstr (padW 1 X) ++ ((⟨#[46]⟩ : ByteArray) ++ bstr (padW d Y)) = textV ⟨cur, (-(A : Int))⟩) := Lib.hid (fun h => by
    rw [EV]; apply list_inj; unfold bodyL
    have hYd : padW d Y = digsW d A := by rw [← hY, padW_eq d _ (Nat.mod_lt _ (Nat.pow_pos (by omega))) (by omega), digsW_mod]
    rw [if_neg h, hX, padW_one, hYd]
    simp only [app_list, data_bstr, List.append_assoc]
    rfl)
  have w1 : wrap64 (-(A : Int)) = -(A : Int) := w64_id ⟨by omega, by omega⟩
  have z1 : (bstr (padW 1 X)).size ≤ 20 := by have := pad_len 0 X hX40 (by omega); simp only [Nat.zero_add] at this; rw [size_bstr]; omega
  have z2 : d ≠ 0 → (bstr (padW d Y)).size ≤ 20 := fun h => by
    have := pad_len (d - 1) Y hY40 (by omega)
    rw [show d - 1 + 1 = d by omega] at this
    rw [size_bstr]; omega
  obtain ⟨S1, hS1⟩ : ∃ S, bstr (padW 1 X) = S := ⟨_, rfl⟩
  rw [hS1] at HX1 HB1 HB2 z1
  obtain ⟨U, hU⟩ : ∃ U, 10 ^ d = U := ⟨_, rfl⟩
  rw [hU] at hX hY
  have hU1 : 1 ≤ U := by rw [← hU]; exact Nat.pow_pos (by omega)
  have hUx : (A : Int) / (U : Int) = (X : Int) := by rw [← Int.natCast_ediv, hX]
  have hUy : (A : Int) % (U : Int) = (Y : Int) := by rw [← Int.natCast_emod, hY]
  have hUx2 : Int.tdiv (A : Int) (U : Int) = (X : Int) := by rw [Int.tdiv_eq_ediv_of_nonneg (by omega), hUx]
  have hUy2 : Int.tmod (A : Int) (U : Int) = (Y : Int) := by rw [Int.tmod_eq_emod_of_nonneg (by omega), hUy]
  have hU0 : ((U : Int) == 0) = false := by simp; omega
  have HU := Lib.hid hU
  clear EV hd q0 hX hY hU
  go_enter Tryd.func17, Tryd.ntmps17
  go_wp2_with fail
  refine (HM.out _).mono ?_
  rintro e w1 ⟨rfl, hb1⟩
  have hB1 := hB0.trans (hb1.mono hB0.size)
  have hA1 := hA0.below hb1 hA0.lt
  clear a0 a1 hB0 hA0 hb1
  have a0 := hA1.cell 0; have a1 := hA1.cell 1
  simp only [List.getElem?_toArray, List.getElem?_cons_zero, List.getElem?_cons_succ] at a0 a1
  go_wp2_with fail
  go_quiet (fail)
  have hB2 := below_drewN hB1 nq
  have hA2 := hA1.drewN nq
  clear a0 a1
  have a0 := hA2.cell 0; have a1 := hA2.cell 1
  simp only [List.getElem?_toArray, List.getElem?_cons_zero, List.getElem?_cons_succ] at a0 a1
  go_wp2_with fail
  refine (HDG.out _).mono ?_
  rintro e w' ⟨rfl, rfl⟩
  go_wp2_with fail
  go_loop [6, 7] (fun u i => ∃ k : Nat, k ≤ d ∧ i = .int .i64 k ∧ u = .int .i64 ((10 ^ k : Nat) : Int)) (fun _ i => d - (intOf i).toNat)
  case atStart => exact ⟨0, by omega, rfl, rfl⟩
  case round =>
    obtain ⟨k, hk, rfl, rfl⟩ := hrel
    by_cases hlt : k < d
    · have hkd : k = 0 ∨ k = 1 ∨ k = 2 := by omega
      rcases hkd with rfl | rfl | rfl
      all_goals
        go_wp2_with fail
        go_round
        case rel => exact ⟨_, hlt, by go_num, rfl⟩
        case measure => simp [intOf]; omega
    · have hkd : k = d := by omega
      rw [hkd, HU.out]
      clear hkd hk hlt
      go_wp2_with fail
      refine (HX1.out _).mono ?_
      rintro e w3 ⟨rfl, hb3⟩
      have HB3 := Lib.hid (hB2.trans (hb3.mono hB2.size))
      clear hb3
      by_cases hd0 : d = 0
      · subst hd0
        have HE := Lib.hid (HB1.out rfl)
        go_wp2_with fail
        go_ret
        exact ⟨ret_string HE.out, HB3.out⟩
      · have HE := Lib.hid (HB2.out hd0)
        have zz := z2 hd0
        have HY1 := Lib.hid (fun w => whole_any Y d w (by omega) (by omega) hY40)
        have d0 : decide ((0 : Int) < (d : Int)) = true := decide_eq_true (by omega)
        have d0n : decide (0 < d) = true := decide_eq_true (by omega)
        obtain ⟨S2, hS2⟩ : ∃ S, bstr (padW d Y) = S := ⟨_, rfl⟩
        rw [hS2] at HY1 HE zz
        clear hS2 z2 hd0
        go_wp2_with fail
        refine (HY1.out _).mono ?_
        rintro e w4 ⟨rfl, hb4⟩
        have HB4 := Lib.hid (HB3.out.trans (hb4.mono HB3.out.size))
        clear hb4
        go_wp2_with fail
        go_ret
        exact ⟨ret_string HE.out, HB4.out⟩
end Go.Proofs.YtmmcngdpfikdiaaDoor.kit
