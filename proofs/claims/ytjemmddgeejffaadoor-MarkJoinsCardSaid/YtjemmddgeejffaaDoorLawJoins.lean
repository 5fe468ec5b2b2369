/- MarkJoins: the law. Condition: the table of powers of ten. -/
import Derived.Test.YtjemmddgeejffaaDoorMkF
namespace Go.Proofs.YtjemmddgeejffaaDoor
open Go.RowKit Go.Proofs.YtjemmddgeejffaaDoor.kit Go.PlainAid
set_option linter.unusedVariables false

theorem app_list (a b : ByteArray) : (a ++ b).data.toList = a.data.toList ++ b.data.toList := by rw [ByteArray.data_append]; simp
theorem name_iff (l : List UInt8) : nameB l = true ↔ (1 ≤ l.length ∧ l.length ≤ 16) ∧ allok l = true := by unfold nameB; simp
theorem allok_app (a b : List UInt8) : allok (a ++ b) = (allok a && allok b) := by unfold allok; rw [List.all_append]
theorem name_join {s t : ByteArray} (h1 : nameB s.data.toList = true) (h2 : nameB t.data.toList = true) : nameB (s ++ t).data.toList = decide (s.size + t.size ≤ 16) := by
  rw [name_iff, len_list] at h1 h2
  rw [Bool.eq_iff_iff, name_iff, app_list, allok_app, h1.2, h2.2, List.length_append, len_list, len_list, decide_eq_true_eq]
  simp
  omega
theorem name_short {s t : ByteArray} (h : nameB (s ++ t).data.toList = true) : s.size + t.size ≤ 16 := by
  rw [name_iff, app_list, List.length_append, len_list, len_list] at h
  omega
theorem name_sub {s : ByteArray} (h : nameB s.data.toList = true) (a b : Nat) (hab : a ≤ b) (hb : b ≤ s.size) : nameB (s.extract a b).data.toList = decide (a < b) := by
  rw [name_iff, len_list] at h
  have ha : allok ((s.data.toList.drop a).take (b - a)) = true := by
    have h2 := h.2
    unfold allok at h2 ⊢
    rw [List.all_eq_true] at h2 ⊢
    exact fun x hx => h2 x (List.mem_of_mem_drop (List.mem_of_mem_take hx))
  rw [Bool.eq_iff_iff, name_iff, Lib.extract_data, ha, List.length_take, List.length_drop, len_list, decide_eq_true_eq]
  simp
  omega
theorem right_parts {s : ByteArray} (h : rightB s = true) : nameB (s.extract 0 4).data.toList = true ∧ nameB (s.extract 4 10).data.toList = true := by
  have h12 : s.size = 12 := by unfold rightB at h; simp at h; exact h.1
  have hh : headF s 10 = true := by unfold rightB at h; simp at h; exact h.2.1
  constructor
  · have hz : (s.extract 0 4).size = 4 := by rw [ByteArray.size_extract]; omega
    rw [name_iff, len_list, hz]
    refine ⟨by omega, allok_bt (fun i hi => ?_)⟩
    left
    rw [bt_ext _ _ _ _ (by omega) (by omega), Nat.zero_add]
    have := headF_at hh i (by omega)
    unfold okAt at this
    rwa [if_pos (by omega)] at this
  · have hz : (s.extract 4 10).size = 6 := by rw [ByteArray.size_extract]; omega
    rw [name_iff, len_list, hz]
    refine ⟨by omega, allok_bt (fun i hi => ?_)⟩
    right; left
    rw [bt_ext _ _ _ _ (by omega) (by omega)]
    have := headF_at hh (4 + i) (by omega)
    unfold okAt at this
    rwa [if_neg (by omega)] at this
theorem num_nn {s : ByteArray} (h : rightB s = true) : 0 ≤ numN s 6 := (num_bd (show headF s 10 = true by unfold rightB at h; simp at h; exact h.2.1) (Nat.le_refl 6)).1
set_option maxRecDepth 100000 in
set_option maxHeartbeats 3200000 in
theorem joins_out (s t : ByteArray) (c : Int) (w : World) (hs : s.size ≤ maxLen) (hts : t.size ≤ maxLen) (ht : PowTab w) (ho : 40 < s.size ∨ 40 < t.size ∨ c < 0 ∨ (s.size : Int) < c) : Calls Tryd.prog 7 #[.string s, .string t, .int .i64 c] w fun e w' => e = .returned (.bool true) ∧ Below w.heap.size w w' := by
  have HT := Lib.hid ht
  clear ht
  unfold maxLen at hs hts
  by_cases q1 : 40 < s.size
  · have d1 : decide ((40 : Int) < (s.size : Int)) = true := decide_eq_true (by omega)
    have d1n : decide (40 < s.size) = true := decide_eq_true q1
    clear ho
    go_enter Tryd.func7, Tryd.ntmps7
    go_wp2_with fail
    refine (awake_any _ HT.out).mono ?_
    rintro e w1 ⟨rfl, hb1⟩
    have HB1 := Lib.hid hb1
    clear hb1
    go_wp2_with fail
    go_ret
    exact ⟨rfl, HB1.out⟩
  have d1 : decide ((40 : Int) < (s.size : Int)) = false := decide_eq_false (by omega)
  have d1n : decide (40 < s.size) = false := decide_eq_false q1
  by_cases q2 : 40 < t.size
  · have d2 : decide ((40 : Int) < (t.size : Int)) = true := decide_eq_true (by omega)
    have d2n : decide (40 < t.size) = true := decide_eq_true q2
    clear ho
    go_enter Tryd.func7, Tryd.ntmps7
    go_wp2_with fail
    refine (awake_any _ HT.out).mono ?_
    rintro e w1 ⟨rfl, hb1⟩
    have HB1 := Lib.hid hb1
    clear hb1
    go_wp2_with fail
    go_ret
    exact ⟨rfl, HB1.out⟩
  have d2 : decide ((40 : Int) < (t.size : Int)) = false := decide_eq_false (by omega)
  have d2n : decide (40 < t.size) = false := decide_eq_false q2
  by_cases q3 : c < 0
  · have d3 : decide (c < 0) = true := decide_eq_true q3
    clear ho
    go_enter Tryd.func7, Tryd.ntmps7
    go_wp2_with fail
    refine (awake_any _ HT.out).mono ?_
    rintro e w1 ⟨rfl, hb1⟩
    have HB1 := Lib.hid hb1
    clear hb1
    go_wp2_with fail
    go_ret
    exact ⟨rfl, HB1.out⟩
  have d3 : decide (c < 0) = false := decide_eq_false q3
  have q4 : (s.size : Int) < c := by omega
  have d4 : decide ((s.size : Int) < c) = true := decide_eq_true q4
  clear ho
  go_enter Tryd.func7, Tryd.ntmps7
  go_wp2_with fail
  refine (awake_any _ HT.out).mono ?_
  rintro e w1 ⟨rfl, hb1⟩
  have HB1 := Lib.hid hb1
  clear hb1
  go_wp2_with fail
  go_ret
  exact ⟨rfl, HB1.out⟩
theorem right_name {s : ByteArray} (h : rightB s = true) : nameB s.data.toList = true := by
  have h12 : s.size = 12 := by unfold rightB at h; simp at h; exact h.1
  have hh : headF s 10 = true := by unfold rightB at h; simp at h; exact h.2.1
  have hd : digB (bt s 10) = true ∧ digB (bt s 11) = true := by unfold rightB at h; simp at h; exact ⟨h.2.2.1, h.2.2.2.1⟩
  rw [name_iff, len_list, h12]
  refine ⟨by omega, allok_bt (fun i hi => ?_)⟩
  by_cases h10 : i < 10
  · have := headF_at hh i h10
    unfold okAt at this
    by_cases h4 : i < 4
    · left; rwa [if_pos h4] at this
    · right; left; rwa [if_neg h4] at this
  · right; left
    have : i = 10 ∨ i = 11 := by omega
    rcases this with rfl | rfl
    · exact hd.1
    · exact hd.2
set_option maxRecDepth 100000 in
set_option maxHeartbeats 32000000 in
theorem joins_in (s t : ByteArray) (c : Nat) (w : World) (hs : s.size ≤ 40) (hts : t.size ≤ 40) (hc : c ≤ s.size) (ht : PowTab w) :
    Calls Tryd.prog 7 #[.string s, .string t, .int .i64 (c : Int)] w fun e w' => e = .returned (.bool true) ∧ Below w.heap.size w w' := by
  have HT := Lib.hid ht
  clear ht
  have d1 : decide ((40 : Int) < (s.size : Int)) = false := decide_eq_false (by omega)
  have d1n : decide (40 < s.size) = false := decide_eq_false (by omega)
  have d2 : decide ((40 : Int) < (t.size : Int)) = false := decide_eq_false (by omega)
  have d2n : decide (40 < t.size) = false := decide_eq_false (by omega)
  have d4 : decide ((s.size : Int) < (c : Int)) = false := decide_eq_false (by omega)
  have d4n : decide (s.size < c) = false := decide_eq_false (by omega)
  have HS := Lib.hid (fun w => name_any s w (by unfold maxLen; omega))
  have HTN := Lib.hid (fun w => name_any t w (by unfold maxLen; omega))
  have HST := Lib.hid (fun w => name_any (s ++ t) w (by unfold maxLen; rw [size_app]; omega))
  have HC1 := Lib.hid (fun w => name_any (s.extract 0 c) w (by unfold maxLen; rw [ByteArray.size_extract]; omega))
  have HC2 := Lib.hid (fun w => name_any (s.extract c s.size) w (by unfold maxLen; rw [ByteArray.size_extract]; omega))
  have HC3 := Lib.hid (fun w => name_any (s.extract 4 10) w (by unfold maxLen; rw [ByteArray.size_extract]; omega))
  have HC4 := Lib.hid (fun w => name_any (s.extract 0 4) w (by unfold maxLen; rw [ByteArray.size_extract]; omega))
  have HR := Lib.hid (fun w => right_any s w (by unfold maxLen; omega))
  have HO := Lib.hid (fun w => owner_any s w (by unfold maxLen; omega))
  have HU := Lib.hid (fun w => number_any s w (by unfold maxLen; omega))
  obtain ⟨S, hS⟩ : ∃ S, nameB s.data.toList = S := ⟨_, rfl⟩
  obtain ⟨T, hT⟩ : ∃ S, nameB t.data.toList = S := ⟨_, rfl⟩
  obtain ⟨ST, hST⟩ : ∃ S, nameB (s ++ t).data.toList = S := ⟨_, rfl⟩
  obtain ⟨C1, hC1⟩ : ∃ S, nameB (s.extract 0 c).data.toList = S := ⟨_, rfl⟩
  obtain ⟨C2, hC2⟩ : ∃ S, nameB (s.extract c s.size).data.toList = S := ⟨_, rfl⟩
  obtain ⟨R, hR⟩ : ∃ S, rightB s = S := ⟨_, rfl⟩
  obtain ⟨L, hL⟩ : ∃ L, decide (s.size + t.size ≤ 16) = L := ⟨_, rfl⟩
  obtain ⟨P, hP⟩ : ∃ L, decide (0 < c) = L := ⟨_, rfl⟩
  obtain ⟨Q, hQ⟩ : ∃ L, decide (c < s.size) = L := ⟨_, rfl⟩
  have e1 : S = true → T = true → ST = L := fun h1 h2 => by rw [← hST, ← hL]; exact name_join (hS.trans h1) (hT.trans h2)
  have e2 : ST = true → L = true := fun h => by rw [← hL]; exact decide_eq_true (name_short (hST.trans h))
  have e3 : S = true → C1 = P := fun h => by rw [← hC1, ← hP, name_sub (hS.trans h) 0 c (by omega) hc]
  have e4 : S = true → C2 = Q := fun h => by rw [← hC2, ← hQ, name_sub (hS.trans h) c s.size hc (Nat.le_refl _)]
  have l1 : decide ((s.size : Int) + (t.size : Int) ≤ 16) = L := by rw [← hL, decide_eq_decide]; omega
  have l2 : decide (16 < (s.size : Int) + (t.size : Int)) = !L := by rw [← hL, ← decide_not, decide_eq_decide]; omega
  have l3 : decide ((0 : Int) < (c : Int)) = P := by rw [← hP, decide_eq_decide]; omega
  have l4 : decide ((c : Int) < (s.size : Int)) = Q := by rw [← hQ, decide_eq_decide]; omega
  have l1n : decide (s.size + t.size ≤ 16) = L := hL
  have l2n : decide (16 < s.size + t.size) = !L := by rw [← hL, ← decide_not, decide_eq_decide]; omega
  have l3n : decide (0 < c) = P := hP
  have l4n : decide (c < s.size) = Q := hQ
  rw [hS] at HS
  rw [hT] at HTN
  rw [hST] at HST
  rw [hC1] at HC1
  rw [hC2] at HC2
  rw [hR] at HR
  obtain ⟨es, hes⟩ : ∃ b, s.toList.isEmpty = b := ⟨_, rfl⟩
  obtain ⟨et, het⟩ : ∃ b, t.toList.isEmpty = b := ⟨_, rfl⟩
  have h0 : S = true → es = false := fun h => by
    rw [← hes, ByteArray.toList_eq]
    have h1 := (name_iff s.data.toList).1 (hS.trans h)
    cases e : s.data.toList
    · rw [e] at h1; simp at h1
    · rfl
  have h1 : T = true → et = false := fun h => by
    rw [← het, ByteArray.toList_eq]
    have h1 := (name_iff t.data.toList).1 (hT.trans h)
    cases e : t.data.toList
    · rw [e] at h1; simp at h1
    · rfl
  have hRS : S = false → rightB s = false := fun h => by
    cases e : rightB s
    · rfl
    · have := right_name e
      rw [hS, h] at this; cases this
  have HRP : Hid (rightB s = true → nameB (s.extract 0 4).data.toList = true ∧ nameB (s.extract 4 10).data.toList = true ∧ 0 ≤ numN s 6 ∧ 10 ≤ s.size) := Lib.hid fun h => ⟨(right_parts h).1, (right_parts h).2, num_nn h, by unfold rightB at h; simp at h; omega⟩
  clear hS hT hST hC1 hC2 hL hP hQ
  cases S
  · have := hRS rfl
    rw [hR] at this
    subst this
    clear e1 e3 e4 h0 h1 hRS HRP
    cases es
    · cases et
      · cases ST
        · clear e2
          go_enter Tryd.func7, Tryd.ntmps7
          go_wp2_with fail
          refine (awake_any _ HT.out).mono ?_
          rintro e w1 ⟨rfl, hb1⟩
          have HB1 := Lib.hid hb1
          clear hb1
          go_wp2_with fail
          refine (HS.out _).mono ?_
          rintro e w' ⟨rfl, rfl⟩
          go_wp2_with fail
          refine (HST.out _).mono ?_
          rintro e w' ⟨rfl, rfl⟩
          go_wp2_with fail
          refine (HS.out _).mono ?_
          rintro e w' ⟨rfl, rfl⟩
          go_wp2_with fail
          refine (HR.out _).mono ?_
          rintro e w2 ⟨rfl, hb2⟩
          have HB2 := Lib.hid (HB1.out.trans (hb2.mono HB1.out.size))
          clear hb2
          go_wp2_with fail
          go_ret
          exact ⟨rfl, HB2.out⟩
        · have := e2 rfl
          subst this
          clear e2
          go_enter Tryd.func7, Tryd.ntmps7
          go_wp2_with fail
          refine (awake_any _ HT.out).mono ?_
          rintro e w1 ⟨rfl, hb1⟩
          have HB1 := Lib.hid hb1
          clear hb1
          go_wp2_with fail
          refine (HS.out _).mono ?_
          rintro e w' ⟨rfl, rfl⟩
          go_wp2_with fail
          refine (HST.out _).mono ?_
          rintro e w' ⟨rfl, rfl⟩
          go_wp2_with fail
          refine (HS.out _).mono ?_
          rintro e w' ⟨rfl, rfl⟩
          go_wp2_with fail
          refine (HR.out _).mono ?_
          rintro e w2 ⟨rfl, hb2⟩
          have HB2 := Lib.hid (HB1.out.trans (hb2.mono HB1.out.size))
          clear hb2
          go_wp2_with fail
          go_ret
          exact ⟨rfl, HB2.out⟩
      · clear e2
        go_enter Tryd.func7, Tryd.ntmps7
        go_wp2_with fail
        refine (awake_any _ HT.out).mono ?_
        rintro e w1 ⟨rfl, hb1⟩
        have HB1 := Lib.hid hb1
        clear hb1
        go_wp2_with fail
        refine (HS.out _).mono ?_
        rintro e w' ⟨rfl, rfl⟩
        go_wp2_with fail
        refine (HS.out _).mono ?_
        rintro e w' ⟨rfl, rfl⟩
        go_wp2_with fail
        refine (HR.out _).mono ?_
        rintro e w2 ⟨rfl, hb2⟩
        have HB2 := Lib.hid (HB1.out.trans (hb2.mono HB1.out.size))
        clear hb2
        go_wp2_with fail
        go_ret
        exact ⟨rfl, HB2.out⟩
    · clear e2
      go_enter Tryd.func7, Tryd.ntmps7
      go_wp2_with fail
      refine (awake_any _ HT.out).mono ?_
      rintro e w1 ⟨rfl, hb1⟩
      have HB1 := Lib.hid hb1
      clear hb1
      go_wp2_with fail
      refine (HS.out _).mono ?_
      rintro e w' ⟨rfl, rfl⟩
      go_wp2_with fail
      refine (HS.out _).mono ?_
      rintro e w' ⟨rfl, rfl⟩
      go_wp2_with fail
      refine (HR.out _).mono ?_
      rintro e w2 ⟨rfl, hb2⟩
      have HB2 := Lib.hid (HB1.out.trans (hb2.mono HB1.out.size))
      clear hb2
      go_wp2_with fail
      go_ret
      exact ⟨rfl, HB2.out⟩
  · have a1 := e3 rfl
    have a2 := e4 rfl
    have a3 := h0 rfl
    subst a1 a2 a3
    clear e3 e4 h0 hRS
    cases R
    all_goals
      try
        have hrp := HRP.out hR
        rw [hrp.1] at HC4
        rw [hrp.2.1] at HC3
        rw [hR, if_pos rfl] at HO HU
        have hn0 : decide ((0 : Int) ≤ numN s 6) = true := decide_eq_true hrp.2.2.1
        have h10 := hrp.2.2.2
        clear hrp
      clear hR HRP
    · cases T
      · clear e1 h1
        cases et
        · cases ST
          · clear e2
            go_enter Tryd.func7, Tryd.ntmps7
            go_wp2_with fail
            refine (awake_any _ HT.out).mono ?_
            rintro e w1 ⟨rfl, hb1⟩
            have HB1 := Lib.hid hb1
            clear hb1
            go_wp2_with fail
            refine (HS.out _).mono ?_
            rintro e w' ⟨rfl, rfl⟩
            go_wp2_with fail
            refine (HTN.out _).mono ?_
            rintro e w' ⟨rfl, rfl⟩
            go_wp2_with fail
            refine (HST.out _).mono ?_
            rintro e w' ⟨rfl, rfl⟩
            go_wp2_with fail
            refine (HS.out _).mono ?_
            rintro e w' ⟨rfl, rfl⟩
            go_wp2_with fail
            refine (HC1.out _).mono ?_
            rintro e w' ⟨rfl, rfl⟩
            go_wp2_with fail
            refine (HC2.out _).mono ?_
            rintro e w' ⟨rfl, rfl⟩
            go_wp2_with fail
            refine (HR.out _).mono ?_
            rintro e w2 ⟨rfl, hb2⟩
            have HB2 := Lib.hid (HB1.out.trans (hb2.mono HB1.out.size))
            clear hb2
            go_wp2_with fail
            go_ret
            exact ⟨rfl, HB2.out⟩
          · have := e2 rfl
            subst this
            clear e2
            go_enter Tryd.func7, Tryd.ntmps7
            go_wp2_with fail
            refine (awake_any _ HT.out).mono ?_
            rintro e w1 ⟨rfl, hb1⟩
            have HB1 := Lib.hid hb1
            clear hb1
            go_wp2_with fail
            refine (HS.out _).mono ?_
            rintro e w' ⟨rfl, rfl⟩
            go_wp2_with fail
            refine (HTN.out _).mono ?_
            rintro e w' ⟨rfl, rfl⟩
            go_wp2_with fail
            refine (HST.out _).mono ?_
            rintro e w' ⟨rfl, rfl⟩
            go_wp2_with fail
            refine (HS.out _).mono ?_
            rintro e w' ⟨rfl, rfl⟩
            go_wp2_with fail
            refine (HC1.out _).mono ?_
            rintro e w' ⟨rfl, rfl⟩
            go_wp2_with fail
            refine (HC2.out _).mono ?_
            rintro e w' ⟨rfl, rfl⟩
            go_wp2_with fail
            refine (HR.out _).mono ?_
            rintro e w2 ⟨rfl, hb2⟩
            have HB2 := Lib.hid (HB1.out.trans (hb2.mono HB1.out.size))
            clear hb2
            go_wp2_with fail
            go_ret
            exact ⟨rfl, HB2.out⟩
        · clear e2
          go_enter Tryd.func7, Tryd.ntmps7
          go_wp2_with fail
          refine (awake_any _ HT.out).mono ?_
          rintro e w1 ⟨rfl, hb1⟩
          have HB1 := Lib.hid hb1
          clear hb1
          go_wp2_with fail
          refine (HS.out _).mono ?_
          rintro e w' ⟨rfl, rfl⟩
          go_wp2_with fail
          refine (HTN.out _).mono ?_
          rintro e w' ⟨rfl, rfl⟩
          go_wp2_with fail
          refine (HS.out _).mono ?_
          rintro e w' ⟨rfl, rfl⟩
          go_wp2_with fail
          refine (HC1.out _).mono ?_
          rintro e w' ⟨rfl, rfl⟩
          go_wp2_with fail
          refine (HC2.out _).mono ?_
          rintro e w' ⟨rfl, rfl⟩
          go_wp2_with fail
          refine (HR.out _).mono ?_
          rintro e w2 ⟨rfl, hb2⟩
          have HB2 := Lib.hid (HB1.out.trans (hb2.mono HB1.out.size))
          clear hb2
          go_wp2_with fail
          go_ret
          exact ⟨rfl, HB2.out⟩
      · have a4 := e1 rfl rfl
        have a5 := h1 rfl
        subst a4 a5
        clear e1 e2 h1
        cases ST
        all_goals
          go_enter Tryd.func7, Tryd.ntmps7
          go_wp2_with fail
          refine (awake_any _ HT.out).mono ?_
          rintro e w1 ⟨rfl, hb1⟩
          have HB1 := Lib.hid hb1
          clear hb1
          go_wp2_with fail
          refine (HS.out _).mono ?_
          rintro e w' ⟨rfl, rfl⟩
          go_wp2_with fail
          refine (HTN.out _).mono ?_
          rintro e w' ⟨rfl, rfl⟩
          go_wp2_with fail
          refine (HST.out _).mono ?_
          rintro e w' ⟨rfl, rfl⟩
          go_wp2_with fail
          refine (HS.out _).mono ?_
          rintro e w' ⟨rfl, rfl⟩
          go_wp2_with fail
          refine (HC1.out _).mono ?_
          rintro e w' ⟨rfl, rfl⟩
          go_wp2_with fail
          refine (HC2.out _).mono ?_
          rintro e w' ⟨rfl, rfl⟩
          go_wp2_with fail
          refine (HR.out _).mono ?_
          rintro e w2 ⟨rfl, hb2⟩
          have HB2 := Lib.hid (HB1.out.trans (hb2.mono HB1.out.size))
          clear hb2
          go_wp2_with fail
          go_ret
          exact ⟨rfl, HB2.out⟩
    · cases T
      · clear e1 h1
        cases et
        · cases ST
          · clear e2
            go_enter Tryd.func7, Tryd.ntmps7
            go_wp2_with fail
            refine (awake_any _ HT.out).mono ?_
            rintro e w1 ⟨rfl, hb1⟩
            have HB1 := Lib.hid hb1
            clear hb1
            go_wp2_with fail
            refine (HS.out _).mono ?_
            rintro e w' ⟨rfl, rfl⟩
            go_wp2_with fail
            refine (HTN.out _).mono ?_
            rintro e w' ⟨rfl, rfl⟩
            go_wp2_with fail
            refine (HST.out _).mono ?_
            rintro e w' ⟨rfl, rfl⟩
            go_wp2_with fail
            refine (HS.out _).mono ?_
            rintro e w' ⟨rfl, rfl⟩
            go_wp2_with fail
            refine (HC1.out _).mono ?_
            rintro e w' ⟨rfl, rfl⟩
            go_wp2_with fail
            refine (HC2.out _).mono ?_
            rintro e w' ⟨rfl, rfl⟩
            go_wp2_with fail
            refine (HR.out _).mono ?_
            rintro e w2 ⟨rfl, hb2⟩
            have HB2 := Lib.hid (HB1.out.trans (hb2.mono HB1.out.size))
            clear hb2
            go_wp2_with fail
            refine (HO.out _).mono ?_
            rintro e w3 ⟨rfl, hb3⟩
            have HB3 := Lib.hid (HB2.out.trans (hb3.mono HB2.out.size))
            clear hb3
            go_wp2_with fail
            refine (HC4.out _).mono ?_
            rintro e w' ⟨rfl, rfl⟩
            go_wp2_with fail
            refine (HC3.out _).mono ?_
            rintro e w' ⟨rfl, rfl⟩
            go_wp2_with fail
            refine (HU.out _).mono ?_
            rintro e w4 ⟨rfl, hb4⟩
            have HB4 := Lib.hid (HB3.out.trans (hb4.mono HB3.out.size))
            clear hb4
            go_wp2_with fail
            go_ret
            exact ⟨ret_bool (by simp), HB4.out⟩
          · have := e2 rfl
            subst this
            clear e2
            go_enter Tryd.func7, Tryd.ntmps7
            go_wp2_with fail
            refine (awake_any _ HT.out).mono ?_
            rintro e w1 ⟨rfl, hb1⟩
            have HB1 := Lib.hid hb1
            clear hb1
            go_wp2_with fail
            refine (HS.out _).mono ?_
            rintro e w' ⟨rfl, rfl⟩
            go_wp2_with fail
            refine (HTN.out _).mono ?_
            rintro e w' ⟨rfl, rfl⟩
            go_wp2_with fail
            refine (HST.out _).mono ?_
            rintro e w' ⟨rfl, rfl⟩
            go_wp2_with fail
            refine (HS.out _).mono ?_
            rintro e w' ⟨rfl, rfl⟩
            go_wp2_with fail
            refine (HC1.out _).mono ?_
            rintro e w' ⟨rfl, rfl⟩
            go_wp2_with fail
            refine (HC2.out _).mono ?_
            rintro e w' ⟨rfl, rfl⟩
            go_wp2_with fail
            refine (HR.out _).mono ?_
            rintro e w2 ⟨rfl, hb2⟩
            have HB2 := Lib.hid (HB1.out.trans (hb2.mono HB1.out.size))
            clear hb2
            go_wp2_with fail
            refine (HO.out _).mono ?_
            rintro e w3 ⟨rfl, hb3⟩
            have HB3 := Lib.hid (HB2.out.trans (hb3.mono HB2.out.size))
            clear hb3
            go_wp2_with fail
            refine (HC4.out _).mono ?_
            rintro e w' ⟨rfl, rfl⟩
            go_wp2_with fail
            refine (HC3.out _).mono ?_
            rintro e w' ⟨rfl, rfl⟩
            go_wp2_with fail
            refine (HU.out _).mono ?_
            rintro e w4 ⟨rfl, hb4⟩
            have HB4 := Lib.hid (HB3.out.trans (hb4.mono HB3.out.size))
            clear hb4
            go_wp2_with fail
            go_ret
            exact ⟨ret_bool (by simp), HB4.out⟩
        · clear e2
          go_enter Tryd.func7, Tryd.ntmps7
          go_wp2_with fail
          refine (awake_any _ HT.out).mono ?_
          rintro e w1 ⟨rfl, hb1⟩
          have HB1 := Lib.hid hb1
          clear hb1
          go_wp2_with fail
          refine (HS.out _).mono ?_
          rintro e w' ⟨rfl, rfl⟩
          go_wp2_with fail
          refine (HTN.out _).mono ?_
          rintro e w' ⟨rfl, rfl⟩
          go_wp2_with fail
          refine (HS.out _).mono ?_
          rintro e w' ⟨rfl, rfl⟩
          go_wp2_with fail
          refine (HC1.out _).mono ?_
          rintro e w' ⟨rfl, rfl⟩
          go_wp2_with fail
          refine (HC2.out _).mono ?_
          rintro e w' ⟨rfl, rfl⟩
          go_wp2_with fail
          refine (HR.out _).mono ?_
          rintro e w2 ⟨rfl, hb2⟩
          have HB2 := Lib.hid (HB1.out.trans (hb2.mono HB1.out.size))
          clear hb2
          go_wp2_with fail
          refine (HO.out _).mono ?_
          rintro e w3 ⟨rfl, hb3⟩
          have HB3 := Lib.hid (HB2.out.trans (hb3.mono HB2.out.size))
          clear hb3
          go_wp2_with fail
          refine (HC4.out _).mono ?_
          rintro e w' ⟨rfl, rfl⟩
          go_wp2_with fail
          refine (HC3.out _).mono ?_
          rintro e w' ⟨rfl, rfl⟩
          go_wp2_with fail
          refine (HU.out _).mono ?_
          rintro e w4 ⟨rfl, hb4⟩
          have HB4 := Lib.hid (HB3.out.trans (hb4.mono HB3.out.size))
          clear hb4
          go_wp2_with fail
          go_ret
          exact ⟨ret_bool (by simp), HB4.out⟩
      · have a4 := e1 rfl rfl
        have a5 := h1 rfl
        subst a4 a5
        clear e1 e2 h1
        cases ST
        all_goals
          go_enter Tryd.func7, Tryd.ntmps7
          go_wp2_with fail
          refine (awake_any _ HT.out).mono ?_
          rintro e w1 ⟨rfl, hb1⟩
          have HB1 := Lib.hid hb1
          clear hb1
          go_wp2_with fail
          refine (HS.out _).mono ?_
          rintro e w' ⟨rfl, rfl⟩
          go_wp2_with fail
          refine (HTN.out _).mono ?_
          rintro e w' ⟨rfl, rfl⟩
          go_wp2_with fail
          refine (HST.out _).mono ?_
          rintro e w' ⟨rfl, rfl⟩
          go_wp2_with fail
          refine (HS.out _).mono ?_
          rintro e w' ⟨rfl, rfl⟩
          go_wp2_with fail
          refine (HC1.out _).mono ?_
          rintro e w' ⟨rfl, rfl⟩
          go_wp2_with fail
          refine (HC2.out _).mono ?_
          rintro e w' ⟨rfl, rfl⟩
          go_wp2_with fail
          refine (HR.out _).mono ?_
          rintro e w2 ⟨rfl, hb2⟩
          have HB2 := Lib.hid (HB1.out.trans (hb2.mono HB1.out.size))
          clear hb2
          go_wp2_with fail
          refine (HO.out _).mono ?_
          rintro e w3 ⟨rfl, hb3⟩
          have HB3 := Lib.hid (HB2.out.trans (hb3.mono HB2.out.size))
          clear hb3
          go_wp2_with fail
          refine (HC4.out _).mono ?_
          rintro e w' ⟨rfl, rfl⟩
          go_wp2_with fail
          refine (HC3.out _).mono ?_
          rintro e w' ⟨rfl, rfl⟩
          go_wp2_with fail
          refine (HU.out _).mono ?_
          rintro e w4 ⟨rfl, hb4⟩
          have HB4 := Lib.hid (HB3.out.trans (hb4.mono HB3.out.size))
          clear hb4
          go_wp2_with fail
          go_ret
          exact ⟨ret_bool (by simp), HB4.out⟩
theorem markJoins_walk (s t : ByteArray) (c : Int) (w : World) (hs : s.size ≤ maxLen) (hts : t.size ≤ maxLen) (ht : PowTab w) : Calls Tryd.prog 7 #[.string s, .string t, .int .i64 c] w fun e w' => e = .returned (.bool true) ∧ Below w.heap.size w w' := by
  by_cases ho : 40 < s.size ∨ 40 < t.size ∨ c < 0 ∨ (s.size : Int) < c
  · exact joins_out s t c w hs hts ht ho
  · obtain ⟨k, rfl⟩ : ∃ k : Nat, c = k := ⟨c.toNat, by omega⟩
    exact joins_in s t k w (by omega) (by omega) (by omega) ht
end Go.Proofs.YtjemmddgeejffaaDoor
