/- DayTexts and DayParses: the laws. Conditions: the tables of powers of ten and of the months. -/
import Derived.Test.YtmgijoomfailoaaDoorDyF
import Derived.Test.YtmgijoomfailoaaDoorDyR
namespace Go.Proofs.YtmgijoomfailoaaDoor
open Go.RowKit Go.Proofs.YtmgijoomfailoaaDoor.kit Go.Proofs.YtmgijoomfailoaaDoor.cal Go.PlainAid
set_option linter.unusedVariables false

set_option maxRecDepth 100000 in
set_option maxHeartbeats 1600000 in
theorem dayTexts_walk (d : Int) (hd : I64 d) (w : World) (ht : MonTab w) (hp : PowTab w) :
    Calls Tryd.prog 8 #[.int .i64 d] w fun e w' => e = .returned (.bool true) ∧ Below w.heap.size w w' := by
  have HT := Lib.hid (Lib.tabBelow_of_tabIs ht)
  have HP := Lib.hid (Lib.tabBelow_of_tabIs hp)
  cases hi : isDayB d
  · have HX := Lib.hid (fun w => text_no d hi w)
    have HI := Lib.hid (fun w => ris_any d w)
    rw [hi] at HI
    clear hi
    go_enter Tryd.func8, Tryd.ntmps8
    go_wp2_with fail
    refine (awake_any _ ht hp).mono ?_
    rintro e w1 ⟨rfl, hb1⟩
    have hB1 := hb1
    clear hb1
    go_wp2_with fail
    go_wp2_with fail
    refine (HX.out _).mono ?_
    rintro e w' ⟨rfl, rfl⟩
    go_wp2_with fail
    refine (HI.out _).mono ?_
    rintro e w' ⟨rfl, rfl⟩
    go_wp2_with fail
    go_ret
    exact ⟨ret_bool (by simp), hB1⟩
  have hdb : 0 ≤ d ∧ d ≤ 1048576 := by unfold isDayB at hi; exact of_decide_eq_true hi
  obtain ⟨D, rfl⟩ : ∃ D : Nat, d = D := ⟨d.toNat, by omega⟩
  obtain ⟨y, m, o, hM⟩ := mon_ex D
  have HX := Lib.hid (fun w ht hp => text_any D y m o hM (by omega) w ht hp)
  have HR := Lib.hid (fun w => rtext_any D y m o hM (by omega) w)
  have HI := Lib.hid (fun w => ris_any (D : Int) w)
  have HS := Lib.hid (fun w ht => parse_any (bstr (textL y m o)) w (by rw [textL_len]; decide) ht)
  rw [parse_text hM (by omega)] at HS
  rw [hi] at HI
  obtain ⟨T, hT⟩ : ∃ T, bstr (textL y m o) = T := ⟨_, rfl⟩
  rw [hT] at HX HR HS
  simp only [] at HS
  have q3 : (T.toList == T.toList) = true := by simp
  clear hi hM hT hd
  go_enter Tryd.func8, Tryd.ntmps8
  go_wp2_with fail
  refine (awake_any _ ht hp).mono ?_
  rintro e w1 ⟨rfl, hb1⟩
  have hB1 := hb1
  clear hb1
  go_wp2_with fail
  go_wp2_with fail
  refine (HX.out _ (HT.out.on hB1).here (HP.out.on hB1).here).mono ?_
  rintro e w2 ⟨rfl, hb2⟩
  have hB2 := hB1.trans (hb2.mono hB1.size)
  clear hb2 hB1
  go_wp2_with fail
  refine (HI.out _).mono ?_
  rintro e w' ⟨rfl, rfl⟩
  go_wp2_with fail
  refine (HS.out _ (HT.out.on hB2).here).mono ?_
  rintro e w' ⟨rfl, rfl⟩
  go_wp2_with fail
  refine (HR.out _).mono ?_
  rintro e w3 ⟨rfl, hb3⟩
  have hB3 := hB2.trans (hb3.mono hB2.size)
  clear hb3 hB2
  go_wp2_with fail
  go_ret
  exact ⟨ret_bool (by simp), hB3⟩
set_option maxRecDepth 100000 in
set_option maxHeartbeats 1600000 in
theorem dayParses_walk (s : ByteArray) (w : World) (hs : s.size ≤ maxLen) (ht : MonTab w) (hp : PowTab w) :
    Calls Tryd.prog 9 #[.string s] w fun e w' => e = .returned (.bool true) ∧ Below w.heap.size w w' := by
  have HT := Lib.hid (Lib.tabBelow_of_tabIs ht)
  have HP := Lib.hid (Lib.tabBelow_of_tabIs hp)
  have HS := Lib.hid (fun w ht => parse_any s w hs ht)
  have HR := Lib.hid (fun w => rparse_any s w hs)
  by_cases h1000 : 1000 < s.size
  · have d0 : decide ((1000 : Int) < (s.size : Int)) = true := decide_eq_true (by omega)
    have d0n : decide (1000 < s.size) = true := decide_eq_true h1000
    go_enter Tryd.func9, Tryd.ntmps9
    go_wp2_with fail
    refine (awake_any _ ht hp).mono ?_
    rintro e w1 ⟨rfl, hb1⟩
    have hB1 := hb1
    clear hb1
    go_wp2_with fail
    go_ret
    exact ⟨ret_bool (by simp), hB1⟩
  have d0 : decide ((1000 : Int) < (s.size : Int)) = false := decide_eq_false (by omega)
  have d0n : decide (1000 < s.size) = false := decide_eq_false h1000
  obtain ⟨⟨n, c⟩, hv⟩ : ∃ v, parseD s = v := ⟨_, rfl⟩
  rw [hv] at HS HR
  simp only [] at HS HR
  by_cases hc : c = 0
  · subst hc
    obtain ⟨D, y, m, o, hM, hD, rfl, hx⟩ := parse_back hv
    have HX := Lib.hid (fun w ht hp => text_any D y m o hM hD w ht hp)
    rw [hx] at HX
    have q3 : (s.toList == s.toList) = true := by simp
    clear hv hM hx h1000
    go_enter Tryd.func9, Tryd.ntmps9
    go_wp2_with fail
    refine (awake_any _ ht hp).mono ?_
    rintro e w1 ⟨rfl, hb1⟩
    have hB1 := hb1
    clear hb1
    go_wp2_with fail
    go_wp2_with fail
    refine (HS.out _ (HT.out.on hB1).here).mono ?_
    rintro e w' ⟨rfl, rfl⟩
    go_wp2_with fail
    refine (HR.out _).mono ?_
    rintro e w2 ⟨rfl, hb2⟩
    have hB2 := hB1.trans (hb2.mono hB1.size)
    clear hb2 hB1
    go_wp2_with fail
    refine (HX.out _ (HT.out.on hB2).here (HP.out.on hB2).here).mono ?_
    rintro e w3 ⟨rfl, hb3⟩
    have hB3 := hB2.trans (hb3.mono hB2.size)
    clear hb3 hB2
    go_wp2_with fail
    go_ret
    exact ⟨ret_bool (by simp), hB3⟩
  · have c0 : (c != 0) = true := by simpa using hc
    have c1 : (c == 0) = false := by simpa using hc
    clear hv hc h1000
    go_enter Tryd.func9, Tryd.ntmps9
    go_wp2_with fail
    refine (awake_any _ ht hp).mono ?_
    rintro e w1 ⟨rfl, hb1⟩
    have hB1 := hb1
    clear hb1
    go_wp2_with fail
    go_wp2_with fail
    refine (HS.out _ (HT.out.on hB1).here).mono ?_
    rintro e w' ⟨rfl, rfl⟩
    go_wp2_with fail
    refine (HR.out _).mono ?_
    rintro e w2 ⟨rfl, hb2⟩
    have hB2 := hB1.trans (hb2.mono hB1.size)
    clear hb2 hB1
    go_wp2_with fail
    go_ret
    exact ⟨ret_bool (by simp), hB2⟩
end Go.Proofs.YtmgijoomfailoaaDoor
