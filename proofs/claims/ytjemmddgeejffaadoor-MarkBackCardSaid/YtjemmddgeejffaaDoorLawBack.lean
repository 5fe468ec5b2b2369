/- MarkBack: the law. Condition: the table of powers of ten. -/
import Derived.Test.YtjemmddgeejffaaDoorMkF
namespace Go.Proofs.YtjemmddgeejffaaDoor
open Go.RowKit Go.Proofs.YtjemmddgeejffaaDoor.kit Go.PlainAid
set_option linter.unusedVariables false

theorem makeE_bad {o : ByteArray} {n : Int} (h : ¬ (ownB o = true ∧ 0 ≤ n ∧ n ≤ 999999)) : ∃ c, makeE o n = (⟨#[]⟩, c) ∧ c ≠ 0 := by
  unfold makeE
  by_cases h1 : ownB o = true
  · rw [if_pos h1]
    by_cases h2 : 0 ≤ n ∧ n ≤ 999999
    · exact absurd ⟨h1, h2⟩ h
    · rw [if_neg h2]; exact ⟨3, rfl, by omega⟩
  · rw [if_neg h1]; exact ⟨1, rfl, by omega⟩
theorem makeE_ok {o : ByteArray} {n : Nat} (h : ownB o = true) (hn : n ≤ 999999) : makeE o n = (makeV o n, 0) := by
  unfold makeE
  rw [if_pos h, if_pos (by omega)]; rfl
theorem right_nil : rightB ⟨#[]⟩ = false := by decide +kernel
theorem eq_str (a b : ByteArray) : (a.toList == b.toList) = decide (a = b) := by
  rw [ByteArray.toList_eq, ByteArray.toList_eq, Bool.eq_iff_iff]
  simp only [beq_iff_eq, decide_eq_true_eq]
  constructor
  · intro h; exact ByteArray.ext (Array.toList_inj.1 h)
  · rintro rfl; rfl
set_option maxRecDepth 100000 in
set_option maxHeartbeats 3200000 in
theorem markBack_walk (a b : ByteArray) (n m : Int) (w : World) (ha : a.size ≤ maxLen) (hbs : b.size ≤ maxLen) (ht : PowTab w) : Calls Tryd.prog 6 #[.string a, .string b, .int .i64 n, .int .i64 m] w fun e w' => e = .returned (.bool true) ∧ Below w.heap.size w w' := by
  have HA := Lib.hid ha
  have HBB := Lib.hid hbs
  have HT := Lib.hid ht
  have HTB := Lib.hid (Lib.tabBelow_of_tabIs ht)
  clear ht
  unfold maxLen at ha hbs
  by_cases hA : ownB a = true ∧ 0 ≤ n ∧ n ≤ 999999
  rotate_left
  · obtain ⟨c, hc, hc0⟩ := makeE_bad hA
    have HE := Lib.hid hc
    have c1 : (c != 0) = true := by simpa using hc0
    have c2 : (c == 0) = false := by simpa using hc0
    obtain ⟨f, hf⟩ : ∃ f, makeE b m = f := ⟨_, rfl⟩
    obtain ⟨fs, fc⟩ := f
    have HF := Lib.hid hf
    have HR := Lib.hid (fun w => right_any ⟨#[]⟩ w (by decide))
    rw [right_nil] at HR
    clear hA hc hf
    go_enter Tryd.func6, Tryd.ntmps6
    go_wp2_with fail
    refine (awake_any _ HT.out).mono ?_
    rintro e w1 ⟨rfl, hb1⟩
    have HB1 := Lib.hid hb1
    clear hb1
    go_wp2_with fail
    refine (make_any a _ _ HA.out (HTB.out.on HB1.out).here).mono ?_
    rw [HE.out]
    rintro e w2 ⟨rfl, hb2⟩
    have HB2 := Lib.hid (HB1.out.trans (hb2.mono HB1.out.size))
    clear hb2
    go_wp2_with fail
    refine (make_any b _ _ HBB.out (HTB.out.on HB2.out).here).mono ?_
    rw [HF.out]
    rintro e w3 ⟨rfl, hb3⟩
    have HB3 := Lib.hid (HB2.out.trans (hb3.mono HB2.out.size))
    clear hb3
    go_wp2_with fail
    refine (HR.out _).mono ?_
    rintro e w4 ⟨rfl, hb4⟩
    have HB4 := Lib.hid (HB3.out.trans (hb4.mono HB3.out.size))
    clear hb4
    go_wp2_with fail
    go_ret
    exact ⟨rfl, HB4.out⟩
  obtain ⟨n', rfl⟩ : ∃ k : Nat, n = k := ⟨n.toNat, by omega⟩
  have hnn : n' ≤ 999999 := by omega
  have hea := makeE_ok hA.1 hnn
  have HE := Lib.hid hea
  by_cases hB : ownB b = true ∧ 0 ≤ m ∧ m ≤ 999999
  rotate_left
  · obtain ⟨c, hc, hc0⟩ := makeE_bad hB
    have HF := Lib.hid hc
    have c1 : (c != 0) = true := by simpa using hc0
    clear hA hc hB hea
    go_enter Tryd.func6, Tryd.ntmps6
    go_wp2_with fail
    refine (awake_any _ HT.out).mono ?_
    rintro e w1 ⟨rfl, hb1⟩
    have HB1 := Lib.hid hb1
    clear hb1
    go_wp2_with fail
    refine (make_any a _ _ HA.out (HTB.out.on HB1.out).here).mono ?_
    rw [HE.out]
    rintro e w2 ⟨rfl, hb2⟩
    have HB2 := Lib.hid (HB1.out.trans (hb2.mono HB1.out.size))
    clear hb2
    go_wp2_with fail
    refine (make_any b _ _ HBB.out (HTB.out.on HB2.out).here).mono ?_
    rw [HF.out]
    rintro e w3 ⟨rfl, hb3⟩
    have HB3 := Lib.hid (HB2.out.trans (hb3.mono HB2.out.size))
    clear hb3
    go_wp2_with fail
    go_ret
    exact ⟨rfl, HB3.out⟩
  obtain ⟨m', rfl⟩ : ∃ k : Nat, m = k := ⟨m.toNat, by omega⟩
  have hmm : m' ≤ 999999 := by omega
  have heb := makeE_ok hB.1 hmm
  have HF := Lib.hid heb
  have hz := mk_size hA.1 hnn
  have hzm : (makeV a n').size ≤ maxLen := by unfold maxLen; omega
  have HR := Lib.hid (fun w => right_any (makeV a n') w hzm)
  have HN := Lib.hid (fun w => name_any (makeV a n') w hzm)
  have HO := Lib.hid (fun w => owner_any (makeV a n') w hzm)
  have HU := Lib.hid (fun w => number_any (makeV a n') w hzm)
  rw [mk_right hA.1 hnn] at HR
  rw [mk_name hA.1 hnn] at HN
  rw [mk_right hA.1 hnn, if_pos rfl, mk_owner hA.1 hnn] at HO
  rw [mk_right hA.1 hnn, if_pos rfl, mk_num hA.1 hnn] at HU
  have q1 : ((makeV a n').toList == (makeV b m').toList) = decide (makeV a n' = makeV b m') := eq_str _ _
  have q2 : (a.toList == b.toList) = decide (a = b) := eq_str _ _
  have q3 : decide (makeV a n' = makeV b m') = (decide (a = b) && decide (n' = m')) := by
    rw [Bool.eq_iff_iff]
    simp only [Bool.and_eq_true, decide_eq_true_eq]
    constructor
    · intro h; exact mk_inj hA.1 hnn hB.1 hmm h
    · rintro ⟨rfl, rfl⟩; rfl
  have q4 : ((n' : Int) == (m' : Int)) = decide (n' = m') := by rw [Bool.eq_iff_iff]; simp; omega
  have q5 : (n' == m') = decide (n' = m') := by rw [Bool.eq_iff_iff]; simp
  rw [q3] at q1
  obtain ⟨X, hX⟩ : ∃ X, decide (a = b) = X := ⟨_, rfl⟩
  obtain ⟨Y, hY⟩ : ∃ Y, decide (n' = m') = Y := ⟨_, rfl⟩
  rw [hX, hY] at q1
  rw [hX] at q2
  rw [hY] at q4 q5
  clear hA hea heb hB q3 hX hY
  generalize makeV a n' = M at *
  go_enter Tryd.func6, Tryd.ntmps6
  go_wp2_with fail
  refine (awake_any _ HT.out).mono ?_
  rintro e w1 ⟨rfl, hb1⟩
  have HB1 := Lib.hid hb1
  clear hb1
  go_wp2_with fail
  refine (make_any a _ _ HA.out (HTB.out.on HB1.out).here).mono ?_
  rw [HE.out]
  rintro e w2 ⟨rfl, hb2⟩
  have HB2 := Lib.hid (HB1.out.trans (hb2.mono HB1.out.size))
  clear hb2
  go_wp2_with fail
  refine (make_any b _ _ HBB.out (HTB.out.on HB2.out).here).mono ?_
  rw [HF.out]
  rintro e w3 ⟨rfl, hb3⟩
  have HB3 := Lib.hid (HB2.out.trans (hb3.mono HB2.out.size))
  clear hb3
  go_wp2_with fail
  refine (HR.out _).mono ?_
  rintro e w4 ⟨rfl, hb4⟩
  have HB4 := Lib.hid (HB3.out.trans (hb4.mono HB3.out.size))
  clear hb4
  go_wp2_with fail
  refine (HN.out _).mono ?_
  rintro e w' ⟨rfl, rfl⟩
  go_wp2_with fail
  refine (HO.out _).mono ?_
  rintro e w5 ⟨rfl, hb5⟩
  have HB5 := Lib.hid (HB4.out.trans (hb5.mono HB4.out.size))
  clear hb5
  go_wp2_with fail
  refine (HU.out _).mono ?_
  rintro e w6 ⟨rfl, hb6⟩
  have HB6 := Lib.hid (HB5.out.trans (hb6.mono HB5.out.size))
  clear hb6
  cases X <;> cases Y
  all_goals
    go_wp2_with fail
    go_ret
    exact ⟨ret_bool (by simp), HB6.out⟩
end Go.Proofs.YtjemmddgeejffaaDoor
