/- DayWalks: the law. Conditions: the tables of powers of ten and of the months. -/
import Derived.Test.YtmgijoomfailoaaDoorDyF
import Derived.Test.YtmgijoomfailoaaDoorDyS
namespace Go.Proofs.YtmgijoomfailoaaDoor
open Go.RowKit Go.Proofs.YtmgijoomfailoaaDoor.kit Go.Proofs.YtmgijoomfailoaaDoor.cal
set_option linter.unusedVariables false

set_option maxRecDepth 100000 in
set_option maxHeartbeats 1600000 in
theorem dayWalks_walk (c : Cal) (A1 : Option Addr) (n1 c1 : Nat) (A2 : Option Addr) (n2 c2 : Nat) (d n : Int) (hn : I64 n) (w : World) (h1 : SliceOf w 1 intC A1 n1 c.rest) (h2 : SliceOf w 1 intC A2 n2 c.hol) (m1 : n1 ≤ maxLen) (m2 : n2 ≤ maxLen) (ht : MonTab w) (hp : PowTab w) :
    Calls Tryd.prog 4 #[.agg #[.slice A1 n1 c1, .slice A2 n2 c2], .int .i64 d, .int .i64 n] w fun e w' => e = .returned (.bool true) ∧ Below w.heap.size w w' := by
  have HT := Lib.hid (Lib.tabBelow_of_tabIs ht)
  have HP := Lib.hid (Lib.tabBelow_of_tabIs hp)
  have HA := Lib.hid (fun w h1 h2 => awake_any w h1 h2)
  have HV := Lib.hid (fun w => heavy_any c A1 n1 c1 A2 n2 c2 w m1 m2)
  have HI := Lib.hid (fun w => ris_any d w)
  have HN := Lib.hid (fun (w : World) (h1 : SliceOf w 1 intC A1 n1 c.rest) (h2 : SliceOf w 1 intC A2 n2 c.hol) (m1 : n1 ≤ maxLen) (m2 : n2 ≤ maxLen) => next_any c A1 n1 c1 A2 n2 c2 d w h1 h2 m1 m2)
  have HL := Lib.hid (fun (w : World) (h1 : SliceOf w 1 intC A1 n1 c.rest) (h2 : SliceOf w 1 intC A2 n2 c.hol) (m1 : n1 ≤ maxLen) (m2 : n2 ≤ maxLen) => last_any c A1 n1 c1 A2 n2 c2 d w h1 h2 m1 m2)
  have HD := Lib.hid (fun (w : World) (h1 : SliceOf w 1 intC A1 n1 c.rest) (h2 : SliceOf w 1 intC A2 n2 c.hol) (m1 : n1 ≤ maxLen) (m2 : n2 ≤ maxLen) => add_any c A1 n1 c1 A2 n2 c2 d n w h1 h2 m1 m2)
  have H1 := Lib.hid h1
  have H2 := Lib.hid h2
  have l1 := h1.len
  have l2 := h2.len
  clear h1 h2
  have hB0 : Below w.heap.size w (w.alloc (.cells #[.slice A1 n1 c1, .slice A2 n2 c2] 31)) := (Below.refl _ _).alloc (Nat.le_refl _) _
  have hk0 : Blk (w.alloc (.cells #[.slice A1 n1 c1, .slice A2 n2 c2] 31)) w.heap.size 31 #[.slice A1 n1 c1, .slice A2 n2 c2] := Blk.new _ _ _
  have a0 := hk0.cell 0; have a1 := hk0.cell 1
  simp only [List.getElem?_toArray, List.getElem?_cons_zero, List.getElem?_cons_succ] at a0 a1
  clear ht hp
  unfold I64 at hn
  obtain ⟨hv, ehv⟩ : ∃ b, (decide (20 < n1) || decide (60 < n2)) = b := ⟨_, rfl⟩
  rw [ehv] at HV
  clear ehv
  cases hv
  rotate_left
  · clear HN HL HD HI hn
    go_enter Tryd.func4, Tryd.ntmps4
    go_wp2_with fail
    refine (HA.out _ (HT.out.on hB0).here (HP.out.on hB0).here).mono ?_
    rintro e w1 ⟨rfl, hb1⟩
    clear a0 a1
    have hB1 := hB0.trans (hb1.mono hB0.size)
    have hk1 := hk0.below hb1 hk0.lt
    clear hB0 hk0 hb1
    have a0 := hk1.cell 0; have a1 := hk1.cell 1; simp only [List.getElem?_toArray, List.getElem?_cons_zero, List.getElem?_cons_succ] at a0 a1
    go_wp2_with fail
    refine (HV.out _).mono ?_
    rintro e w2 ⟨rfl, hb2⟩
    clear a0 a1
    have hB2 := hB1.trans (hb2.mono hB1.size)
    have hk2 := hk1.below hb2 hk1.lt
    clear hB1 hk1 hb2
    have a0 := hk2.cell 0; have a1 := hk2.cell 1; simp only [List.getElem?_toArray, List.getElem?_cons_zero, List.getElem?_cons_succ] at a0 a1
    go_wp2_with fail
    go_ret
    exact ⟨rfl, hB2⟩
  have s0 : decide (n ≤ 1048576) = decide (n ≤ 1048576) := rfl
  by_cases k1 : 300 < n
  · have t1 : decide (300 < n) = true := decide_eq_true k1
    by_cases k2 : n ≤ 1048576
    · have t2 : decide (n ≤ 1048576) = true := decide_eq_true k2
      clear HN HL HD HI hn k1 k2 s0
      go_enter Tryd.func4, Tryd.ntmps4
      go_wp2_with fail
      refine (HA.out _ (HT.out.on hB0).here (HP.out.on hB0).here).mono ?_
      rintro e w1 ⟨rfl, hb1⟩
      clear a0 a1
      have hB1 := hB0.trans (hb1.mono hB0.size)
      have hk1 := hk0.below hb1 hk0.lt
      clear hB0 hk0 hb1
      have a0 := hk1.cell 0; have a1 := hk1.cell 1; simp only [List.getElem?_toArray, List.getElem?_cons_zero, List.getElem?_cons_succ] at a0 a1
      go_wp2_with fail
      refine (HV.out _).mono ?_
      rintro e w2 ⟨rfl, hb2⟩
      clear a0 a1
      have hB2 := hB1.trans (hb2.mono hB1.size)
      have hk2 := hk1.below hb2 hk1.lt
      clear hB1 hk1 hb2
      have a0 := hk2.cell 0; have a1 := hk2.cell 1; simp only [List.getElem?_toArray, List.getElem?_cons_zero, List.getElem?_cons_succ] at a0 a1
      go_wp2_with fail
      go_ret
      exact ⟨rfl, hB2⟩
    have t2 : decide (n ≤ 1048576) = false := decide_eq_false k2
    have t3 : decide (n < -300) = false := decide_eq_false (by omega)
    have t4 : decide (0 < n) = true := decide_eq_true (by omega)
    have t5 : decide (n < 0) = false := decide_eq_false (by omega)
    have t6 : decide (n < -1048576) = false := decide_eq_false (by omega)
    have t7 : decide (1048576 < n) = true := decide_eq_true (by omega)
    have eD : addW c d n = (0, false) := by unfold addW; rw [if_neg (by omega)]
    rw [eD] at HD
    cases hd : isDayB d
    · have eN : nextV c d = (0, false) := by unfold nextV; rw [hd]; rfl
      have eL : lastV c d = (0, false) := by unfold lastV; rw [hd]; rfl
      rw [eN] at HN
      rw [eL] at HL
      rw [hd] at HI
      clear eN eL hd
      go_enter Tryd.func4, Tryd.ntmps4
      go_wp2_with fail
      refine (HA.out _ (HT.out.on hB0).here (HP.out.on hB0).here).mono ?_
      rintro e w1 ⟨rfl, hb1⟩
      clear a0 a1
      have hB1 := hB0.trans (hb1.mono hB0.size)
      have hk1 := hk0.below hb1 hk0.lt
      clear hB0 hk0 hb1
      have a0 := hk1.cell 0; have a1 := hk1.cell 1; simp only [List.getElem?_toArray, List.getElem?_cons_zero, List.getElem?_cons_succ] at a0 a1
      go_wp2_with fail
      refine (HV.out _).mono ?_
      rintro e w2 ⟨rfl, hb2⟩
      clear a0 a1
      have hB2 := hB1.trans (hb2.mono hB1.size)
      have hk2 := hk1.below hb2 hk1.lt
      clear hB1 hk1 hb2
      have a0 := hk2.cell 0; have a1 := hk2.cell 1; simp only [List.getElem?_toArray, List.getElem?_cons_zero, List.getElem?_cons_succ] at a0 a1
      go_wp2_with fail
      refine (HN.out _ (H1.out.below hB2) (H2.out.below hB2) m1 m2).mono ?_
      rintro e w3 ⟨rfl, hb3⟩
      clear a0 a1
      have hB3 := hB2.trans (hb3.mono hB2.size)
      have hk3 := hk2.below hb3 hk2.lt
      clear hB2 hk2 hb3
      have a0 := hk3.cell 0; have a1 := hk3.cell 1; simp only [List.getElem?_toArray, List.getElem?_cons_zero, List.getElem?_cons_succ] at a0 a1
      go_wp2_with fail
      refine (HL.out _ (H1.out.below hB3) (H2.out.below hB3) m1 m2).mono ?_
      rintro e w4 ⟨rfl, hb4⟩
      clear a0 a1
      have hB4 := hB3.trans (hb4.mono hB3.size)
      have hk4 := hk3.below hb4 hk3.lt
      clear hB3 hk3 hb4
      have a0 := hk4.cell 0; have a1 := hk4.cell 1; simp only [List.getElem?_toArray, List.getElem?_cons_zero, List.getElem?_cons_succ] at a0 a1
      go_wp2_with fail
      refine (HD.out _ (H1.out.below hB4) (H2.out.below hB4) m1 m2).mono ?_
      rintro e w5 ⟨rfl, hb5⟩
      clear a0 a1
      have hB5 := hB4.trans (hb5.mono hB4.size)
      have hk5 := hk4.below hb5 hk4.lt
      clear hB4 hk4 hb5
      have a0 := hk5.cell 0; have a1 := hk5.cell 1; simp only [List.getElem?_toArray, List.getElem?_cons_zero, List.getElem?_cons_succ] at a0 a1
      go_wp2_with fail
      refine (HI.out _).mono ?_
      rintro e w' ⟨rfl, rfl⟩
      go_wp2_with fail
      go_ret
      exact ⟨ret_bool (by simp), hB5⟩
    · obtain ⟨d0, d1⟩ : 0 ≤ d ∧ d ≤ 1048576 := by simpa [isDayB] using hd
      have HU := Lib.hid (fun (w : World) (h1 : SliceOf w 1 intC A1 n1 c.rest) (h2 : SliceOf w 1 intC A2 n2 c.hol) (m1 : n1 ≤ maxLen) (m2 : n2 ≤ maxLen) => rwalk_up c A1 n1 c1 A2 n2 c2 d 1 ⟨by omega, by omega⟩ ⟨by omega, by omega⟩ w h1 h2 m1 m2)
      have HB := Lib.hid (fun (w : World) (h1 : SliceOf w 1 intC A1 n1 c.rest) (h2 : SliceOf w 1 intC A2 n2 c.hol) (m1 : n1 ≤ maxLen) (m2 : n2 ≤ maxLen) => rwalk_dn c A1 n1 c1 A2 n2 c2 d 1 ⟨by omega, by omega⟩ ⟨by omega, by omega⟩ w h1 h2 m1 m2)
      rw [show nextV c d = upF c (1048577 - d).toNat 1 by unfold nextV; rw [hd]; rfl] at HN
      rw [show lastV c d = dnF c (d + 1).toNat 1 by unfold lastV; rw [hd]; rfl] at HL
      rw [hd] at HI
      obtain ⟨⟨ua, ub⟩, eup⟩ : ∃ v, upF c (1048577 - d).toNat 1 = v := ⟨_, rfl⟩
      obtain ⟨⟨la, lb⟩, edn⟩ : ∃ v, dnF c (d + 1).toNat 1 = v := ⟨_, rfl⟩
      rw [eup] at HN HU
      rw [edn] at HL HB
      simp only [] at HN HL HU HB
      replace eup := Lib.hid eup
      replace edn := Lib.hid edn
      have HY := Lib.hid (fun (w : World) (h1 : SliceOf w 1 intC A1 n1 c.rest) (h2 : SliceOf w 1 intC A2 n2 c.hol) (m1 : n1 ≤ maxLen) (m2 : n2 ≤ maxLen) => rwalk_on_some c A1 n1 c1 A2 n2 c2 d n ⟨d0, d1⟩ w h1 h2 m1 m2)
      clear eD k1 k2 s0 hd
      go_enter Tryd.func4, Tryd.ntmps4
      go_wp2_with fail
      refine (HA.out _ (HT.out.on hB0).here (HP.out.on hB0).here).mono ?_
      rintro e w1 ⟨rfl, hb1⟩
      clear a0 a1
      have hB1 := hB0.trans (hb1.mono hB0.size)
      have hk1 := hk0.below hb1 hk0.lt
      clear hB0 hk0 hb1
      have a0 := hk1.cell 0; have a1 := hk1.cell 1; simp only [List.getElem?_toArray, List.getElem?_cons_zero, List.getElem?_cons_succ] at a0 a1
      go_wp2_with fail
      refine (HV.out _).mono ?_
      rintro e w2 ⟨rfl, hb2⟩
      clear a0 a1
      have hB2 := hB1.trans (hb2.mono hB1.size)
      have hk2 := hk1.below hb2 hk1.lt
      clear hB1 hk1 hb2
      have a0 := hk2.cell 0; have a1 := hk2.cell 1; simp only [List.getElem?_toArray, List.getElem?_cons_zero, List.getElem?_cons_succ] at a0 a1
      go_wp2_with fail
      refine (HN.out _ (H1.out.below hB2) (H2.out.below hB2) m1 m2).mono ?_
      rintro e w3 ⟨rfl, hb3⟩
      clear a0 a1
      have hB3 := hB2.trans (hb3.mono hB2.size)
      have hk3 := hk2.below hb3 hk2.lt
      clear hB2 hk2 hb3
      have a0 := hk3.cell 0; have a1 := hk3.cell 1; simp only [List.getElem?_toArray, List.getElem?_cons_zero, List.getElem?_cons_succ] at a0 a1
      go_wp2_with fail
      refine (HL.out _ (H1.out.below hB3) (H2.out.below hB3) m1 m2).mono ?_
      rintro e w4 ⟨rfl, hb4⟩
      clear a0 a1
      have hB4 := hB3.trans (hb4.mono hB3.size)
      have hk4 := hk3.below hb4 hk3.lt
      clear hB3 hk3 hb4
      have a0 := hk4.cell 0; have a1 := hk4.cell 1; simp only [List.getElem?_toArray, List.getElem?_cons_zero, List.getElem?_cons_succ] at a0 a1
      go_wp2_with fail
      refine (HD.out _ (H1.out.below hB4) (H2.out.below hB4) m1 m2).mono ?_
      rintro e w5 ⟨rfl, hb5⟩
      clear a0 a1
      have hB5 := hB4.trans (hb5.mono hB4.size)
      have hk5 := hk4.below hb5 hk4.lt
      clear hB4 hk4 hb5
      have a0 := hk5.cell 0; have a1 := hk5.cell 1; simp only [List.getElem?_toArray, List.getElem?_cons_zero, List.getElem?_cons_succ] at a0 a1
      go_wp2_with fail
      refine (HI.out _).mono ?_
      rintro e w' ⟨rfl, rfl⟩
      go_wp2_with fail
      refine (HU.out _ (H1.out.below hB5) (H2.out.below hB5) m1 m2).mono ?_
      rintro e w6 ⟨rfl, hb6⟩
      clear a0 a1
      have hB6 := hB5.trans (hb6.mono hB5.size)
      have hk6 := hk5.below hb6 hk5.lt
      clear hB5 hk5 hb6
      have a0 := hk6.cell 0; have a1 := hk6.cell 1; simp only [List.getElem?_toArray, List.getElem?_cons_zero, List.getElem?_cons_succ] at a0 a1
      go_wp2_with fail
      refine (HB.out _ (H1.out.below hB6) (H2.out.below hB6) m1 m2).mono ?_
      rintro e w7 ⟨rfl, hb7⟩
      clear a0 a1
      have hB7 := hB6.trans (hb7.mono hB6.size)
      have hk7 := hk6.below hb7 hk6.lt
      clear hB6 hk6 hb7
      have a0 := hk7.cell 0; have a1 := hk7.cell 1; simp only [List.getElem?_toArray, List.getElem?_cons_zero, List.getElem?_cons_succ] at a0 a1
      go_wp2_with fail
      refine (HY.out _ (H1.out.below hB7) (H2.out.below hB7) m1 m2).mono ?_
      rintro e w8 ⟨⟨xa, xb, rfl⟩, hb8⟩
      clear a0 a1
      have hB8 := hB7.trans (hb8.mono hB7.size)
      have hk8 := hk7.below hb8 hk7.lt
      clear hB7 hk7 hb8
      have a0 := hk8.cell 0; have a1 := hk8.cell 1; simp only [List.getElem?_toArray, List.getElem?_cons_zero, List.getElem?_cons_succ] at a0 a1
      go_wp2_with fail
      go_ret
      exact ⟨ret_bool (by simp), hB8⟩
  have t1 : decide (300 < n) = false := decide_eq_false k1
  by_cases k3 : n < -300
  · have t3 : decide (n < -300) = true := decide_eq_true k3
    by_cases k2 : -1048576 ≤ n
    · have t2 : decide (-1048576 ≤ n) = true := decide_eq_true k2
      clear HN HL HD HI hn k1 k2 k3 s0
      go_enter Tryd.func4, Tryd.ntmps4
      go_wp2_with fail
      refine (HA.out _ (HT.out.on hB0).here (HP.out.on hB0).here).mono ?_
      rintro e w1 ⟨rfl, hb1⟩
      clear a0 a1
      have hB1 := hB0.trans (hb1.mono hB0.size)
      have hk1 := hk0.below hb1 hk0.lt
      clear hB0 hk0 hb1
      have a0 := hk1.cell 0; have a1 := hk1.cell 1; simp only [List.getElem?_toArray, List.getElem?_cons_zero, List.getElem?_cons_succ] at a0 a1
      go_wp2_with fail
      refine (HV.out _).mono ?_
      rintro e w2 ⟨rfl, hb2⟩
      clear a0 a1
      have hB2 := hB1.trans (hb2.mono hB1.size)
      have hk2 := hk1.below hb2 hk1.lt
      clear hB1 hk1 hb2
      have a0 := hk2.cell 0; have a1 := hk2.cell 1; simp only [List.getElem?_toArray, List.getElem?_cons_zero, List.getElem?_cons_succ] at a0 a1
      go_wp2_with fail
      go_ret
      exact ⟨rfl, hB2⟩
    have t2 : decide (-1048576 ≤ n) = false := decide_eq_false k2
    have t4 : decide (0 < n) = false := decide_eq_false (by omega)
    have t5 : decide (n < 0) = true := decide_eq_true (by omega)
    have t6 : decide (n < -1048576) = true := decide_eq_true (by omega)
    have eD : addW c d n = (0, false) := by unfold addW; rw [if_neg (by omega)]
    rw [eD] at HD
    cases hd : isDayB d
    · have eN : nextV c d = (0, false) := by unfold nextV; rw [hd]; rfl
      have eL : lastV c d = (0, false) := by unfold lastV; rw [hd]; rfl
      rw [eN] at HN
      rw [eL] at HL
      rw [hd] at HI
      clear eN eL hd
      go_enter Tryd.func4, Tryd.ntmps4
      go_wp2_with fail
      refine (HA.out _ (HT.out.on hB0).here (HP.out.on hB0).here).mono ?_
      rintro e w1 ⟨rfl, hb1⟩
      clear a0 a1
      have hB1 := hB0.trans (hb1.mono hB0.size)
      have hk1 := hk0.below hb1 hk0.lt
      clear hB0 hk0 hb1
      have a0 := hk1.cell 0; have a1 := hk1.cell 1; simp only [List.getElem?_toArray, List.getElem?_cons_zero, List.getElem?_cons_succ] at a0 a1
      go_wp2_with fail
      refine (HV.out _).mono ?_
      rintro e w2 ⟨rfl, hb2⟩
      clear a0 a1
      have hB2 := hB1.trans (hb2.mono hB1.size)
      have hk2 := hk1.below hb2 hk1.lt
      clear hB1 hk1 hb2
      have a0 := hk2.cell 0; have a1 := hk2.cell 1; simp only [List.getElem?_toArray, List.getElem?_cons_zero, List.getElem?_cons_succ] at a0 a1
      go_wp2_with fail
      refine (HN.out _ (H1.out.below hB2) (H2.out.below hB2) m1 m2).mono ?_
      rintro e w3 ⟨rfl, hb3⟩
      clear a0 a1
      have hB3 := hB2.trans (hb3.mono hB2.size)
      have hk3 := hk2.below hb3 hk2.lt
      clear hB2 hk2 hb3
      have a0 := hk3.cell 0; have a1 := hk3.cell 1; simp only [List.getElem?_toArray, List.getElem?_cons_zero, List.getElem?_cons_succ] at a0 a1
      go_wp2_with fail
      refine (HL.out _ (H1.out.below hB3) (H2.out.below hB3) m1 m2).mono ?_
      rintro e w4 ⟨rfl, hb4⟩
      clear a0 a1
      have hB4 := hB3.trans (hb4.mono hB3.size)
      have hk4 := hk3.below hb4 hk3.lt
      clear hB3 hk3 hb4
      have a0 := hk4.cell 0; have a1 := hk4.cell 1; simp only [List.getElem?_toArray, List.getElem?_cons_zero, List.getElem?_cons_succ] at a0 a1
      go_wp2_with fail
      refine (HD.out _ (H1.out.below hB4) (H2.out.below hB4) m1 m2).mono ?_
      rintro e w5 ⟨rfl, hb5⟩
      clear a0 a1
      have hB5 := hB4.trans (hb5.mono hB4.size)
      have hk5 := hk4.below hb5 hk4.lt
      clear hB4 hk4 hb5
      have a0 := hk5.cell 0; have a1 := hk5.cell 1; simp only [List.getElem?_toArray, List.getElem?_cons_zero, List.getElem?_cons_succ] at a0 a1
      go_wp2_with fail
      refine (HI.out _).mono ?_
      rintro e w' ⟨rfl, rfl⟩
      go_wp2_with fail
      go_ret
      exact ⟨ret_bool (by simp), hB5⟩
    · obtain ⟨d0, d1⟩ : 0 ≤ d ∧ d ≤ 1048576 := by simpa [isDayB] using hd
      have HU := Lib.hid (fun (w : World) (h1 : SliceOf w 1 intC A1 n1 c.rest) (h2 : SliceOf w 1 intC A2 n2 c.hol) (m1 : n1 ≤ maxLen) (m2 : n2 ≤ maxLen) => rwalk_up c A1 n1 c1 A2 n2 c2 d 1 ⟨by omega, by omega⟩ ⟨by omega, by omega⟩ w h1 h2 m1 m2)
      have HB := Lib.hid (fun (w : World) (h1 : SliceOf w 1 intC A1 n1 c.rest) (h2 : SliceOf w 1 intC A2 n2 c.hol) (m1 : n1 ≤ maxLen) (m2 : n2 ≤ maxLen) => rwalk_dn c A1 n1 c1 A2 n2 c2 d 1 ⟨by omega, by omega⟩ ⟨by omega, by omega⟩ w h1 h2 m1 m2)
      rw [show nextV c d = upF c (1048577 - d).toNat 1 by unfold nextV; rw [hd]; rfl] at HN
      rw [show lastV c d = dnF c (d + 1).toNat 1 by unfold lastV; rw [hd]; rfl] at HL
      rw [hd] at HI
      obtain ⟨⟨ua, ub⟩, eup⟩ : ∃ v, upF c (1048577 - d).toNat 1 = v := ⟨_, rfl⟩
      obtain ⟨⟨la, lb⟩, edn⟩ : ∃ v, dnF c (d + 1).toNat 1 = v := ⟨_, rfl⟩
      rw [eup] at HN HU
      rw [edn] at HL HB
      simp only [] at HN HL HU HB
      replace eup := Lib.hid eup
      replace edn := Lib.hid edn
      have HY := Lib.hid (fun n (w : World) (h1 : SliceOf w 1 intC A1 n1 c.rest) (h2 : SliceOf w 1 intC A2 n2 c.hol) (m1 : n1 ≤ maxLen) (m2 : n2 ≤ maxLen) => rwalk_back_some c A1 n1 c1 A2 n2 c2 d n ⟨d0, d1⟩ w h1 h2 m1 m2)
      clear eD k1 k2 s0 hd hn k3
      go_enter Tryd.func4, Tryd.ntmps4
      go_wp2_with fail
      refine (HA.out _ (HT.out.on hB0).here (HP.out.on hB0).here).mono ?_
      rintro e w1 ⟨rfl, hb1⟩
      clear a0 a1
      have hB1 := hB0.trans (hb1.mono hB0.size)
      have hk1 := hk0.below hb1 hk0.lt
      clear hB0 hk0 hb1
      have a0 := hk1.cell 0; have a1 := hk1.cell 1; simp only [List.getElem?_toArray, List.getElem?_cons_zero, List.getElem?_cons_succ] at a0 a1
      go_wp2_with fail
      refine (HV.out _).mono ?_
      rintro e w2 ⟨rfl, hb2⟩
      clear a0 a1
      have hB2 := hB1.trans (hb2.mono hB1.size)
      have hk2 := hk1.below hb2 hk1.lt
      clear hB1 hk1 hb2
      have a0 := hk2.cell 0; have a1 := hk2.cell 1; simp only [List.getElem?_toArray, List.getElem?_cons_zero, List.getElem?_cons_succ] at a0 a1
      go_wp2_with fail
      refine (HN.out _ (H1.out.below hB2) (H2.out.below hB2) m1 m2).mono ?_
      rintro e w3 ⟨rfl, hb3⟩
      clear a0 a1
      have hB3 := hB2.trans (hb3.mono hB2.size)
      have hk3 := hk2.below hb3 hk2.lt
      clear hB2 hk2 hb3
      have a0 := hk3.cell 0; have a1 := hk3.cell 1; simp only [List.getElem?_toArray, List.getElem?_cons_zero, List.getElem?_cons_succ] at a0 a1
      go_wp2_with fail
      refine (HL.out _ (H1.out.below hB3) (H2.out.below hB3) m1 m2).mono ?_
      rintro e w4 ⟨rfl, hb4⟩
      clear a0 a1
      have hB4 := hB3.trans (hb4.mono hB3.size)
      have hk4 := hk3.below hb4 hk3.lt
      clear hB3 hk3 hb4
      have a0 := hk4.cell 0; have a1 := hk4.cell 1; simp only [List.getElem?_toArray, List.getElem?_cons_zero, List.getElem?_cons_succ] at a0 a1
      go_wp2_with fail
      refine (HD.out _ (H1.out.below hB4) (H2.out.below hB4) m1 m2).mono ?_
      rintro e w5 ⟨rfl, hb5⟩
      clear a0 a1
      have hB5 := hB4.trans (hb5.mono hB4.size)
      have hk5 := hk4.below hb5 hk4.lt
      clear hB4 hk4 hb5
      have a0 := hk5.cell 0; have a1 := hk5.cell 1; simp only [List.getElem?_toArray, List.getElem?_cons_zero, List.getElem?_cons_succ] at a0 a1
      go_wp2_with fail
      refine (HI.out _).mono ?_
      rintro e w' ⟨rfl, rfl⟩
      go_wp2_with fail
      refine (HU.out _ (H1.out.below hB5) (H2.out.below hB5) m1 m2).mono ?_
      rintro e w6 ⟨rfl, hb6⟩
      clear a0 a1
      have hB6 := hB5.trans (hb6.mono hB5.size)
      have hk6 := hk5.below hb6 hk5.lt
      clear hB5 hk5 hb6
      have a0 := hk6.cell 0; have a1 := hk6.cell 1; simp only [List.getElem?_toArray, List.getElem?_cons_zero, List.getElem?_cons_succ] at a0 a1
      go_wp2_with fail
      refine (HB.out _ (H1.out.below hB6) (H2.out.below hB6) m1 m2).mono ?_
      rintro e w7 ⟨rfl, hb7⟩
      clear a0 a1
      have hB7 := hB6.trans (hb7.mono hB6.size)
      have hk7 := hk6.below hb7 hk6.lt
      clear hB6 hk6 hb7
      have a0 := hk7.cell 0; have a1 := hk7.cell 1; simp only [List.getElem?_toArray, List.getElem?_cons_zero, List.getElem?_cons_succ] at a0 a1
      go_wp2_with fail
      refine (HY.out _ _ (H1.out.below hB7) (H2.out.below hB7) m1 m2).mono ?_
      rintro e w8 ⟨⟨xa, xb, rfl⟩, hb8⟩
      clear a0 a1
      have hB8 := hB7.trans (hb8.mono hB7.size)
      have hk8 := hk7.below hb8 hk7.lt
      clear hB7 hk7 hb8
      have a0 := hk8.cell 0; have a1 := hk8.cell 1; simp only [List.getElem?_toArray, List.getElem?_cons_zero, List.getElem?_cons_succ] at a0 a1
      go_wp2_with fail
      go_ret
      exact ⟨ret_bool (by simp), hB8⟩
  have t3 : decide (n < -300) = false := decide_eq_false k3
  cases hd : isDayB d
  · have eD : addW c d n = (0, false) := by unfold addW; rw [hd, if_neg (by simp)]
    rw [eD] at HD
    have eN : nextV c d = (0, false) := by unfold nextV; rw [hd]; rfl
    have eL : lastV c d = (0, false) := by unfold lastV; rw [hd]; rfl
    rw [eN] at HN
    rw [eL] at HL
    rw [hd] at HI
    clear eN eL hd
    go_enter Tryd.func4, Tryd.ntmps4
    go_wp2_with fail
    refine (HA.out _ (HT.out.on hB0).here (HP.out.on hB0).here).mono ?_
    rintro e w1 ⟨rfl, hb1⟩
    clear a0 a1
    have hB1 := hB0.trans (hb1.mono hB0.size)
    have hk1 := hk0.below hb1 hk0.lt
    clear hB0 hk0 hb1
    have a0 := hk1.cell 0; have a1 := hk1.cell 1; simp only [List.getElem?_toArray, List.getElem?_cons_zero, List.getElem?_cons_succ] at a0 a1
    go_wp2_with fail
    refine (HV.out _).mono ?_
    rintro e w2 ⟨rfl, hb2⟩
    clear a0 a1
    have hB2 := hB1.trans (hb2.mono hB1.size)
    have hk2 := hk1.below hb2 hk1.lt
    clear hB1 hk1 hb2
    have a0 := hk2.cell 0; have a1 := hk2.cell 1; simp only [List.getElem?_toArray, List.getElem?_cons_zero, List.getElem?_cons_succ] at a0 a1
    go_wp2_with fail
    refine (HN.out _ (H1.out.below hB2) (H2.out.below hB2) m1 m2).mono ?_
    rintro e w3 ⟨rfl, hb3⟩
    clear a0 a1
    have hB3 := hB2.trans (hb3.mono hB2.size)
    have hk3 := hk2.below hb3 hk2.lt
    clear hB2 hk2 hb3
    have a0 := hk3.cell 0; have a1 := hk3.cell 1; simp only [List.getElem?_toArray, List.getElem?_cons_zero, List.getElem?_cons_succ] at a0 a1
    go_wp2_with fail
    refine (HL.out _ (H1.out.below hB3) (H2.out.below hB3) m1 m2).mono ?_
    rintro e w4 ⟨rfl, hb4⟩
    clear a0 a1
    have hB4 := hB3.trans (hb4.mono hB3.size)
    have hk4 := hk3.below hb4 hk3.lt
    clear hB3 hk3 hb4
    have a0 := hk4.cell 0; have a1 := hk4.cell 1; simp only [List.getElem?_toArray, List.getElem?_cons_zero, List.getElem?_cons_succ] at a0 a1
    go_wp2_with fail
    refine (HD.out _ (H1.out.below hB4) (H2.out.below hB4) m1 m2).mono ?_
    rintro e w5 ⟨rfl, hb5⟩
    clear a0 a1
    have hB5 := hB4.trans (hb5.mono hB4.size)
    have hk5 := hk4.below hb5 hk4.lt
    clear hB4 hk4 hb5
    have a0 := hk5.cell 0; have a1 := hk5.cell 1; simp only [List.getElem?_toArray, List.getElem?_cons_zero, List.getElem?_cons_succ] at a0 a1
    go_wp2_with fail
    refine (HI.out _).mono ?_
    rintro e w' ⟨rfl, rfl⟩
    go_wp2_with fail
    go_ret
    exact ⟨ret_bool (by simp), hB5⟩
  obtain ⟨d0, d1⟩ : 0 ≤ d ∧ d ≤ 1048576 := by simpa [isDayB] using hd
  have HU := Lib.hid (fun (w : World) (h1 : SliceOf w 1 intC A1 n1 c.rest) (h2 : SliceOf w 1 intC A2 n2 c.hol) (m1 : n1 ≤ maxLen) (m2 : n2 ≤ maxLen) => rwalk_up c A1 n1 c1 A2 n2 c2 d 1 ⟨by omega, by omega⟩ ⟨by omega, by omega⟩ w h1 h2 m1 m2)
  have HB := Lib.hid (fun (w : World) (h1 : SliceOf w 1 intC A1 n1 c.rest) (h2 : SliceOf w 1 intC A2 n2 c.hol) (m1 : n1 ≤ maxLen) (m2 : n2 ≤ maxLen) => rwalk_dn c A1 n1 c1 A2 n2 c2 d 1 ⟨by omega, by omega⟩ ⟨by omega, by omega⟩ w h1 h2 m1 m2)
  rw [show nextV c d = upF c (1048577 - d).toNat 1 by unfold nextV; rw [hd]; rfl] at HN
  rw [show lastV c d = dnF c (d + 1).toNat 1 by unfold lastV; rw [hd]; rfl] at HL
  rw [hd] at HI
  obtain ⟨⟨ua, ub⟩, eup⟩ : ∃ v, upF c (1048577 - d).toNat 1 = v := ⟨_, rfl⟩
  obtain ⟨⟨la, lb⟩, edn⟩ : ∃ v, dnF c (d + 1).toNat 1 = v := ⟨_, rfl⟩
  rw [eup] at HN HU
  rw [edn] at HL HB
  simp only [] at HN HL HU HB
  replace eup := Lib.hid eup
  replace edn := Lib.hid edn
  have t6 : decide (n < -1048576) = false := decide_eq_false (by omega)
  have t7 : decide (1048576 < n) = false := decide_eq_false (by omega)
  by_cases k4 : 0 < n
  · have t4 : decide (0 < n) = true := decide_eq_true k4
    have HY := Lib.hid (fun (w : World) (h1 : SliceOf w 1 intC A1 n1 c.rest) (h2 : SliceOf w 1 intC A2 n2 c.hol) (m1 : n1 ≤ maxLen) (m2 : n2 ≤ maxLen) => rwalk_on c A1 n1 c1 A2 n2 c2 d n ⟨by omega, by omega⟩ ⟨by omega, by omega⟩ w h1 h2 m1 m2)
    have eD : addW c d n = upF c (1048577 - (d + 1)).toNat n := by unfold addW; rw [hd, if_pos ⟨rfl, by omega, by omega⟩, if_pos k4]
    rw [eD] at HD
    obtain ⟨⟨u, uo⟩, eu⟩ : ∃ v, upF c (1048577 - (d + 1)).toNat n = v := ⟨_, rfl⟩
    rw [eu] at HD HY
    simp only [] at HD HY
    clear eD eu k1 k3 s0 hd
    go_enter Tryd.func4, Tryd.ntmps4
    go_wp2_with fail
    refine (HA.out _ (HT.out.on hB0).here (HP.out.on hB0).here).mono ?_
    rintro e w1 ⟨rfl, hb1⟩
    clear a0 a1
    have hB1 := hB0.trans (hb1.mono hB0.size)
    have hk1 := hk0.below hb1 hk0.lt
    clear hB0 hk0 hb1
    have a0 := hk1.cell 0; have a1 := hk1.cell 1; simp only [List.getElem?_toArray, List.getElem?_cons_zero, List.getElem?_cons_succ] at a0 a1
    go_wp2_with fail
    refine (HV.out _).mono ?_
    rintro e w2 ⟨rfl, hb2⟩
    clear a0 a1
    have hB2 := hB1.trans (hb2.mono hB1.size)
    have hk2 := hk1.below hb2 hk1.lt
    clear hB1 hk1 hb2
    have a0 := hk2.cell 0; have a1 := hk2.cell 1; simp only [List.getElem?_toArray, List.getElem?_cons_zero, List.getElem?_cons_succ] at a0 a1
    go_wp2_with fail
    refine (HN.out _ (H1.out.below hB2) (H2.out.below hB2) m1 m2).mono ?_
    rintro e w3 ⟨rfl, hb3⟩
    clear a0 a1
    have hB3 := hB2.trans (hb3.mono hB2.size)
    have hk3 := hk2.below hb3 hk2.lt
    clear hB2 hk2 hb3
    have a0 := hk3.cell 0; have a1 := hk3.cell 1; simp only [List.getElem?_toArray, List.getElem?_cons_zero, List.getElem?_cons_succ] at a0 a1
    go_wp2_with fail
    refine (HL.out _ (H1.out.below hB3) (H2.out.below hB3) m1 m2).mono ?_
    rintro e w4 ⟨rfl, hb4⟩
    clear a0 a1
    have hB4 := hB3.trans (hb4.mono hB3.size)
    have hk4 := hk3.below hb4 hk3.lt
    clear hB3 hk3 hb4
    have a0 := hk4.cell 0; have a1 := hk4.cell 1; simp only [List.getElem?_toArray, List.getElem?_cons_zero, List.getElem?_cons_succ] at a0 a1
    go_wp2_with fail
    refine (HD.out _ (H1.out.below hB4) (H2.out.below hB4) m1 m2).mono ?_
    rintro e w5 ⟨rfl, hb5⟩
    clear a0 a1
    have hB5 := hB4.trans (hb5.mono hB4.size)
    have hk5 := hk4.below hb5 hk4.lt
    clear hB4 hk4 hb5
    have a0 := hk5.cell 0; have a1 := hk5.cell 1; simp only [List.getElem?_toArray, List.getElem?_cons_zero, List.getElem?_cons_succ] at a0 a1
    go_wp2_with fail
    refine (HI.out _).mono ?_
    rintro e w' ⟨rfl, rfl⟩
    go_wp2_with fail
    refine (HU.out _ (H1.out.below hB5) (H2.out.below hB5) m1 m2).mono ?_
    rintro e w6 ⟨rfl, hb6⟩
    clear a0 a1
    have hB6 := hB5.trans (hb6.mono hB5.size)
    have hk6 := hk5.below hb6 hk5.lt
    clear hB5 hk5 hb6
    have a0 := hk6.cell 0; have a1 := hk6.cell 1; simp only [List.getElem?_toArray, List.getElem?_cons_zero, List.getElem?_cons_succ] at a0 a1
    go_wp2_with fail
    refine (HB.out _ (H1.out.below hB6) (H2.out.below hB6) m1 m2).mono ?_
    rintro e w7 ⟨rfl, hb7⟩
    clear a0 a1
    have hB7 := hB6.trans (hb7.mono hB6.size)
    have hk7 := hk6.below hb7 hk6.lt
    clear hB6 hk6 hb7
    have a0 := hk7.cell 0; have a1 := hk7.cell 1; simp only [List.getElem?_toArray, List.getElem?_cons_zero, List.getElem?_cons_succ] at a0 a1
    go_wp2_with fail
    refine (HY.out _ (H1.out.below hB7) (H2.out.below hB7) m1 m2).mono ?_
    rintro e w8 ⟨rfl, hb8⟩
    clear a0 a1
    have hB8 := hB7.trans (hb8.mono hB7.size)
    have hk8 := hk7.below hb8 hk7.lt
    clear hB7 hk7 hb8
    have a0 := hk8.cell 0; have a1 := hk8.cell 1; simp only [List.getElem?_toArray, List.getElem?_cons_zero, List.getElem?_cons_succ] at a0 a1
    go_wp2_with fail
    go_ret
    exact ⟨ret_bool (by simp), hB8⟩
  have t4 : decide (0 < n) = false := decide_eq_false k4
  by_cases k5 : n < 0
  · have t5 : decide (n < 0) = true := decide_eq_true k5
    have s1 : wrap64 (-n) = -n := by unfold wrap64; omega
    have HY := Lib.hid (fun (w : World) (h1 : SliceOf w 1 intC A1 n1 c.rest) (h2 : SliceOf w 1 intC A2 n2 c.hol) (m1 : n1 ≤ maxLen) (m2 : n2 ≤ maxLen) => rwalk_back c A1 n1 c1 A2 n2 c2 d (-n) ⟨by omega, by omega⟩ ⟨by omega, by omega⟩ w h1 h2 m1 m2)
    have eD : addW c d n = dnF c (d - 1 + 1).toNat (-n) := by unfold addW; rw [hd, if_pos ⟨rfl, by omega, by omega⟩, if_neg k4, if_pos k5]
    rw [eD] at HD
    obtain ⟨⟨u, uo⟩, eu⟩ : ∃ v, dnF c (d - 1 + 1).toNat (-n) = v := ⟨_, rfl⟩
    rw [eu] at HD HY
    simp only [] at HD HY
    clear eD eu k1 k3 s0 hd
    go_enter Tryd.func4, Tryd.ntmps4
    go_wp2_with fail
    refine (HA.out _ (HT.out.on hB0).here (HP.out.on hB0).here).mono ?_
    rintro e w1 ⟨rfl, hb1⟩
    clear a0 a1
    have hB1 := hB0.trans (hb1.mono hB0.size)
    have hk1 := hk0.below hb1 hk0.lt
    clear hB0 hk0 hb1
    have a0 := hk1.cell 0; have a1 := hk1.cell 1; simp only [List.getElem?_toArray, List.getElem?_cons_zero, List.getElem?_cons_succ] at a0 a1
    go_wp2_with fail
    refine (HV.out _).mono ?_
    rintro e w2 ⟨rfl, hb2⟩
    clear a0 a1
    have hB2 := hB1.trans (hb2.mono hB1.size)
    have hk2 := hk1.below hb2 hk1.lt
    clear hB1 hk1 hb2
    have a0 := hk2.cell 0; have a1 := hk2.cell 1; simp only [List.getElem?_toArray, List.getElem?_cons_zero, List.getElem?_cons_succ] at a0 a1
    go_wp2_with fail
    refine (HN.out _ (H1.out.below hB2) (H2.out.below hB2) m1 m2).mono ?_
    rintro e w3 ⟨rfl, hb3⟩
    clear a0 a1
    have hB3 := hB2.trans (hb3.mono hB2.size)
    have hk3 := hk2.below hb3 hk2.lt
    clear hB2 hk2 hb3
    have a0 := hk3.cell 0; have a1 := hk3.cell 1; simp only [List.getElem?_toArray, List.getElem?_cons_zero, List.getElem?_cons_succ] at a0 a1
    go_wp2_with fail
    refine (HL.out _ (H1.out.below hB3) (H2.out.below hB3) m1 m2).mono ?_
    rintro e w4 ⟨rfl, hb4⟩
    clear a0 a1
    have hB4 := hB3.trans (hb4.mono hB3.size)
    have hk4 := hk3.below hb4 hk3.lt
    clear hB3 hk3 hb4
    have a0 := hk4.cell 0; have a1 := hk4.cell 1; simp only [List.getElem?_toArray, List.getElem?_cons_zero, List.getElem?_cons_succ] at a0 a1
    go_wp2_with fail
    refine (HD.out _ (H1.out.below hB4) (H2.out.below hB4) m1 m2).mono ?_
    rintro e w5 ⟨rfl, hb5⟩
    clear a0 a1
    have hB5 := hB4.trans (hb5.mono hB4.size)
    have hk5 := hk4.below hb5 hk4.lt
    clear hB4 hk4 hb5
    have a0 := hk5.cell 0; have a1 := hk5.cell 1; simp only [List.getElem?_toArray, List.getElem?_cons_zero, List.getElem?_cons_succ] at a0 a1
    go_wp2_with fail
    refine (HI.out _).mono ?_
    rintro e w' ⟨rfl, rfl⟩
    go_wp2_with fail
    refine (HU.out _ (H1.out.below hB5) (H2.out.below hB5) m1 m2).mono ?_
    rintro e w6 ⟨rfl, hb6⟩
    clear a0 a1
    have hB6 := hB5.trans (hb6.mono hB5.size)
    have hk6 := hk5.below hb6 hk5.lt
    clear hB5 hk5 hb6
    have a0 := hk6.cell 0; have a1 := hk6.cell 1; simp only [List.getElem?_toArray, List.getElem?_cons_zero, List.getElem?_cons_succ] at a0 a1
    go_wp2_with fail
    refine (HB.out _ (H1.out.below hB6) (H2.out.below hB6) m1 m2).mono ?_
    rintro e w7 ⟨rfl, hb7⟩
    clear a0 a1
    have hB7 := hB6.trans (hb7.mono hB6.size)
    have hk7 := hk6.below hb7 hk6.lt
    clear hB6 hk6 hb7
    have a0 := hk7.cell 0; have a1 := hk7.cell 1; simp only [List.getElem?_toArray, List.getElem?_cons_zero, List.getElem?_cons_succ] at a0 a1
    go_wp2_with fail
    refine (HY.out _ (H1.out.below hB7) (H2.out.below hB7) m1 m2).mono ?_
    rintro e w8 ⟨rfl, hb8⟩
    clear a0 a1
    have hB8 := hB7.trans (hb8.mono hB7.size)
    have hk8 := hk7.below hb8 hk7.lt
    clear hB7 hk7 hb8
    have a0 := hk8.cell 0; have a1 := hk8.cell 1; simp only [List.getElem?_toArray, List.getElem?_cons_zero, List.getElem?_cons_succ] at a0 a1
    go_wp2_with fail
    go_ret
    exact ⟨ret_bool (by simp), hB8⟩
  · have t5 : decide (n < 0) = false := decide_eq_false k5
    have eD : addW c d n = nextV c d := by unfold addW; rw [hd, if_pos ⟨rfl, by omega, by omega⟩, if_neg k4, if_neg k5]
    have eN : nextV c d = upF c (1048577 - d).toNat 1 := by unfold nextV; rw [hd]; rfl
    rw [eD, eN, eup.out] at HD
    simp only [] at HD
    clear eD eN k1 k3 s0 hd
    go_enter Tryd.func4, Tryd.ntmps4
    go_wp2_with fail
    refine (HA.out _ (HT.out.on hB0).here (HP.out.on hB0).here).mono ?_
    rintro e w1 ⟨rfl, hb1⟩
    clear a0 a1
    have hB1 := hB0.trans (hb1.mono hB0.size)
    have hk1 := hk0.below hb1 hk0.lt
    clear hB0 hk0 hb1
    have a0 := hk1.cell 0; have a1 := hk1.cell 1; simp only [List.getElem?_toArray, List.getElem?_cons_zero, List.getElem?_cons_succ] at a0 a1
    go_wp2_with fail
    refine (HV.out _).mono ?_
    rintro e w2 ⟨rfl, hb2⟩
    clear a0 a1
    have hB2 := hB1.trans (hb2.mono hB1.size)
    have hk2 := hk1.below hb2 hk1.lt
    clear hB1 hk1 hb2
    have a0 := hk2.cell 0; have a1 := hk2.cell 1; simp only [List.getElem?_toArray, List.getElem?_cons_zero, List.getElem?_cons_succ] at a0 a1
    go_wp2_with fail
    refine (HN.out _ (H1.out.below hB2) (H2.out.below hB2) m1 m2).mono ?_
    rintro e w3 ⟨rfl, hb3⟩
    clear a0 a1
    have hB3 := hB2.trans (hb3.mono hB2.size)
    have hk3 := hk2.below hb3 hk2.lt
    clear hB2 hk2 hb3
    have a0 := hk3.cell 0; have a1 := hk3.cell 1; simp only [List.getElem?_toArray, List.getElem?_cons_zero, List.getElem?_cons_succ] at a0 a1
    go_wp2_with fail
    refine (HL.out _ (H1.out.below hB3) (H2.out.below hB3) m1 m2).mono ?_
    rintro e w4 ⟨rfl, hb4⟩
    clear a0 a1
    have hB4 := hB3.trans (hb4.mono hB3.size)
    have hk4 := hk3.below hb4 hk3.lt
    clear hB3 hk3 hb4
    have a0 := hk4.cell 0; have a1 := hk4.cell 1; simp only [List.getElem?_toArray, List.getElem?_cons_zero, List.getElem?_cons_succ] at a0 a1
    go_wp2_with fail
    refine (HD.out _ (H1.out.below hB4) (H2.out.below hB4) m1 m2).mono ?_
    rintro e w5 ⟨rfl, hb5⟩
    clear a0 a1
    have hB5 := hB4.trans (hb5.mono hB4.size)
    have hk5 := hk4.below hb5 hk4.lt
    clear hB4 hk4 hb5
    have a0 := hk5.cell 0; have a1 := hk5.cell 1; simp only [List.getElem?_toArray, List.getElem?_cons_zero, List.getElem?_cons_succ] at a0 a1
    go_wp2_with fail
    refine (HI.out _).mono ?_
    rintro e w' ⟨rfl, rfl⟩
    go_wp2_with fail
    refine (HU.out _ (H1.out.below hB5) (H2.out.below hB5) m1 m2).mono ?_
    rintro e w6 ⟨rfl, hb6⟩
    clear a0 a1
    have hB6 := hB5.trans (hb6.mono hB5.size)
    have hk6 := hk5.below hb6 hk5.lt
    clear hB5 hk5 hb6
    have a0 := hk6.cell 0; have a1 := hk6.cell 1; simp only [List.getElem?_toArray, List.getElem?_cons_zero, List.getElem?_cons_succ] at a0 a1
    go_wp2_with fail
    refine (HB.out _ (H1.out.below hB6) (H2.out.below hB6) m1 m2).mono ?_
    rintro e w7 ⟨rfl, hb7⟩
    clear a0 a1
    have hB7 := hB6.trans (hb7.mono hB6.size)
    have hk7 := hk6.below hb7 hk6.lt
    clear hB6 hk6 hb7
    have a0 := hk7.cell 0; have a1 := hk7.cell 1; simp only [List.getElem?_toArray, List.getElem?_cons_zero, List.getElem?_cons_succ] at a0 a1
    go_wp2_with fail
    go_ret
    exact ⟨ret_bool (by simp), hB7⟩
end Go.Proofs.YtmgijoomfailoaaDoor
