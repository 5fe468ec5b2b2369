/- DayBoth: the law. Conditions: the tables of powers of ten and of the months. -/
import Derived.Test.YtmgijoomfailoaaDoorDyF
import Derived.Test.YtmgijoomfailoaaDoorDyS
import Derived.Test.YtmgijoomfailoaaDoorBoH
namespace Go.Proofs.YtmgijoomfailoaaDoor
open Go.RowKit Go.Proofs.YtmgijoomfailoaaDoor.kit Go.Proofs.YtmgijoomfailoaaDoor.cal
set_option linter.unusedVariables false

set_option maxRecDepth 100000 in
set_option maxHeartbeats 16000000 in
theorem dayBoth_walk (a b : Cal) (A1 : Option Addr) (n1 c1 : Nat) (A2 : Option Addr) (n2 c2 : Nat) (B1 : Option Addr) (k1 d1 : Nat) (B2 : Option Addr) (k2 d2 : Nat) (d : Int) (w : World)
    (h1 : SliceOf w 1 intC A1 n1 a.rest) (h2 : SliceOf w 1 intC A2 n2 a.hol) (h3 : SliceOf w 1 intC B1 k1 b.rest) (h4 : SliceOf w 1 intC B2 k2 b.hol)
    (m1 : n1 ≤ maxLen) (m2 : n2 ≤ maxLen) (m3 : k1 ≤ maxLen) (m4 : k2 ≤ maxLen) (ht : MonTab w) (hp : PowTab w) :
    Calls Tryd.prog 10 #[.agg #[.slice A1 n1 c1, .slice A2 n2 c2], .agg #[.slice B1 k1 d1, .slice B2 k2 d2], .int .i64 d] w fun e w' => e = .returned (.bool true) ∧ Below w.heap.size w w' := by
  have HT := Lib.hid (Lib.tabBelow_of_tabIs ht)
  have HP := Lib.hid (Lib.tabBelow_of_tabIs hp)
  have HA := Lib.hid (fun w h1 h2 => awake_any w h1 h2)
  have HV := Lib.hid (fun w => heavy_any a A1 n1 c1 A2 n2 c2 w m1 m2)
  have HW := Lib.hid (fun w => heavy_any b B1 k1 d1 B2 k2 d2 w m3 m4)
  have H1 := Lib.hid h1
  have H2 := Lib.hid h2
  have H3 := Lib.hid h3
  have H4 := Lib.hid h4
  clear h1 h2 h3 h4 ht hp
  have hA0 : Blk ((w.alloc (.cells #[.slice A1 n1 c1, .slice A2 n2 c2] 31)).alloc (.cells #[.slice B1 k1 d1, .slice B2 k2 d2] 31)) w.heap.size 31 #[.slice A1 n1 c1, .slice A2 n2 c2] := (Blk.new _ _ _).alloc _
  have hC0 : Blk ((w.alloc (.cells #[.slice A1 n1 c1, .slice A2 n2 c2] 31)).alloc (.cells #[.slice B1 k1 d1, .slice B2 k2 d2] 31)) (w.heap.size + 1) 31 #[.slice B1 k1 d1, .slice B2 k2 d2] := Blk.new_at _ _ _ _ (by simp)
  have hB0 : Below w.heap.size w ((w.alloc (.cells #[.slice A1 n1 c1, .slice A2 n2 c2] 31)).alloc (.cells #[.slice B1 k1 d1, .slice B2 k2 d2] 31)) := ((Below.refl _ _).alloc (Nat.le_refl _) _).alloc (by simp) _
  have a0 := hA0.cell 0; have a1 := hA0.cell 1; have b0 := hC0.cell 0; have b1 := hC0.cell 1
  simp only [List.getElem?_toArray, List.getElem?_cons_zero, List.getElem?_cons_succ] at a0 a1 b0 b1
  obtain ⟨hv, ehv⟩ : ∃ x, (decide (20 < n1) || decide (60 < n2)) = x := ⟨_, rfl⟩
  obtain ⟨hw, ehw⟩ : ∃ x, (decide (20 < k1) || decide (60 < k2)) = x := ⟨_, rfl⟩
  rw [ehv] at HV
  rw [ehw] at HW
  have EV := Lib.hid ehv
  have EW := Lib.hid ehw
  clear ehv ehw
  cases hv
  rotate_left
  · go_enter Tryd.func10, Tryd.ntmps10
    go_wp2_with fail
    refine (HA.out _ (HT.out.on hB0).here (HP.out.on hB0).here).mono ?_
    rintro e w1 ⟨rfl, hb1⟩
    have hB1 := hB0.trans (hb1.mono hB0.size)
    have hA1 := hA0.below hb1 hA0.lt
    have hC1 := hC0.below hb1 hC0.lt
    clear a0 a1 b0 b1 hB0 hA0 hC0 hb1
    have a0 := hA1.cell 0; have a1 := hA1.cell 1; have b0 := hC1.cell 0; have b1 := hC1.cell 1
    simp only [List.getElem?_toArray, List.getElem?_cons_zero, List.getElem?_cons_succ] at a0 a1 b0 b1
    go_wp2_with fail
    refine (HV.out _).mono ?_
    rintro e w2 ⟨rfl, hb2⟩
    have hB2 := hB1.trans (hb2.mono hB1.size)
    have hA2 := hA1.below hb2 hA1.lt
    have hC2 := hC1.below hb2 hC1.lt
    clear a0 a1 b0 b1 hB1 hA1 hC1 hb2
    have a0 := hA2.cell 0; have a1 := hA2.cell 1; have b0 := hC2.cell 0; have b1 := hC2.cell 1
    simp only [List.getElem?_toArray, List.getElem?_cons_zero, List.getElem?_cons_succ] at a0 a1 b0 b1
    go_wp2_with fail
    go_ret
    exact ⟨rfl, hB2⟩
  cases hw
  rotate_left
  · go_enter Tryd.func10, Tryd.ntmps10
    go_wp2_with fail
    refine (HA.out _ (HT.out.on hB0).here (HP.out.on hB0).here).mono ?_
    rintro e w1 ⟨rfl, hb1⟩
    have hB1 := hB0.trans (hb1.mono hB0.size)
    have hA1 := hA0.below hb1 hA0.lt
    have hC1 := hC0.below hb1 hC0.lt
    clear a0 a1 b0 b1 hB0 hA0 hC0 hb1
    have a0 := hA1.cell 0; have a1 := hA1.cell 1; have b0 := hC1.cell 0; have b1 := hC1.cell 1
    simp only [List.getElem?_toArray, List.getElem?_cons_zero, List.getElem?_cons_succ] at a0 a1 b0 b1
    go_wp2_with fail
    refine (HV.out _).mono ?_
    rintro e w2 ⟨rfl, hb2⟩
    have hB2 := hB1.trans (hb2.mono hB1.size)
    have hA2 := hA1.below hb2 hA1.lt
    have hC2 := hC1.below hb2 hC1.lt
    clear a0 a1 b0 b1 hB1 hA1 hC1 hb2
    have a0 := hA2.cell 0; have a1 := hA2.cell 1; have b0 := hC2.cell 0; have b1 := hC2.cell 1
    simp only [List.getElem?_toArray, List.getElem?_cons_zero, List.getElem?_cons_succ] at a0 a1 b0 b1
    go_wp2_with fail
    refine (HW.out _).mono ?_
    rintro e w3 ⟨rfl, hb3⟩
    have hB3 := hB2.trans (hb3.mono hB2.size)
    have hA3 := hA2.below hb3 hA2.lt
    have hC3 := hC2.below hb3 hC2.lt
    clear a0 a1 b0 b1 hB2 hA2 hC2 hb3
    have a0 := hA3.cell 0; have a1 := hA3.cell 1; have b0 := hC3.cell 0; have b1 := hC3.cell 1
    simp only [List.getElem?_toArray, List.getElem?_cons_zero, List.getElem?_cons_succ] at a0 a1 b0 b1
    go_wp2_with fail
    go_ret
    exact ⟨rfl, hB3⟩
  have hn : (n1 ≤ 20 ∧ n2 ≤ 60) ∧ k1 ≤ 20 ∧ k2 ≤ 60 := by
    have e1 := EV.out
    have e2 := EW.out
    simp only [Bool.or_eq_false_iff, decide_eq_false_iff_not] at e1 e2
    omega
  obtain ⟨⟨j1, j2⟩, j3, j4⟩ := hn
  clear EV EW
  go_enter Tryd.func10, Tryd.ntmps10
  go_wp2_with fail
  refine (HA.out _ (HT.out.on hB0).here (HP.out.on hB0).here).mono ?_
  rintro e w1 ⟨rfl, hb1⟩
  have hB1 := hB0.trans (hb1.mono hB0.size)
  have hA1 := hA0.below hb1 hA0.lt
  have hC1 := hC0.below hb1 hC0.lt
  clear a0 a1 b0 b1 hB0 hA0 hC0 hb1
  have a0 := hA1.cell 0; have a1 := hA1.cell 1; have b0 := hC1.cell 0; have b1 := hC1.cell 1
  simp only [List.getElem?_toArray, List.getElem?_cons_zero, List.getElem?_cons_succ] at a0 a1 b0 b1
  go_wp2_with fail
  refine (HV.out _).mono ?_
  rintro e w2 ⟨rfl, hb2⟩
  have hB2 := hB1.trans (hb2.mono hB1.size)
  have hA2 := hA1.below hb2 hA1.lt
  have hC2 := hC1.below hb2 hC1.lt
  clear a0 a1 b0 b1 hB1 hA1 hC1 hb2
  have a0 := hA2.cell 0; have a1 := hA2.cell 1; have b0 := hC2.cell 0; have b1 := hC2.cell 1
  simp only [List.getElem?_toArray, List.getElem?_cons_zero, List.getElem?_cons_succ] at a0 a1 b0 b1
  go_wp2_with fail
  refine (HW.out _).mono ?_
  rintro e w3 ⟨rfl, hb3⟩
  have hB3 := hB2.trans (hb3.mono hB2.size)
  have hA3 := hA2.below hb3 hA2.lt
  have hC3 := hC2.below hb3 hC2.lt
  clear a0 a1 b0 b1 hB2 hA2 hC2 hb3
  have a0 := hA3.cell 0; have a1 := hA3.cell 1; have b0 := hC3.cell 0; have b1 := hC3.cell 1
  simp only [List.getElem?_toArray, List.getElem?_cons_zero, List.getElem?_cons_succ] at a0 a1 b0 b1
  clear HT HP HA HV HW
  go_wp2_with fail
  refine wp_region_book (BJ w w3.heap.size a b #[.slice A1 n1 c1, .slice A2 n2 c2] #[.slice B1 k1 d1, .slice B2 k2 d2] w.heap.size (w.heap.size + 1)) (by kernel_rfl) (by kernel_rfl) ?_ ?_ ?_
  · exact ⟨hB3.drew, hA3.drew, hC3.drew, Nat.le_refl _, fun h => (by cases h), fun h => (by cases h), fun h => (by cases h), fun h => (by cases h), fun h => (by cases h), fun h => (by cases h), fun h => (by cases h), fun h => (by cases h), fun h => (by cases h), fun h => (by cases h), fun h => (by cases h)⟩
  · refine ⟨?_, ?_, ?_, ?_, ?_, ?_, ?_, ?_, ?_, ?_, trivial⟩
    all_goals intro done vs ac W hnd hdep hJ hE hsz
    · have e : ac.eval (.tmp 3) = .pointer (some ⟨w.heap.size, 0, none⟩) := (hE 3 (by simp)).trans (by simp [evF, Act.eval])
      exact wp_load_row 31 _ rfl _ e 31 _ (0, 0) _ hJ.ka Tryd.underlying31 rfl (by kernel_rfl) ⟨_, rfl, hJ.at0 hnd⟩
    · have e : ac.eval (.tmp 4) = .pointer (some ⟨w.heap.size + 1, 0, none⟩) := (hE 4 (by simp)).trans (by simp [evF, Act.eval])
      exact wp_load_row 31 _ rfl _ e 31 _ (0, 0) _ hJ.kb Tryd.underlying31 rfl (by kernel_rfl) ⟨_, rfl, hJ.at1 hnd⟩
    · simp [Region.binds] at hdep
      have e : ac.eval (.tmp 18) = .agg #[.slice A1 n1 c1, .slice A2 n2 c2] := (hE 18 (by simp)).trans (by simp [evF, hdep.1, hJ.v0 hdep.1])
      have e' : ac.eval (.tmp 19) = .agg #[.slice B1 k1 d1, .slice B2 k2 d2] := (hE 19 (by simp)).trans (by simp [evF, hdep.2, hJ.v1 hdep.2])
      refine wp_call_fn 34 _ _ rfl (enters_fn Tryd.func34 (by kernel_rfl) rfl) #[.agg #[.slice A1 n1 c1, .slice A2 n2 c2], .agg #[.slice B1 k1 d1, .slice B2 k2 d2]] (by simp [e, e']) ?_
      refine (both_any a b A1 n1 c1 A2 n2 c2 B1 k1 d1 B2 k2 d2 W (H1.out.below hJ.bel) (H2.out.below hJ.bel) (H3.out.below hJ.bel) (H4.out.below hJ.bel) j1 j2 j3 j4).mono ?_
      rintro e9 w9 ⟨E1, x1, y1, E2, x2, y2, rfl, q1, q2, q3, q4, hb⟩
      exact ⟨_, rfl, _, rfl, (hJ.below hb).at2 hnd ⟨E1, x1, y1, E2, x2, y2, rfl, q1, q2, q3, q4⟩⟩
    · have e : ac.eval (.tmp 4) = .pointer (some ⟨w.heap.size + 1, 0, none⟩) := (hE 4 (by simp)).trans (by simp [evF, Act.eval])
      exact wp_load_row 31 _ rfl _ e 31 _ (0, 0) _ hJ.kb Tryd.underlying31 rfl (by kernel_rfl) ⟨_, rfl, hJ.at3 hnd⟩
    · have e : ac.eval (.tmp 3) = .pointer (some ⟨w.heap.size, 0, none⟩) := (hE 3 (by simp)).trans (by simp [evF, Act.eval])
      exact wp_load_row 31 _ rfl _ e 31 _ (0, 0) _ hJ.ka Tryd.underlying31 rfl (by kernel_rfl) ⟨_, rfl, hJ.at4 hnd⟩
    · simp [Region.binds] at hdep
      have e : ac.eval (.tmp 21) = .agg #[.slice B1 k1 d1, .slice B2 k2 d2] := (hE 21 (by simp)).trans (by simp [evF, hdep, hJ.v3])
      have e' : ac.eval (.tmp 22) = .agg #[.slice A1 n1 c1, .slice A2 n2 c2] := (hE 22 (by simp)).trans (by simp [evF, hdep, hJ.v4])
      refine wp_call_fn 34 _ _ rfl (enters_fn Tryd.func34 (by kernel_rfl) rfl) #[.agg #[.slice B1 k1 d1, .slice B2 k2 d2], .agg #[.slice A1 n1 c1, .slice A2 n2 c2]] (by simp [e, e']) ?_
      refine (both_any b a B1 k1 d1 B2 k2 d2 A1 n1 c1 A2 n2 c2 W (H3.out.below hJ.bel) (H4.out.below hJ.bel) (H1.out.below hJ.bel) (H2.out.below hJ.bel) j3 j4 j1 j2).mono ?_
      rintro e9 w9 ⟨E1, x1, y1, E2, x2, y2, rfl, q1, q2, q3, q4, hb⟩
      exact ⟨_, rfl, _, rfl, (hJ.below hb).at5 hnd ⟨E1, x1, y1, E2, x2, y2, rfl, q1, q2, q3, q4⟩⟩
    · exact wp_alloc_z 31 rfl #[.slice none 0 0, .slice none 0 0] (by kernel_rfl) ⟨_, rfl, hJ.at6 hnd⟩
    · exact wp_alloc_z 31 rfl #[.slice none 0 0, .slice none 0 0] (by kernel_rfl) ⟨_, rfl, hJ.at7 hnd⟩
    · simp [Region.binds] at hdep
      obtain ⟨g, old, cells, q1, q2, q3, q4, q5, q6, q7⟩ := hJ.at8 hA3.lt hC3.lt hB3.size (by simp [hdep]) (by simp [hdep])
      have e : ac.eval (.tmp 7) = .pointer (some ⟨g, 0, none⟩) := (hE 7 (by simp)).trans (by simp [evF, hdep, q1])
      have e' : ac.eval (.tmp 20) = .agg cells := (hE 20 (by simp)).trans (by simp [evF, hdep, q2])
      exact wp_store_row 31 _ _ rfl g cells e e' 31 old q3 (by rw [q5]; kernel_rfl) (by rw [q4, q5]) q6 ⟨_, rfl, q7⟩
    · simp [Region.binds] at hdep
      obtain ⟨g, old, cells, q1, q2, q3, q4, q5, q6, q7⟩ := hJ.at9 hA3.lt hC3.lt hB3.size (by simp [hdep]) (by simp [hdep])
      have e : ac.eval (.tmp 8) = .pointer (some ⟨g, 0, none⟩) := (hE 8 (by simp)).trans (by simp [evF, hdep, q1])
      have e' : ac.eval (.tmp 23) = .agg cells := (hE 23 (by simp)).trans (by simp [evF, hdep, q2])
      exact wp_store_row 31 _ _ rfl g cells e e' 31 old q3 (by rw [q5]; kernel_rfl) (by rw [q4, q5]) q6 ⟨_, rfl, q7⟩
  · intro done vs W hall hJ
    have hx6 := hJ.v6 (hall 6 (by simp))
    have hx7 := hJ.v7 (hall 7 (by simp))
    rw [hall 8 (by simp)] at hx6
    rw [hall 9 (by simp)] at hx7
    obtain ⟨g7, E1, x1, y1, E2, x2, y2, eg7, lg7, k7, s1, s2, l1, l2⟩ := box_cal hx6 (hJ.v2 (hall 2 (by simp)))
    obtain ⟨g8, F1, u1, v1, F2, u2, v2, eg8, lg8, k8, s3, s4, l3, l4⟩ := box_cal hx7 (hJ.v5 (hall 5 (by simp)))
    have hBW := hJ.bel
    have hAW := hJ.ka
    have hCW := hJ.kb
    simp only [fillA, Act.put, List.setIfInBounds_toArray, List.set_cons_zero, List.set_cons_succ, if_true, eg7, eg8]
    clear hx6 hx7 hJ eg7 eg8 hall
    have hsz : w3.heap.size ≤ W.heap.size := by have := k7.lt; omega
    obtain ⟨g9, hg9⟩ : ∃ g9, W.heap.size = g9 := ⟨_, rfl⟩
    have na : w.heap.size ≠ g9 := by have := hAW.lt; omega
    have nb : w.heap.size + 1 ≠ g9 := by have := hCW.lt; omega
    have n7 : g7 ≠ g9 := by have := k7.lt; omega
    have n8 : g8 ≠ g9 := by have := k8.lt; omega
    have lw : w.heap.size ≤ g9 := by have := hBW.size; omega
    have F0 : Fv w w.heap.size (w.heap.size + 1) g7 g8 g9 #[.slice A1 n1 c1, .slice A2 n2 c2] #[.slice B1 k1 d1, .slice B2 k2 d2] #[.slice E1 x1 y1, .slice E2 x2 y2] #[.slice F1 u1 v1, .slice F2 u2 v2] #[.slice none 0 0, .slice none 0 0] E1 x1 E2 x2 F1 u1 F2 u2 (bothV a b) (bothV b a) none 0 none 0 [] [] (W.alloc (.cells #[.slice none 0 0, .slice none 0 0] 31)) :=
      ⟨hBW.alloc hBW.size _, hAW.alloc _, hCW.alloc _, k7.alloc _, k8.alloc _, by rw [← hg9]; exact Blk.new _ _ _, s1.below (one_alloc _ _), s2.below (one_alloc _ _), s3.below (one_alloc _ _), s4.below (one_alloc _ _), SliceOf.none_, SliceOf.none_⟩
    have HF := Lib.hid F0
    clear F0 s1 s2 s3 s4 k7 k8 hAW hCW hBW hA3 hC3 hB3 lg7 lg8 hsz a0 a1 b0 b1
    have HM := Lib.hid (fun (W' : World) (hb : Below w.heap.size w W') => rmay_any a A1 n1 c1 A2 n2 c2 W' (H1.out.below hb) (H2.out.below hb) m1 m2)
    have HN := Lib.hid (fun (W' : World) (hb : Below w.heap.size w W') => rmay_any b B1 k1 d1 B2 k2 d2 W' (H3.out.below hb) (H4.out.below hb) m3 m4)
    have a0 := HF.out.ka.cell 0; have a1 := HF.out.ka.cell 1; have b0 := HF.out.kb.cell 0; have b1 := HF.out.kb.cell 1
    simp only [List.getElem?_toArray, List.getElem?_cons_zero, List.getElem?_cons_succ] at a0 a1 b0 b1
    have EBR : Hid (restB (bothV a b) d = (restB a d || restB b d)) := Lib.hid (both_rests (by have e := HF.out.s1.len; show (bothV a b).rest.length ≤ 4096; omega) (by have e := HF.out.s2.len; show (bothV a b).hol.length ≤ 4096; omega) d)
    cases ma : mayB a <;> cases mb : mayB b
    all_goals
      rw [ma] at HM
      rw [mb] at HN
    · have ea : goodC a = ⟨[], []⟩ := by unfold goodC; rw [ma]; rfl
      have eb : goodC b = ⟨[], []⟩ := by unfold goodC; rw [mb]; rfl
      have e1 : Hid ((bothV a b).rest = []) := Lib.hid (by unfold bothV; rw [ea, eb]; exact mrg_nil _)
      have e2 : Hid ((bothV a b).hol = []) := Lib.hid (by unfold bothV; rw [ea, eb]; exact mrg_nil _)
      clear ma mb ea eb
      go_wp2_with fail
      refine (HM.out _ HF.out.bel).mono ?_
      rintro e w5 ⟨rfl, hb5⟩
      have HF5 := Lib.hid (HF.out.below hb5)
      clear a0 a1 b0 b1 hb5
      have a0 := (HF5).out.ka.cell 0; have a1 := (HF5).out.ka.cell 1; have b0 := (HF5).out.kb.cell 0; have b1 := (HF5).out.kb.cell 1; have z0 := (HF5).out.k9.cell 0; have z1 := (HF5).out.k9.cell 1
      simp only [List.getElem?_toArray, List.getElem?_cons_zero, List.getElem?_cons_succ] at a0 a1 b0 b1 z0 z1
      go_wp2_with fail
      refine (HN.out _ (HF5).out.bel).mono ?_
      rintro e w7 ⟨rfl, hb7⟩
      have HF7 := Lib.hid ((HF5).out.below hb7)
      clear a0 a1 b0 b1 z0 z1 hb7
      have a0 := (HF7).out.ka.cell 0; have a1 := (HF7).out.ka.cell 1; have b0 := (HF7).out.kb.cell 0; have b1 := (HF7).out.kb.cell 1; have z0 := (HF7).out.k9.cell 0; have z1 := (HF7).out.k9.cell 1
      simp only [List.getElem?_toArray, List.getElem?_cons_zero, List.getElem?_cons_succ] at a0 a1 b0 b1 z0 z1
      have HF9 : Hid (Fv w w.heap.size (w.heap.size + 1) g7 g8 g9 #[.slice A1 n1 c1, .slice A2 n2 c2] #[.slice B1 k1 d1, .slice B2 k2 d2] #[.slice E1 x1 y1, .slice E2 x2 y2] #[.slice F1 u1 v1, .slice F2 u2 v2] #[.slice none 0 0, .slice none 0 0] E1 x1 E2 x2 F1 u1 F2 u2 (bothV a b) (bothV b a) none 0 none 0 ((bothV a b).rest) ((bothV a b).hol) w7) := Lib.hid (by rw [e1.out, e2.out]; exact HF7.out)
      clear HF7 a0 a1 b0 b1 z0 z1
      have HR7 := Lib.hid (fun (x : BW w7) => rests_any (bothV a b) E1 x1 y1 E2 x2 y2 d (wof x) ((HF9).out.s1.below (wof_below x)) ((HF9).out.s2.below (wof_below x)) (by unfold maxLen; omega) (by unfold maxLen; omega))
      have HRA := Lib.hid (fun (x : BW w7) => rests_any a A1 n1 c1 A2 n2 c2 d (wof x) (H1.out.below ((HF9).out.bel.trans ((wof_below x).mono (HF9).out.bel.size))) (H2.out.below ((HF9).out.bel.trans ((wof_below x).mono (HF9).out.bel.size))) m1 m2)
      have HRB := Lib.hid (fun (x : BW w7) => rests_any b B1 k1 d1 B2 k2 d2 d (wof x) (H3.out.below ((HF9).out.bel.trans ((wof_below x).mono (HF9).out.bel.size))) (H4.out.below ((HF9).out.bel.trans ((wof_below x).mono (HF9).out.bel.size))) m3 m4)
      have T1 : decide ((bothV a b).rest = (bothV a b).rest) = true := decide_eq_true rfl
      have T2 : decide ((bothV a b).hol = (bothV a b).hol) = true := decide_eq_true rfl
      have S1 := Lib.hid (fun (x : BW w7) => same_any E1 x1 y1 (bothV a b).rest none 0 0 (bothV a b).rest (wof x) ((HF9).out.s1.below (wof_below x)) ((HF9).out.s5.below (wof_below x)) (by unfold maxLen; omega) (by unfold maxLen; omega))
      have S2 := Lib.hid (fun (x : BW w7) => same_any E2 x2 y2 (bothV a b).hol none 0 0 (bothV a b).hol (wof x) ((HF9).out.s2.below (wof_below x)) ((HF9).out.s6.below (wof_below x)) (by unfold maxLen; omega) (by unfold maxLen; omega))
      have S3 := Lib.hid (fun (x : BW w7) => same_any F1 u1 v1 (bothV a b).rest none 0 0 (bothV a b).rest (wof x) (by have := (HF9).out.s3.below (wof_below x); rw [both_comm b a] at this; exact this) ((HF9).out.s5.below (wof_below x)) (by unfold maxLen; omega) (by unfold maxLen; omega))
      have S4 := Lib.hid (fun (x : BW w7) => same_any F2 u2 v2 (bothV a b).hol none 0 0 (bothV a b).hol (wof x) (by have := (HF9).out.s4.below (wof_below x); rw [both_comm b a] at this; exact this) ((HF9).out.s6.below (wof_below x)) (by unfold maxLen; omega) (by unfold maxLen; omega))
      rw [T1] at S1 S3
      rw [T2] at S2 S4
      obtain ⟨RA, hRA⟩ : ∃ r, (isDayB d && restB a d) = r := ⟨_, rfl⟩
      obtain ⟨RB, hRB⟩ : ∃ r, (isDayB d && restB b d) = r := ⟨_, rfl⟩
      have hRC : (isDayB d && restB (bothV a b) d) = (RA || RB) := by
        rw [EBR.out, ← hRA, ← hRB]
        cases isDayB d <;> rfl
      rw [hRC] at HR7
      rw [hRA] at HRA
      rw [hRB] at HRB
      clear hRA hRB hRC T1 T2
      have BEL := Lib.hid (HF9).out.bel
      have p0 := wof_cell (show (w7).cell? ⟨g7, 0, none⟩ = some (.slice E1 x1 y1) from (HF9).out.k7.cell 0)
      have p1' := wof_cell (show (w7).cell? ⟨g7, 1, none⟩ = some (.slice E2 x2 y2) from (HF9).out.k7.cell 1)
      have p2' := wof_cell (show (w7).cell? ⟨g8, 0, none⟩ = some (.slice F1 u1 v1) from (HF9).out.k8.cell 0)
      have p3 := wof_cell (show (w7).cell? ⟨g8, 1, none⟩ = some (.slice F2 u2 v2) from (HF9).out.k8.cell 1)
      have p4 := wof_cell (show (w7).cell? ⟨g9, 0, none⟩ = some (.slice none 0 0) from (HF9).out.k9.cell 0)
      have p5 := wof_cell (show (w7).cell? ⟨g9, 1, none⟩ = some (.slice none 0 0) from (HF9).out.k9.cell 1)
      have p6 := wof_cell (show (w7).cell? ⟨w.heap.size, 0, none⟩ = some (.slice A1 n1 c1) from (HF9).out.ka.cell 0)
      have p7 := wof_cell (show (w7).cell? ⟨w.heap.size, 1, none⟩ = some (.slice A2 n2 c2) from (HF9).out.ka.cell 1)
      have p8 := wof_cell (show (w7).cell? ⟨w.heap.size + 1, 0, none⟩ = some (.slice B1 k1 d1) from (HF9).out.kb.cell 0)
      have p9 := wof_cell (show (w7).cell? ⟨w.heap.size + 1, 1, none⟩ = some (.slice B2 k2 d2) from (HF9).out.kb.cell 1)
      cases RA
      all_goals
        go_wp2_with fail
        refine wp_region_quiet_below (by kernel_rfl) (by kernel_rfl) ?_
        repeat (go_big_quiet_step ((first | (go_at_call 36; first | (with_reducible exact quiet_below (S1.out _)) | (with_reducible exact quiet_below (S2.out _)) | (with_reducible exact quiet_below (S3.out _)) | (with_reducible exact quiet_below (S4.out _))) | (go_at_call 25; first | (with_reducible exact quiet_below (HR7.out _)) | (with_reducible exact quiet_below (HRA.out _)) | (with_reducible exact quiet_below (HRB.out _))))))
        refine wpQuiet_nil ?_
        intro wz hbz
        go_wp2_with fail
        go_ret
        exact ⟨ret_bool (by simp), BEL.out.trans (hbz.mono BEL.out.size)⟩
    · have ea : goodC a = ⟨[], []⟩ := by unfold goodC; rw [ma]; rfl
      have eb : goodC b = b := by unfold goodC; rw [mb]; exact if_pos rfl
      have e1 : Hid (mrg [] b.rest = (bothV a b).rest) := Lib.hid (by unfold bothV; rw [ea, eb])
      have e2 : Hid (mrg [] b.hol = (bothV a b).hol) := Lib.hid (by unfold bothV; rw [ea, eb])
      clear ma mb ea eb
      go_wp2_with fail
      refine (HM.out _ HF.out.bel).mono ?_
      rintro e w5 ⟨rfl, hb5⟩
      have HF5 := Lib.hid (HF.out.below hb5)
      clear a0 a1 b0 b1 hb5
      have a0 := (HF5).out.ka.cell 0; have a1 := (HF5).out.ka.cell 1; have b0 := (HF5).out.kb.cell 0; have b1 := (HF5).out.kb.cell 1; have z0 := (HF5).out.k9.cell 0; have z1 := (HF5).out.k9.cell 1
      simp only [List.getElem?_toArray, List.getElem?_cons_zero, List.getElem?_cons_succ] at a0 a1 b0 b1 z0 z1
      go_wp2_with fail
      refine (HN.out _ (HF5).out.bel).mono ?_
      rintro e w7 ⟨rfl, hb7⟩
      have HF7 := Lib.hid ((HF5).out.below hb7)
      clear a0 a1 b0 b1 z0 z1 hb7
      have a0 := (HF7).out.ka.cell 0; have a1 := (HF7).out.ka.cell 1; have b0 := (HF7).out.kb.cell 0; have b1 := (HF7).out.kb.cell 1; have z0 := (HF7).out.k9.cell 0; have z1 := (HF7).out.k9.cell 1
      simp only [List.getElem?_toArray, List.getElem?_cons_zero, List.getElem?_cons_succ] at a0 a1 b0 b1 z0 z1
      go_wp2_with fail
      refine wp_region_book (RJ (fun W' => Fv w w.heap.size (w.heap.size + 1) g7 g8 g9 #[.slice A1 n1 c1, .slice A2 n2 c2] #[.slice B1 k1 d1, .slice B2 k2 d2] #[.slice E1 x1 y1, .slice E2 x2 y2] #[.slice F1 u1 v1, .slice F2 u2 v2] #[.slice none 0 0, .slice none 0 0] E1 x1 E2 x2 F1 u1 F2 u2 (bothV a b) (bothV b a) none 0 none 0 [] [] W') (fun x y W' => ∃ (Q1 : Option Addr) (q1 r1 : Nat) (Q2 : Option Addr) (q2 r2 : Nat), x = .slice Q1 q1 r1 ∧ y = .slice Q2 q2 r2 ∧ Fv w w.heap.size (w.heap.size + 1) g7 g8 g9 #[.slice A1 n1 c1, .slice A2 n2 c2] #[.slice B1 k1 d1, .slice B2 k2 d2] #[.slice E1 x1 y1, .slice E2 x2 y2] #[.slice F1 u1 v1, .slice F2 u2 v2] #[.slice Q1 q1 r1, .slice Q2 q2 r2] E1 x1 E2 x2 F1 u1 F2 u2 (bothV a b) (bothV b a) Q1 q1 Q2 q2 (mrg [] b.rest) (mrg [] b.hol) W' ∧ q1 ≤ 40 ∧ q2 ≤ 120) (w.heap.size + 1) g9 (.slice none 0 0) (.slice B1 k1 d1) (.slice none 0 0) (.slice B2 k2 d2) (mrg [] b.rest) (mrg [] b.hol) 40 120) (by kernel_rfl) (by kernel_rfl) ?_ ?_ ?_
      · exact ⟨fun _ => (HF7).out.below (below_drewN (Below.refl _ _) 1), Cst.none_ _ _, Chain.none_ _, fun h => (by cases h), fun h => (by cases h), fun h => (by cases h), fun h => (by cases h)⟩
      · refine ⟨?_, ?_, ?_, ?_, ?_, ?_, ?_, ?_, ?_, ?_, ?_, ?_, trivial⟩
        all_goals intro done vs ac W1 hnd hdep hJ hE hsz
        all_goals simp [Region.binds] at hdep
        · have e : ac.eval (.tmp 9) = .pointer (some ⟨g9, 0, none⟩) := (hE 9 (by simp)).trans (by simp [evF, Act.eval])
          exact wp_value (.pointer (some ⟨g9, 0, none⟩)) (by unfold execOp; simp only [e]; kernel_rfl) ⟨_, rfl, hJ.fixed hnd (by simp) (by simp; try simp_all)⟩
        · have e : ac.eval (.tmp 30) = .pointer (some ⟨g9, 0, none⟩) := (hE 30 (by simp)).trans (by simp [evF, hdep, hJ.c (0, .pointer (some ⟨g9, 0, none⟩)) (by simp) hdep])
          (have hc : W1.cell? ⟨g9, 0, none⟩ = some (.slice none 0 0) := (hJ.inv (hJ.off hnd (by omega))).k9.cell 0; exact wp_value (.slice none 0 0) (by unfold execOp; simp only [e]; go_simp) ⟨_, rfl, hJ.fixed hnd (by simp) (by simp; try simp_all)⟩)
        · have e : ac.eval (.tmp 4) = .pointer (some ⟨w.heap.size + 1, 0, none⟩) := (hE 4 (by simp)).trans (by simp [evF, Act.eval])
          exact wp_value (.pointer (some ⟨w.heap.size + 1, 0, none⟩)) (by unfold execOp; simp only [e]; kernel_rfl) ⟨_, rfl, hJ.fixed hnd (by simp) (by simp; try simp_all)⟩
        · have e : ac.eval (.tmp 32) = .pointer (some ⟨w.heap.size + 1, 0, none⟩) := (hE 32 (by simp)).trans (by simp [evF, hdep, hJ.c (2, .pointer (some ⟨w.heap.size + 1, 0, none⟩)) (by simp) hdep])
          (have hc : W1.cell? ⟨w.heap.size + 1, 0, none⟩ = some (.slice B1 k1 d1) := (hJ.inv (hJ.off hnd (by omega))).kb.cell 0; exact wp_value (.slice B1 k1 d1) (by unfold execOp; simp only [e]; go_simp) ⟨_, rfl, hJ.fixed hnd (by simp) (by simp; try simp_all)⟩)
        · have HS := hJ.inv (hJ.off hnd (by omega))
          have e : ac.eval (.tmp 31) = .slice none 0 0 := (hE 31 (by simp)).trans (by simp [evF, hdep, hJ.c (1, .slice none 0 0) (by simp) hdep.1])
          have e' : ac.eval (.tmp 33) = .slice B1 k1 d1 := (hE 33 (by simp)).trans (by simp [evF, hdep, hJ.c (3, .slice B1 k1 d1) (by simp) hdep.2])
          refine wp_call_fn 35 _ _ rfl (enters_fn Tryd.func35 (by kernel_rfl) rfl) #[.slice none 0 0, .slice B1 k1 d1] (by simp [e, e']) ?_
          refine (rboth_any none 0 0 [] B1 k1 d1 b.rest W1 HS.s5 (H3.out.below HS.bel) (by omega) (by omega)).mono ?_
          rintro e9 w9 ⟨Q, q, r, rfl, t1, t2, hb⟩
          exact ⟨_, rfl, _, rfl, hJ.call4 hnd hdep.1 hdep.2 (HS.below hb) hb ⟨Q, q, r, rfl, t1, by omega⟩⟩
        · have e : ac.eval (.tmp 9) = .pointer (some ⟨g9, 0, none⟩) := (hE 9 (by simp)).trans (by simp [evF, Act.eval])
          exact wp_value (.pointer (some ⟨g9, 1, none⟩)) (by unfold execOp; simp only [e]; kernel_rfl) ⟨_, rfl, hJ.fixed hnd (by simp) (by simp; try simp_all)⟩
        · have e : ac.eval (.tmp 35) = .pointer (some ⟨g9, 1, none⟩) := (hE 35 (by simp)).trans (by simp [evF, hdep, hJ.c (5, .pointer (some ⟨g9, 1, none⟩)) (by simp) hdep])
          (have hc : W1.cell? ⟨g9, 1, none⟩ = some (.slice none 0 0) := (hJ.inv (hJ.off hnd (by omega))).k9.cell 1; exact wp_value (.slice none 0 0) (by unfold execOp; simp only [e]; go_simp) ⟨_, rfl, hJ.fixed hnd (by simp) (by simp; try simp_all)⟩)
        · have e : ac.eval (.tmp 4) = .pointer (some ⟨w.heap.size + 1, 0, none⟩) := (hE 4 (by simp)).trans (by simp [evF, Act.eval])
          exact wp_value (.pointer (some ⟨w.heap.size + 1, 1, none⟩)) (by unfold execOp; simp only [e]; kernel_rfl) ⟨_, rfl, hJ.fixed hnd (by simp) (by simp; try simp_all)⟩
        · have e : ac.eval (.tmp 37) = .pointer (some ⟨w.heap.size + 1, 1, none⟩) := (hE 37 (by simp)).trans (by simp [evF, hdep, hJ.c (7, .pointer (some ⟨w.heap.size + 1, 1, none⟩)) (by simp) hdep])
          (have hc : W1.cell? ⟨w.heap.size + 1, 1, none⟩ = some (.slice B2 k2 d2) := (hJ.inv (hJ.off hnd (by omega))).kb.cell 1; exact wp_value (.slice B2 k2 d2) (by unfold execOp; simp only [e]; go_simp) ⟨_, rfl, hJ.fixed hnd (by simp) (by simp; try simp_all)⟩)
        · have HS := hJ.inv (hJ.off hnd (by omega))
          have e : ac.eval (.tmp 36) = .slice none 0 0 := (hE 36 (by simp)).trans (by simp [evF, hdep, hJ.c (6, .slice none 0 0) (by simp)])
          have e' : ac.eval (.tmp 38) = .slice B2 k2 d2 := (hE 38 (by simp)).trans (by simp [evF, hdep, hJ.c (8, .slice B2 k2 d2) (by simp)])
          refine wp_call_fn 35 _ _ rfl (enters_fn Tryd.func35 (by kernel_rfl) rfl) #[.slice none 0 0, .slice B2 k2 d2] (by simp [e, e']) ?_
          refine (rboth_any none 0 0 [] B2 k2 d2 b.hol W1 HS.s6 (H4.out.below HS.bel) (by omega) (by omega)).mono ?_
          rintro e9 w9 ⟨Q, q, r, rfl, t1, t2, hb⟩
          exact ⟨_, rfl, _, rfl, hJ.call9 hnd (by simp [hdep]) (by simp [hdep]) (HS.below hb) hb ⟨Q, q, r, rfl, t1, by omega⟩⟩
        · have h11 := hJ.off hnd (by omega)
          obtain ⟨A, n, k, q1, q2, q3⟩ := hJ.r4 (by simp [hdep]) h11
          obtain ⟨A', n', k', u1, u2, u3⟩ := hJ.r9 (by simp [hdep]) h11
          have hb := hJ.build hnd (by simp [hdep]) (by simp [hdep])
          rw [q1, u1] at hb
          have e : ac.eval (.tmp 34) = .slice A n k := (hE 34 (by simp)).trans (by simp [evF, hdep, q1])
          have e' : ac.eval (.tmp 39) = .slice A' n' k' := (hE 39 (by simp)).trans (by simp [evF, hdep, u1])
          exact wp_value (.agg #[.slice A n k, .slice A' n' k']) (by unfold execOp; simp [e, e']; kernel_rfl) ⟨_, rfl, hb⟩
        · have HS := hJ.inv hnd
          have d10 : done 10 = true := by simp [hdep]
          have d4 := hJ.e (10, 4) (by simp) d10
          have d9 := hJ.e (10, 9) (by simp) d10
          obtain ⟨A, n, k, q1, q2, q3⟩ := hJ.r4 d4 hnd
          obtain ⟨A', n', k', u1, u2, u3⟩ := hJ.r9 d9 hnd
          have r10 := hJ.r10 d10
          rw [q1, u1] at r10
          have e : ac.eval (.tmp 9) = .pointer (some ⟨g9, 0, none⟩) := (hE 9 (by simp)).trans (by simp [evF, Act.eval])
          have e' : ac.eval (.tmp 40) = .agg #[.slice A n k, .slice A' n' k'] := (hE 40 (by simp)).trans (by simp [evF, d10, r10])
          exact wp_store_row 31 _ _ rfl g9 _ e e' 31 _ HS.k9 (by kernel_rfl) rfl (by simp [Value.oneCell']) ⟨_, rfl, hJ.store d10 ⟨A, n, k, A', n', k', q1, u1, HS.put rfl q2 u2 lw na nb n7 n8 (setRow_heap W1 g9 _ _ _ (0, 0) HS.k9) (fun k t' cs hk hb => (setRow_other W1 g9 k _ hk).trans hb) (by simp [World.setRow]) (fun p hp => cell_setRow W1 g9 _ p hp) (fun B w0 hb hB => hb.trans ⟨rfl, rfl, rfl, by simp [World.setRow], fun j hj => setRow_other W1 g9 j _ (by omega)⟩), q3, u3⟩⟩
      · intro done vs W1 hall hJ
        obtain ⟨Q1, q1, r1, Q2, q2, r2, hq1, hq2, hF9, l5, l6⟩ := hJ.f (hall 11 (by simp))
        have HF9 := Lib.hid hF9
        simp only [fillA, Act.put, List.setIfInBounds_toArray, List.set_cons_zero, List.set_cons_succ, if_true]
        clear hJ hall hq1 hq2 hF9 a0 a1 b0 b1 z0 z1
        rw [e1.out, e2.out] at HF9
        have HR7 := Lib.hid (fun (x : BW W1) => rests_any (bothV a b) E1 x1 y1 E2 x2 y2 d (wof x) ((HF9).out.s1.below (wof_below x)) ((HF9).out.s2.below (wof_below x)) (by unfold maxLen; omega) (by unfold maxLen; omega))
        have HRA := Lib.hid (fun (x : BW W1) => rests_any a A1 n1 c1 A2 n2 c2 d (wof x) (H1.out.below ((HF9).out.bel.trans ((wof_below x).mono (HF9).out.bel.size))) (H2.out.below ((HF9).out.bel.trans ((wof_below x).mono (HF9).out.bel.size))) m1 m2)
        have HRB := Lib.hid (fun (x : BW W1) => rests_any b B1 k1 d1 B2 k2 d2 d (wof x) (H3.out.below ((HF9).out.bel.trans ((wof_below x).mono (HF9).out.bel.size))) (H4.out.below ((HF9).out.bel.trans ((wof_below x).mono (HF9).out.bel.size))) m3 m4)
        have T1 : decide ((bothV a b).rest = (bothV a b).rest) = true := decide_eq_true rfl
        have T2 : decide ((bothV a b).hol = (bothV a b).hol) = true := decide_eq_true rfl
        have S1 := Lib.hid (fun (x : BW W1) => same_any E1 x1 y1 (bothV a b).rest Q1 q1 r1 (bothV a b).rest (wof x) ((HF9).out.s1.below (wof_below x)) ((HF9).out.s5.below (wof_below x)) (by unfold maxLen; omega) (by unfold maxLen; omega))
        have S2 := Lib.hid (fun (x : BW W1) => same_any E2 x2 y2 (bothV a b).hol Q2 q2 r2 (bothV a b).hol (wof x) ((HF9).out.s2.below (wof_below x)) ((HF9).out.s6.below (wof_below x)) (by unfold maxLen; omega) (by unfold maxLen; omega))
        have S3 := Lib.hid (fun (x : BW W1) => same_any F1 u1 v1 (bothV a b).rest Q1 q1 r1 (bothV a b).rest (wof x) (by have := (HF9).out.s3.below (wof_below x); rw [both_comm b a] at this; exact this) ((HF9).out.s5.below (wof_below x)) (by unfold maxLen; omega) (by unfold maxLen; omega))
        have S4 := Lib.hid (fun (x : BW W1) => same_any F2 u2 v2 (bothV a b).hol Q2 q2 r2 (bothV a b).hol (wof x) (by have := (HF9).out.s4.below (wof_below x); rw [both_comm b a] at this; exact this) ((HF9).out.s6.below (wof_below x)) (by unfold maxLen; omega) (by unfold maxLen; omega))
        rw [T1] at S1 S3
        rw [T2] at S2 S4
        obtain ⟨RA, hRA⟩ : ∃ r, (isDayB d && restB a d) = r := ⟨_, rfl⟩
        obtain ⟨RB, hRB⟩ : ∃ r, (isDayB d && restB b d) = r := ⟨_, rfl⟩
        have hRC : (isDayB d && restB (bothV a b) d) = (RA || RB) := by
          rw [EBR.out, ← hRA, ← hRB]
          cases isDayB d <;> rfl
        rw [hRC] at HR7
        rw [hRA] at HRA
        rw [hRB] at HRB
        clear hRA hRB hRC T1 T2
        have BEL := Lib.hid (HF9).out.bel
        have p0 := wof_cell (show (W1).cell? ⟨g7, 0, none⟩ = some (.slice E1 x1 y1) from (HF9).out.k7.cell 0)
        have p1' := wof_cell (show (W1).cell? ⟨g7, 1, none⟩ = some (.slice E2 x2 y2) from (HF9).out.k7.cell 1)
        have p2' := wof_cell (show (W1).cell? ⟨g8, 0, none⟩ = some (.slice F1 u1 v1) from (HF9).out.k8.cell 0)
        have p3 := wof_cell (show (W1).cell? ⟨g8, 1, none⟩ = some (.slice F2 u2 v2) from (HF9).out.k8.cell 1)
        have p4 := wof_cell (show (W1).cell? ⟨g9, 0, none⟩ = some (.slice Q1 q1 r1) from (HF9).out.k9.cell 0)
        have p5 := wof_cell (show (W1).cell? ⟨g9, 1, none⟩ = some (.slice Q2 q2 r2) from (HF9).out.k9.cell 1)
        have p6 := wof_cell (show (W1).cell? ⟨w.heap.size, 0, none⟩ = some (.slice A1 n1 c1) from (HF9).out.ka.cell 0)
        have p7 := wof_cell (show (W1).cell? ⟨w.heap.size, 1, none⟩ = some (.slice A2 n2 c2) from (HF9).out.ka.cell 1)
        have p8 := wof_cell (show (W1).cell? ⟨w.heap.size + 1, 0, none⟩ = some (.slice B1 k1 d1) from (HF9).out.kb.cell 0)
        have p9 := wof_cell (show (W1).cell? ⟨w.heap.size + 1, 1, none⟩ = some (.slice B2 k2 d2) from (HF9).out.kb.cell 1)
        cases RA
        all_goals
          go_wp2_with fail
          refine wp_region_quiet_below (by kernel_rfl) (by kernel_rfl) ?_
          repeat (go_big_quiet_step ((first | (go_at_call 36; first | (with_reducible exact quiet_below (S1.out _)) | (with_reducible exact quiet_below (S2.out _)) | (with_reducible exact quiet_below (S3.out _)) | (with_reducible exact quiet_below (S4.out _))) | (go_at_call 25; first | (with_reducible exact quiet_below (HR7.out _)) | (with_reducible exact quiet_below (HRA.out _)) | (with_reducible exact quiet_below (HRB.out _))))))
          refine wpQuiet_nil ?_
          intro wz hbz
          go_wp2_with fail
          go_ret
          exact ⟨ret_bool (by simp), BEL.out.trans (hbz.mono BEL.out.size)⟩
    · have ea : goodC a = a := by unfold goodC; rw [ma]; exact if_pos rfl
      have eb : goodC b = ⟨[], []⟩ := by unfold goodC; rw [mb]; rfl
      have e1 : Hid ((bothV a b).rest = a.rest) := Lib.hid (by unfold bothV; rw [ea, eb]; exact mrg_nil2 _)
      have e2 : Hid ((bothV a b).hol = a.hol) := Lib.hid (by unfold bothV; rw [ea, eb]; exact mrg_nil2 _)
      clear ma mb ea eb
      go_wp2_with fail
      refine (HM.out _ HF.out.bel).mono ?_
      rintro e w5 ⟨rfl, hb5⟩
      have HF5 := Lib.hid (HF.out.below hb5)
      clear a0 a1 b0 b1 hb5
      have a0 := (HF5).out.ka.cell 0; have a1 := (HF5).out.ka.cell 1; have b0 := (HF5).out.kb.cell 0; have b1 := (HF5).out.kb.cell 1; have z0 := (HF5).out.k9.cell 0; have z1 := (HF5).out.k9.cell 1
      simp only [List.getElem?_toArray, List.getElem?_cons_zero, List.getElem?_cons_succ] at a0 a1 b0 b1 z0 z1
      go_wp2_with (refine stop_store 31 _ _ rfl ?_; refine wpList_store_cal rfl 31 _ _ rfl #[.slice A1 n1 c1, .slice A2 n2 c2] rfl rfl HF5.out.k9 (by kernel_rfl) rfl rfl ?_; intro w6 hn kn sn cn bn; have HF6 := Lib.hid (HF5.out.put rfl (H1.out.below HF5.out.bel) (H2.out.below HF5.out.bel) lw na nb n7 n8 hn kn sn cn bn); clear hn kn sn cn bn a0 a1 b0 b1 z0 z1; have a0 := HF6.out.ka.cell 0; have a1 := HF6.out.ka.cell 1; have b0 := HF6.out.kb.cell 0; have b1 := HF6.out.kb.cell 1; have z0 := HF6.out.k9.cell 0; have z1 := HF6.out.k9.cell 1; simp only [List.getElem?_toArray, List.getElem?_cons_zero, List.getElem?_cons_succ] at a0 a1 b0 b1 z0 z1)
      refine (HN.out _ (HF6).out.bel).mono ?_
      rintro e w7 ⟨rfl, hb7⟩
      have HF7 := Lib.hid ((HF6).out.below hb7)
      clear a0 a1 b0 b1 z0 z1 hb7
      have a0 := (HF7).out.ka.cell 0; have a1 := (HF7).out.ka.cell 1; have b0 := (HF7).out.kb.cell 0; have b1 := (HF7).out.kb.cell 1; have z0 := (HF7).out.k9.cell 0; have z1 := (HF7).out.k9.cell 1
      simp only [List.getElem?_toArray, List.getElem?_cons_zero, List.getElem?_cons_succ] at a0 a1 b0 b1 z0 z1
      have HF9 : Hid (Fv w w.heap.size (w.heap.size + 1) g7 g8 g9 #[.slice A1 n1 c1, .slice A2 n2 c2] #[.slice B1 k1 d1, .slice B2 k2 d2] #[.slice E1 x1 y1, .slice E2 x2 y2] #[.slice F1 u1 v1, .slice F2 u2 v2] #[.slice A1 n1 c1, .slice A2 n2 c2] E1 x1 E2 x2 F1 u1 F2 u2 (bothV a b) (bothV b a) A1 n1 A2 n2 ((bothV a b).rest) ((bothV a b).hol) w7) := Lib.hid (by rw [e1.out, e2.out]; exact HF7.out)
      clear HF7 a0 a1 b0 b1 z0 z1
      have HR7 := Lib.hid (fun (x : BW w7) => rests_any (bothV a b) E1 x1 y1 E2 x2 y2 d (wof x) ((HF9).out.s1.below (wof_below x)) ((HF9).out.s2.below (wof_below x)) (by unfold maxLen; omega) (by unfold maxLen; omega))
      have HRA := Lib.hid (fun (x : BW w7) => rests_any a A1 n1 c1 A2 n2 c2 d (wof x) (H1.out.below ((HF9).out.bel.trans ((wof_below x).mono (HF9).out.bel.size))) (H2.out.below ((HF9).out.bel.trans ((wof_below x).mono (HF9).out.bel.size))) m1 m2)
      have HRB := Lib.hid (fun (x : BW w7) => rests_any b B1 k1 d1 B2 k2 d2 d (wof x) (H3.out.below ((HF9).out.bel.trans ((wof_below x).mono (HF9).out.bel.size))) (H4.out.below ((HF9).out.bel.trans ((wof_below x).mono (HF9).out.bel.size))) m3 m4)
      have T1 : decide ((bothV a b).rest = (bothV a b).rest) = true := decide_eq_true rfl
      have T2 : decide ((bothV a b).hol = (bothV a b).hol) = true := decide_eq_true rfl
      have S1 := Lib.hid (fun (x : BW w7) => same_any E1 x1 y1 (bothV a b).rest A1 n1 c1 (bothV a b).rest (wof x) ((HF9).out.s1.below (wof_below x)) ((HF9).out.s5.below (wof_below x)) (by unfold maxLen; omega) (by unfold maxLen; omega))
      have S2 := Lib.hid (fun (x : BW w7) => same_any E2 x2 y2 (bothV a b).hol A2 n2 c2 (bothV a b).hol (wof x) ((HF9).out.s2.below (wof_below x)) ((HF9).out.s6.below (wof_below x)) (by unfold maxLen; omega) (by unfold maxLen; omega))
      have S3 := Lib.hid (fun (x : BW w7) => same_any F1 u1 v1 (bothV a b).rest A1 n1 c1 (bothV a b).rest (wof x) (by have := (HF9).out.s3.below (wof_below x); rw [both_comm b a] at this; exact this) ((HF9).out.s5.below (wof_below x)) (by unfold maxLen; omega) (by unfold maxLen; omega))
      have S4 := Lib.hid (fun (x : BW w7) => same_any F2 u2 v2 (bothV a b).hol A2 n2 c2 (bothV a b).hol (wof x) (by have := (HF9).out.s4.below (wof_below x); rw [both_comm b a] at this; exact this) ((HF9).out.s6.below (wof_below x)) (by unfold maxLen; omega) (by unfold maxLen; omega))
      rw [T1] at S1 S3
      rw [T2] at S2 S4
      obtain ⟨RA, hRA⟩ : ∃ r, (isDayB d && restB a d) = r := ⟨_, rfl⟩
      obtain ⟨RB, hRB⟩ : ∃ r, (isDayB d && restB b d) = r := ⟨_, rfl⟩
      have hRC : (isDayB d && restB (bothV a b) d) = (RA || RB) := by
        rw [EBR.out, ← hRA, ← hRB]
        cases isDayB d <;> rfl
      rw [hRC] at HR7
      rw [hRA] at HRA
      rw [hRB] at HRB
      clear hRA hRB hRC T1 T2
      have BEL := Lib.hid (HF9).out.bel
      have p0 := wof_cell (show (w7).cell? ⟨g7, 0, none⟩ = some (.slice E1 x1 y1) from (HF9).out.k7.cell 0)
      have p1' := wof_cell (show (w7).cell? ⟨g7, 1, none⟩ = some (.slice E2 x2 y2) from (HF9).out.k7.cell 1)
      have p2' := wof_cell (show (w7).cell? ⟨g8, 0, none⟩ = some (.slice F1 u1 v1) from (HF9).out.k8.cell 0)
      have p3 := wof_cell (show (w7).cell? ⟨g8, 1, none⟩ = some (.slice F2 u2 v2) from (HF9).out.k8.cell 1)
      have p4 := wof_cell (show (w7).cell? ⟨g9, 0, none⟩ = some (.slice A1 n1 c1) from (HF9).out.k9.cell 0)
      have p5 := wof_cell (show (w7).cell? ⟨g9, 1, none⟩ = some (.slice A2 n2 c2) from (HF9).out.k9.cell 1)
      have p6 := wof_cell (show (w7).cell? ⟨w.heap.size, 0, none⟩ = some (.slice A1 n1 c1) from (HF9).out.ka.cell 0)
      have p7 := wof_cell (show (w7).cell? ⟨w.heap.size, 1, none⟩ = some (.slice A2 n2 c2) from (HF9).out.ka.cell 1)
      have p8 := wof_cell (show (w7).cell? ⟨w.heap.size + 1, 0, none⟩ = some (.slice B1 k1 d1) from (HF9).out.kb.cell 0)
      have p9 := wof_cell (show (w7).cell? ⟨w.heap.size + 1, 1, none⟩ = some (.slice B2 k2 d2) from (HF9).out.kb.cell 1)
      cases RA
      all_goals
        go_wp2_with fail
        refine wp_region_quiet_below (by kernel_rfl) (by kernel_rfl) ?_
        repeat (go_big_quiet_step ((first | (go_at_call 36; first | (with_reducible exact quiet_below (S1.out _)) | (with_reducible exact quiet_below (S2.out _)) | (with_reducible exact quiet_below (S3.out _)) | (with_reducible exact quiet_below (S4.out _))) | (go_at_call 25; first | (with_reducible exact quiet_below (HR7.out _)) | (with_reducible exact quiet_below (HRA.out _)) | (with_reducible exact quiet_below (HRB.out _))))))
        refine wpQuiet_nil ?_
        intro wz hbz
        go_wp2_with fail
        go_ret
        exact ⟨ret_bool (by simp), BEL.out.trans (hbz.mono BEL.out.size)⟩
    · have ea : goodC a = a := by unfold goodC; rw [ma]; exact if_pos rfl
      have eb : goodC b = b := by unfold goodC; rw [mb]; exact if_pos rfl
      have e1 : Hid (mrg a.rest b.rest = (bothV a b).rest) := Lib.hid (by unfold bothV; rw [ea, eb])
      have e2 : Hid (mrg a.hol b.hol = (bothV a b).hol) := Lib.hid (by unfold bothV; rw [ea, eb])
      clear ma mb ea eb
      go_wp2_with fail
      refine (HM.out _ HF.out.bel).mono ?_
      rintro e w5 ⟨rfl, hb5⟩
      have HF5 := Lib.hid (HF.out.below hb5)
      clear a0 a1 b0 b1 hb5
      have a0 := (HF5).out.ka.cell 0; have a1 := (HF5).out.ka.cell 1; have b0 := (HF5).out.kb.cell 0; have b1 := (HF5).out.kb.cell 1; have z0 := (HF5).out.k9.cell 0; have z1 := (HF5).out.k9.cell 1
      simp only [List.getElem?_toArray, List.getElem?_cons_zero, List.getElem?_cons_succ] at a0 a1 b0 b1 z0 z1
      go_wp2_with (refine stop_store 31 _ _ rfl ?_; refine wpList_store_cal rfl 31 _ _ rfl #[.slice A1 n1 c1, .slice A2 n2 c2] rfl rfl HF5.out.k9 (by kernel_rfl) rfl rfl ?_; intro w6 hn kn sn cn bn; have HF6 := Lib.hid (HF5.out.put rfl (H1.out.below HF5.out.bel) (H2.out.below HF5.out.bel) lw na nb n7 n8 hn kn sn cn bn); clear hn kn sn cn bn a0 a1 b0 b1 z0 z1; have a0 := HF6.out.ka.cell 0; have a1 := HF6.out.ka.cell 1; have b0 := HF6.out.kb.cell 0; have b1 := HF6.out.kb.cell 1; have z0 := HF6.out.k9.cell 0; have z1 := HF6.out.k9.cell 1; simp only [List.getElem?_toArray, List.getElem?_cons_zero, List.getElem?_cons_succ] at a0 a1 b0 b1 z0 z1)
      refine (HN.out _ (HF6).out.bel).mono ?_
      rintro e w7 ⟨rfl, hb7⟩
      have HF7 := Lib.hid ((HF6).out.below hb7)
      clear a0 a1 b0 b1 z0 z1 hb7
      have a0 := (HF7).out.ka.cell 0; have a1 := (HF7).out.ka.cell 1; have b0 := (HF7).out.kb.cell 0; have b1 := (HF7).out.kb.cell 1; have z0 := (HF7).out.k9.cell 0; have z1 := (HF7).out.k9.cell 1
      simp only [List.getElem?_toArray, List.getElem?_cons_zero, List.getElem?_cons_succ] at a0 a1 b0 b1 z0 z1
      go_wp2_with fail
      refine wp_region_book (RJ (fun W' => Fv w w.heap.size (w.heap.size + 1) g7 g8 g9 #[.slice A1 n1 c1, .slice A2 n2 c2] #[.slice B1 k1 d1, .slice B2 k2 d2] #[.slice E1 x1 y1, .slice E2 x2 y2] #[.slice F1 u1 v1, .slice F2 u2 v2] #[.slice A1 n1 c1, .slice A2 n2 c2] E1 x1 E2 x2 F1 u1 F2 u2 (bothV a b) (bothV b a) A1 n1 A2 n2 a.rest a.hol W') (fun x y W' => ∃ (Q1 : Option Addr) (q1 r1 : Nat) (Q2 : Option Addr) (q2 r2 : Nat), x = .slice Q1 q1 r1 ∧ y = .slice Q2 q2 r2 ∧ Fv w w.heap.size (w.heap.size + 1) g7 g8 g9 #[.slice A1 n1 c1, .slice A2 n2 c2] #[.slice B1 k1 d1, .slice B2 k2 d2] #[.slice E1 x1 y1, .slice E2 x2 y2] #[.slice F1 u1 v1, .slice F2 u2 v2] #[.slice Q1 q1 r1, .slice Q2 q2 r2] E1 x1 E2 x2 F1 u1 F2 u2 (bothV a b) (bothV b a) Q1 q1 Q2 q2 (mrg a.rest b.rest) (mrg a.hol b.hol) W' ∧ q1 ≤ 40 ∧ q2 ≤ 120) (w.heap.size + 1) g9 (.slice A1 n1 c1) (.slice B1 k1 d1) (.slice A2 n2 c2) (.slice B2 k2 d2) (mrg a.rest b.rest) (mrg a.hol b.hol) 40 120) (by kernel_rfl) (by kernel_rfl) ?_ ?_ ?_
      · exact ⟨fun _ => (HF7).out.below (below_drewN (Below.refl _ _) 1), Cst.none_ _ _, Chain.none_ _, fun h => (by cases h), fun h => (by cases h), fun h => (by cases h), fun h => (by cases h)⟩
      · refine ⟨?_, ?_, ?_, ?_, ?_, ?_, ?_, ?_, ?_, ?_, ?_, ?_, trivial⟩
        all_goals intro done vs ac W1 hnd hdep hJ hE hsz
        all_goals simp [Region.binds] at hdep
        · have e : ac.eval (.tmp 9) = .pointer (some ⟨g9, 0, none⟩) := (hE 9 (by simp)).trans (by simp [evF, Act.eval])
          exact wp_value (.pointer (some ⟨g9, 0, none⟩)) (by unfold execOp; simp only [e]; kernel_rfl) ⟨_, rfl, hJ.fixed hnd (by simp) (by simp; try simp_all)⟩
        · have e : ac.eval (.tmp 30) = .pointer (some ⟨g9, 0, none⟩) := (hE 30 (by simp)).trans (by simp [evF, hdep, hJ.c (0, .pointer (some ⟨g9, 0, none⟩)) (by simp) hdep])
          (have hc : W1.cell? ⟨g9, 0, none⟩ = some (.slice A1 n1 c1) := (hJ.inv (hJ.off hnd (by omega))).k9.cell 0; exact wp_value (.slice A1 n1 c1) (by unfold execOp; simp only [e]; go_simp) ⟨_, rfl, hJ.fixed hnd (by simp) (by simp; try simp_all)⟩)
        · have e : ac.eval (.tmp 4) = .pointer (some ⟨w.heap.size + 1, 0, none⟩) := (hE 4 (by simp)).trans (by simp [evF, Act.eval])
          exact wp_value (.pointer (some ⟨w.heap.size + 1, 0, none⟩)) (by unfold execOp; simp only [e]; kernel_rfl) ⟨_, rfl, hJ.fixed hnd (by simp) (by simp; try simp_all)⟩
        · have e : ac.eval (.tmp 32) = .pointer (some ⟨w.heap.size + 1, 0, none⟩) := (hE 32 (by simp)).trans (by simp [evF, hdep, hJ.c (2, .pointer (some ⟨w.heap.size + 1, 0, none⟩)) (by simp) hdep])
          (have hc : W1.cell? ⟨w.heap.size + 1, 0, none⟩ = some (.slice B1 k1 d1) := (hJ.inv (hJ.off hnd (by omega))).kb.cell 0; exact wp_value (.slice B1 k1 d1) (by unfold execOp; simp only [e]; go_simp) ⟨_, rfl, hJ.fixed hnd (by simp) (by simp; try simp_all)⟩)
        · have HS := hJ.inv (hJ.off hnd (by omega))
          have e : ac.eval (.tmp 31) = .slice A1 n1 c1 := (hE 31 (by simp)).trans (by simp [evF, hdep, hJ.c (1, .slice A1 n1 c1) (by simp) hdep.1])
          have e' : ac.eval (.tmp 33) = .slice B1 k1 d1 := (hE 33 (by simp)).trans (by simp [evF, hdep, hJ.c (3, .slice B1 k1 d1) (by simp) hdep.2])
          refine wp_call_fn 35 _ _ rfl (enters_fn Tryd.func35 (by kernel_rfl) rfl) #[.slice A1 n1 c1, .slice B1 k1 d1] (by simp [e, e']) ?_
          refine (rboth_any A1 n1 c1 a.rest B1 k1 d1 b.rest W1 HS.s5 (H3.out.below HS.bel) (by omega) (by omega)).mono ?_
          rintro e9 w9 ⟨Q, q, r, rfl, t1, t2, hb⟩
          exact ⟨_, rfl, _, rfl, hJ.call4 hnd hdep.1 hdep.2 (HS.below hb) hb ⟨Q, q, r, rfl, t1, by omega⟩⟩
        · have e : ac.eval (.tmp 9) = .pointer (some ⟨g9, 0, none⟩) := (hE 9 (by simp)).trans (by simp [evF, Act.eval])
          exact wp_value (.pointer (some ⟨g9, 1, none⟩)) (by unfold execOp; simp only [e]; kernel_rfl) ⟨_, rfl, hJ.fixed hnd (by simp) (by simp; try simp_all)⟩
        · have e : ac.eval (.tmp 35) = .pointer (some ⟨g9, 1, none⟩) := (hE 35 (by simp)).trans (by simp [evF, hdep, hJ.c (5, .pointer (some ⟨g9, 1, none⟩)) (by simp) hdep])
          (have hc : W1.cell? ⟨g9, 1, none⟩ = some (.slice A2 n2 c2) := (hJ.inv (hJ.off hnd (by omega))).k9.cell 1; exact wp_value (.slice A2 n2 c2) (by unfold execOp; simp only [e]; go_simp) ⟨_, rfl, hJ.fixed hnd (by simp) (by simp; try simp_all)⟩)
        · have e : ac.eval (.tmp 4) = .pointer (some ⟨w.heap.size + 1, 0, none⟩) := (hE 4 (by simp)).trans (by simp [evF, Act.eval])
          exact wp_value (.pointer (some ⟨w.heap.size + 1, 1, none⟩)) (by unfold execOp; simp only [e]; kernel_rfl) ⟨_, rfl, hJ.fixed hnd (by simp) (by simp; try simp_all)⟩
        · have e : ac.eval (.tmp 37) = .pointer (some ⟨w.heap.size + 1, 1, none⟩) := (hE 37 (by simp)).trans (by simp [evF, hdep, hJ.c (7, .pointer (some ⟨w.heap.size + 1, 1, none⟩)) (by simp) hdep])
          (have hc : W1.cell? ⟨w.heap.size + 1, 1, none⟩ = some (.slice B2 k2 d2) := (hJ.inv (hJ.off hnd (by omega))).kb.cell 1; exact wp_value (.slice B2 k2 d2) (by unfold execOp; simp only [e]; go_simp) ⟨_, rfl, hJ.fixed hnd (by simp) (by simp; try simp_all)⟩)
        · have HS := hJ.inv (hJ.off hnd (by omega))
          have e : ac.eval (.tmp 36) = .slice A2 n2 c2 := (hE 36 (by simp)).trans (by simp [evF, hdep, hJ.c (6, .slice A2 n2 c2) (by simp)])
          have e' : ac.eval (.tmp 38) = .slice B2 k2 d2 := (hE 38 (by simp)).trans (by simp [evF, hdep, hJ.c (8, .slice B2 k2 d2) (by simp)])
          refine wp_call_fn 35 _ _ rfl (enters_fn Tryd.func35 (by kernel_rfl) rfl) #[.slice A2 n2 c2, .slice B2 k2 d2] (by simp [e, e']) ?_
          refine (rboth_any A2 n2 c2 a.hol B2 k2 d2 b.hol W1 HS.s6 (H4.out.below HS.bel) (by omega) (by omega)).mono ?_
          rintro e9 w9 ⟨Q, q, r, rfl, t1, t2, hb⟩
          exact ⟨_, rfl, _, rfl, hJ.call9 hnd (by simp [hdep]) (by simp [hdep]) (HS.below hb) hb ⟨Q, q, r, rfl, t1, by omega⟩⟩
        · have h11 := hJ.off hnd (by omega)
          obtain ⟨A, n, k, q1, q2, q3⟩ := hJ.r4 (by simp [hdep]) h11
          obtain ⟨A', n', k', u1, u2, u3⟩ := hJ.r9 (by simp [hdep]) h11
          have hb := hJ.build hnd (by simp [hdep]) (by simp [hdep])
          rw [q1, u1] at hb
          have e : ac.eval (.tmp 34) = .slice A n k := (hE 34 (by simp)).trans (by simp [evF, hdep, q1])
          have e' : ac.eval (.tmp 39) = .slice A' n' k' := (hE 39 (by simp)).trans (by simp [evF, hdep, u1])
          exact wp_value (.agg #[.slice A n k, .slice A' n' k']) (by unfold execOp; simp [e, e']; kernel_rfl) ⟨_, rfl, hb⟩
        · have HS := hJ.inv hnd
          have d10 : done 10 = true := by simp [hdep]
          have d4 := hJ.e (10, 4) (by simp) d10
          have d9 := hJ.e (10, 9) (by simp) d10
          obtain ⟨A, n, k, q1, q2, q3⟩ := hJ.r4 d4 hnd
          obtain ⟨A', n', k', u1, u2, u3⟩ := hJ.r9 d9 hnd
          have r10 := hJ.r10 d10
          rw [q1, u1] at r10
          have e : ac.eval (.tmp 9) = .pointer (some ⟨g9, 0, none⟩) := (hE 9 (by simp)).trans (by simp [evF, Act.eval])
          have e' : ac.eval (.tmp 40) = .agg #[.slice A n k, .slice A' n' k'] := (hE 40 (by simp)).trans (by simp [evF, d10, r10])
          exact wp_store_row 31 _ _ rfl g9 _ e e' 31 _ HS.k9 (by kernel_rfl) rfl (by simp [Value.oneCell']) ⟨_, rfl, hJ.store d10 ⟨A, n, k, A', n', k', q1, u1, HS.put rfl q2 u2 lw na nb n7 n8 (setRow_heap W1 g9 _ _ _ (0, 0) HS.k9) (fun k t' cs hk hb => (setRow_other W1 g9 k _ hk).trans hb) (by simp [World.setRow]) (fun p hp => cell_setRow W1 g9 _ p hp) (fun B w0 hb hB => hb.trans ⟨rfl, rfl, rfl, by simp [World.setRow], fun j hj => setRow_other W1 g9 j _ (by omega)⟩), q3, u3⟩⟩
      · intro done vs W1 hall hJ
        obtain ⟨Q1, q1, r1, Q2, q2, r2, hq1, hq2, hF9, l5, l6⟩ := hJ.f (hall 11 (by simp))
        have HF9 := Lib.hid hF9
        simp only [fillA, Act.put, List.setIfInBounds_toArray, List.set_cons_zero, List.set_cons_succ, if_true]
        clear hJ hall hq1 hq2 hF9 a0 a1 b0 b1 z0 z1
        rw [e1.out, e2.out] at HF9
        have HR7 := Lib.hid (fun (x : BW W1) => rests_any (bothV a b) E1 x1 y1 E2 x2 y2 d (wof x) ((HF9).out.s1.below (wof_below x)) ((HF9).out.s2.below (wof_below x)) (by unfold maxLen; omega) (by unfold maxLen; omega))
        have HRA := Lib.hid (fun (x : BW W1) => rests_any a A1 n1 c1 A2 n2 c2 d (wof x) (H1.out.below ((HF9).out.bel.trans ((wof_below x).mono (HF9).out.bel.size))) (H2.out.below ((HF9).out.bel.trans ((wof_below x).mono (HF9).out.bel.size))) m1 m2)
        have HRB := Lib.hid (fun (x : BW W1) => rests_any b B1 k1 d1 B2 k2 d2 d (wof x) (H3.out.below ((HF9).out.bel.trans ((wof_below x).mono (HF9).out.bel.size))) (H4.out.below ((HF9).out.bel.trans ((wof_below x).mono (HF9).out.bel.size))) m3 m4)
        have T1 : decide ((bothV a b).rest = (bothV a b).rest) = true := decide_eq_true rfl
        have T2 : decide ((bothV a b).hol = (bothV a b).hol) = true := decide_eq_true rfl
        have S1 := Lib.hid (fun (x : BW W1) => same_any E1 x1 y1 (bothV a b).rest Q1 q1 r1 (bothV a b).rest (wof x) ((HF9).out.s1.below (wof_below x)) ((HF9).out.s5.below (wof_below x)) (by unfold maxLen; omega) (by unfold maxLen; omega))
        have S2 := Lib.hid (fun (x : BW W1) => same_any E2 x2 y2 (bothV a b).hol Q2 q2 r2 (bothV a b).hol (wof x) ((HF9).out.s2.below (wof_below x)) ((HF9).out.s6.below (wof_below x)) (by unfold maxLen; omega) (by unfold maxLen; omega))
        have S3 := Lib.hid (fun (x : BW W1) => same_any F1 u1 v1 (bothV a b).rest Q1 q1 r1 (bothV a b).rest (wof x) (by have := (HF9).out.s3.below (wof_below x); rw [both_comm b a] at this; exact this) ((HF9).out.s5.below (wof_below x)) (by unfold maxLen; omega) (by unfold maxLen; omega))
        have S4 := Lib.hid (fun (x : BW W1) => same_any F2 u2 v2 (bothV a b).hol Q2 q2 r2 (bothV a b).hol (wof x) (by have := (HF9).out.s4.below (wof_below x); rw [both_comm b a] at this; exact this) ((HF9).out.s6.below (wof_below x)) (by unfold maxLen; omega) (by unfold maxLen; omega))
        rw [T1] at S1 S3
        rw [T2] at S2 S4
        obtain ⟨RA, hRA⟩ : ∃ r, (isDayB d && restB a d) = r := ⟨_, rfl⟩
        obtain ⟨RB, hRB⟩ : ∃ r, (isDayB d && restB b d) = r := ⟨_, rfl⟩
        have hRC : (isDayB d && restB (bothV a b) d) = (RA || RB) := by
          rw [EBR.out, ← hRA, ← hRB]
          cases isDayB d <;> rfl
        rw [hRC] at HR7
        rw [hRA] at HRA
        rw [hRB] at HRB
        clear hRA hRB hRC T1 T2
        have BEL := Lib.hid (HF9).out.bel
        have p0 := wof_cell (show (W1).cell? ⟨g7, 0, none⟩ = some (.slice E1 x1 y1) from (HF9).out.k7.cell 0)
        have p1' := wof_cell (show (W1).cell? ⟨g7, 1, none⟩ = some (.slice E2 x2 y2) from (HF9).out.k7.cell 1)
        have p2' := wof_cell (show (W1).cell? ⟨g8, 0, none⟩ = some (.slice F1 u1 v1) from (HF9).out.k8.cell 0)
        have p3 := wof_cell (show (W1).cell? ⟨g8, 1, none⟩ = some (.slice F2 u2 v2) from (HF9).out.k8.cell 1)
        have p4 := wof_cell (show (W1).cell? ⟨g9, 0, none⟩ = some (.slice Q1 q1 r1) from (HF9).out.k9.cell 0)
        have p5 := wof_cell (show (W1).cell? ⟨g9, 1, none⟩ = some (.slice Q2 q2 r2) from (HF9).out.k9.cell 1)
        have p6 := wof_cell (show (W1).cell? ⟨w.heap.size, 0, none⟩ = some (.slice A1 n1 c1) from (HF9).out.ka.cell 0)
        have p7 := wof_cell (show (W1).cell? ⟨w.heap.size, 1, none⟩ = some (.slice A2 n2 c2) from (HF9).out.ka.cell 1)
        have p8 := wof_cell (show (W1).cell? ⟨w.heap.size + 1, 0, none⟩ = some (.slice B1 k1 d1) from (HF9).out.kb.cell 0)
        have p9 := wof_cell (show (W1).cell? ⟨w.heap.size + 1, 1, none⟩ = some (.slice B2 k2 d2) from (HF9).out.kb.cell 1)
        cases RA
        all_goals
          go_wp2_with fail
          refine wp_region_quiet_below (by kernel_rfl) (by kernel_rfl) ?_
          repeat (go_big_quiet_step ((first | (go_at_call 36; first | (with_reducible exact quiet_below (S1.out _)) | (with_reducible exact quiet_below (S2.out _)) | (with_reducible exact quiet_below (S3.out _)) | (with_reducible exact quiet_below (S4.out _))) | (go_at_call 25; first | (with_reducible exact quiet_below (HR7.out _)) | (with_reducible exact quiet_below (HRA.out _)) | (with_reducible exact quiet_below (HRB.out _))))))
          refine wpQuiet_nil ?_
          intro wz hbz
          go_wp2_with fail
          go_ret
          exact ⟨ret_bool (by simp), BEL.out.trans (hbz.mono BEL.out.size)⟩
end Go.Proofs.YtmgijoomfailoaaDoor
