/- DayRests: the law. Conditions: the tables of powers of ten and of the months. -/
import Derived.Test.YtmgijoomfailoaaDoorDyF
import Derived.Test.YtmgijoomfailoaaDoorDyS
namespace Go.Proofs.YtmgijoomfailoaaDoor
open Go.RowKit Go.Proofs.YtmgijoomfailoaaDoor.kit Go.Proofs.YtmgijoomfailoaaDoor.cal
set_option linter.unusedVariables false

set_option maxRecDepth 100000 in
set_option maxHeartbeats 1600000 in
theorem dayRests_walk (c : Cal) (A1 : Option Addr) (n1 c1 : Nat) (A2 : Option Addr) (n2 c2 : Nat) (d : Int) (w : World) (h1 : SliceOf w 1 intC A1 n1 c.rest) (h2 : SliceOf w 1 intC A2 n2 c.hol) (m1 : n1 ≤ maxLen) (m2 : n2 ≤ maxLen) (ht : MonTab w) (hp : PowTab w) :
    Calls Tryd.prog 5 #[.agg #[.slice A1 n1 c1, .slice A2 n2 c2], .int .i64 d] w fun e w' => e = .returned (.bool true) ∧ Below w.heap.size w w' := by
  have HT := Lib.hid (Lib.tabBelow_of_tabIs ht)
  have HP := Lib.hid (Lib.tabBelow_of_tabIs hp)
  have HA := Lib.hid (fun w h1 h2 => awake_any w h1 h2)
  have HV := Lib.hid (fun w => heavy_any c A1 n1 c1 A2 n2 c2 w m1 m2)
  have HI := Lib.hid (fun w => ris_any d w)
  have HW := Lib.hid (fun w => weekday_any d w)
  have H1 := Lib.hid h1
  have H2 := Lib.hid h2
  have l1 := h1.len
  have l2 := h2.len
  clear h1 h2
  have hB0 : Below w.heap.size w (w.alloc (.cells #[.slice A1 n1 c1, .slice A2 n2 c2] 31)) := (Below.refl _ _).alloc (Nat.le_refl _) _
  have hk0 : Blk (w.alloc (.cells #[.slice A1 n1 c1, .slice A2 n2 c2] 31)) w.heap.size 31 #[.slice A1 n1 c1, .slice A2 n2 c2] := Blk.new _ _ _
  have a0 := hk0.cell 0; have a1 := hk0.cell 1
  simp only [List.getElem?_toArray, List.getElem?_cons_zero, List.getElem?_cons_succ] at a0 a1
  clear ht hp
  obtain ⟨hv, ehv⟩ : ∃ b, (decide (20 < n1) || decide (60 < n2)) = b := ⟨_, rfl⟩
  rw [ehv] at HV
  clear ehv
  cases hv
  rotate_left
  · go_enter Tryd.func5, Tryd.ntmps5
    go_wp2_with fail
    refine (HA.out _ (HT.out.on hB0).here (HP.out.on hB0).here).mono ?_
    rintro e w1 ⟨rfl, hb1⟩
    clear a0 a1
    have hB1 := hB0.trans (hb1.mono hB0.size)
    have hk1 := hk0.below hb1 hk0.lt
    clear hB0 hk0 hb1
    have a0 := hk1.cell 0; have a1 := hk1.cell 1; simp only [List.getElem?_toArray, List.getElem?_cons_zero, List.getElem?_cons_succ] at a0 a1
    go_wp2_with fail
    refine (HV.out _).mono ?_
    rintro e w2 ⟨rfl, hb2⟩
    clear a0 a1
    have hB2 := hB1.trans (hb2.mono hB1.size)
    have hk2 := hk1.below hb2 hk1.lt
    clear hB1 hk1 hb2
    have a0 := hk2.cell 0; have a1 := hk2.cell 1; simp only [List.getElem?_toArray, List.getElem?_cons_zero, List.getElem?_cons_succ] at a0 a1
    go_wp2_with fail
    go_ret
    exact ⟨rfl, hB2⟩
  obtain ⟨WV, eWV⟩ : ∃ b, (if isDayB d = true then d % 7 else -1) = b := ⟨_, rfl⟩
  obtain ⟨RV, eRV⟩ : ∃ b, (isDayB d && restB c d) = b := ⟨_, rfl⟩
  obtain ⟨MV, eMV⟩ : ∃ b, mayB c = b := ⟨_, rfl⟩
  have HX := Lib.hid (fun (w : World) (h1 : SliceOf w 1 intC A1 n1 c.rest) (h2 : SliceOf w 1 intC A2 n2 c.hol) (m1 : n1 ≤ maxLen) (m2 : n2 ≤ maxLen) => may_any c A1 n1 c1 A2 n2 c2 w h1 h2 m1 m2)
  have HXr := Lib.hid (fun (w : World) (h1 : SliceOf w 1 intC A1 n1 c.rest) (h2 : SliceOf w 1 intC A2 n2 c.hol) (m1 : n1 ≤ maxLen) (m2 : n2 ≤ maxLen) => rmay_any c A1 n1 c1 A2 n2 c2 w h1 h2 m1 m2)
  have HR := Lib.hid (fun (w : World) (h1 : SliceOf w 1 intC A1 n1 c.rest) (h2 : SliceOf w 1 intC A2 n2 c.hol) (m1 : n1 ≤ maxLen) (m2 : n2 ≤ maxLen) => rests_any c A1 n1 c1 A2 n2 c2 d w h1 h2 m1 m2)
  have HRr := Lib.hid (fun (w : World) (h1 : SliceOf w 1 intC A1 n1 c.rest) (h2 : SliceOf w 1 intC A2 n2 c.hol) (m1 : n1 ≤ maxLen) (m2 : n2 ≤ maxLen) => rrests_any c A1 n1 c1 A2 n2 c2 d w h1 h2 m1 m2)
  rw [eWV] at HW
  rw [eRV] at HR HRr
  rw [eMV] at HX HXr
  clear eRV eMV
  cases hd : isDayB d
  · rw [hd] at HI eWV
    simp only [Bool.false_eq_true, if_false] at eWV
    subst eWV
    clear hd
    go_enter Tryd.func5, Tryd.ntmps5
    go_wp2_with fail
    refine (HA.out _ (HT.out.on hB0).here (HP.out.on hB0).here).mono ?_
    rintro e w1 ⟨rfl, hb1⟩
    clear a0 a1
    have hB1 := hB0.trans (hb1.mono hB0.size)
    have hk1 := hk0.below hb1 hk0.lt
    clear hB0 hk0 hb1
    have a0 := hk1.cell 0; have a1 := hk1.cell 1; simp only [List.getElem?_toArray, List.getElem?_cons_zero, List.getElem?_cons_succ] at a0 a1
    go_wp2_with fail
    refine (HV.out _).mono ?_
    rintro e w2 ⟨rfl, hb2⟩
    clear a0 a1
    have hB2 := hB1.trans (hb2.mono hB1.size)
    have hk2 := hk1.below hb2 hk1.lt
    clear hB1 hk1 hb2
    have a0 := hk2.cell 0; have a1 := hk2.cell 1; simp only [List.getElem?_toArray, List.getElem?_cons_zero, List.getElem?_cons_succ] at a0 a1
    go_wp2_with fail
    refine (HI.out _).mono ?_
    rintro e w3 ⟨rfl, rfl⟩
    go_wp2_with fail
    have p0 := wof_cell a0; have p1 := wof_cell a1
    have s1 := Lib.hid (H1.out.below hB2)
    have s2 := Lib.hid (H2.out.below hB2)
    have QX := Lib.hid (fun (x : BW w2) => HX.out (wof x) (s1.out.below (wof_below x)) (s2.out.below (wof_below x)) m1 m2)
    have QXr := Lib.hid (fun (x : BW w2) => HXr.out (wof x) (s1.out.below (wof_below x)) (s2.out.below (wof_below x)) m1 m2)
    have QR := Lib.hid (fun (x : BW w2) => HR.out (wof x) (s1.out.below (wof_below x)) (s2.out.below (wof_below x)) m1 m2)
    have QRr := Lib.hid (fun (x : BW w2) => HRr.out (wof x) (s1.out.below (wof_below x)) (s2.out.below (wof_below x)) m1 m2)
    have QW := Lib.hid (fun (x : BW w2) => (HW.out (wof x)).mono fun e w' h => (show e = _ ∧ Below (wof x).heap.size (wof x) w' from ⟨h.1, by rw [← h.2]; exact Below.refl _ _⟩))
    refine wp_region_quiet_below (by kernel_rfl) (by kernel_rfl) ?_
    repeat (go_big_quiet_step ((first | (go_at_call 22; exact quiet_below (QX.out _)) | (go_at_call 23; exact quiet_below (QXr.out _)) | (go_at_call 24; exact quiet_below (QW.out _)) | (go_at_call 25; exact quiet_below (QR.out _)) | (go_at_call 26; exact quiet_below (QRr.out _)))))
    refine wpQuiet_nil ?_
    intro w4 hb4
    have hB4 := hB2.trans (hb4.mono hB2.size)
    clear hb4
    go_wp2_with fail
    go_ret
    exact ⟨ret_bool (by simp), hB4⟩
  · obtain ⟨d0, d1⟩ : 0 ≤ d ∧ d ≤ 1048576 := by simpa [isDayB] using hd
    rw [hd] at HI eWV
    simp only [if_true] at eWV
    have b2 : Int.tmod d 7 = WV := by rw [Int.tmod_eq_emod_of_nonneg (by omega), eWV]
    clear hd
    go_enter Tryd.func5, Tryd.ntmps5
    go_wp2_with fail
    refine (HA.out _ (HT.out.on hB0).here (HP.out.on hB0).here).mono ?_
    rintro e w1 ⟨rfl, hb1⟩
    clear a0 a1
    have hB1 := hB0.trans (hb1.mono hB0.size)
    have hk1 := hk0.below hb1 hk0.lt
    clear hB0 hk0 hb1
    have a0 := hk1.cell 0; have a1 := hk1.cell 1; simp only [List.getElem?_toArray, List.getElem?_cons_zero, List.getElem?_cons_succ] at a0 a1
    go_wp2_with fail
    refine (HV.out _).mono ?_
    rintro e w2 ⟨rfl, hb2⟩
    clear a0 a1
    have hB2 := hB1.trans (hb2.mono hB1.size)
    have hk2 := hk1.below hb2 hk1.lt
    clear hB1 hk1 hb2
    have a0 := hk2.cell 0; have a1 := hk2.cell 1; simp only [List.getElem?_toArray, List.getElem?_cons_zero, List.getElem?_cons_succ] at a0 a1
    go_wp2_with fail
    refine (HI.out _).mono ?_
    rintro e w3 ⟨rfl, rfl⟩
    go_wp2_with fail
    have p0 := wof_cell a0; have p1 := wof_cell a1
    have s1 := Lib.hid (H1.out.below hB2)
    have s2 := Lib.hid (H2.out.below hB2)
    have QX := Lib.hid (fun (x : BW w2) => HX.out (wof x) (s1.out.below (wof_below x)) (s2.out.below (wof_below x)) m1 m2)
    have QXr := Lib.hid (fun (x : BW w2) => HXr.out (wof x) (s1.out.below (wof_below x)) (s2.out.below (wof_below x)) m1 m2)
    have QR := Lib.hid (fun (x : BW w2) => HR.out (wof x) (s1.out.below (wof_below x)) (s2.out.below (wof_below x)) m1 m2)
    have QRr := Lib.hid (fun (x : BW w2) => HRr.out (wof x) (s1.out.below (wof_below x)) (s2.out.below (wof_below x)) m1 m2)
    have QW := Lib.hid (fun (x : BW w2) => (HW.out (wof x)).mono fun e w' h => (show e = _ ∧ Below (wof x).heap.size (wof x) w' from ⟨h.1, by rw [← h.2]; exact Below.refl _ _⟩))
    refine wp_region_quiet_below (by kernel_rfl) (by kernel_rfl) ?_
    repeat (go_big_quiet_step ((first | (go_at_call 22; exact quiet_below (QX.out _)) | (go_at_call 23; exact quiet_below (QXr.out _)) | (go_at_call 24; exact quiet_below (QW.out _)) | (go_at_call 25; exact quiet_below (QR.out _)) | (go_at_call 26; exact quiet_below (QRr.out _)))))
    refine wpQuiet_nil ?_
    intro w4 hb4
    have hB4 := hB2.trans (hb4.mono hB2.size)
    clear hb4
    go_wp2_with fail
    go_ret
    exact ⟨ret_bool (by simp), hB4⟩
end Go.Proofs.YtmgijoomfailoaaDoor
