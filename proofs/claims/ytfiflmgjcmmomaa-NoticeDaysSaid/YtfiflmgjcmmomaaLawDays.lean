/- NoticeDays: any deadline, any last day, and how many days are left, are just the document's. No condition. -/
import Derived.Test.YtfiflmgjcmmomaaNotC
namespace Go.Proofs.Ytfiflmgjcmmomaa
open Go.RowKit Go.Proofs.Ytfiflmgjcmmomaa.kit Go.Proofs.Ytfiflmgjcmmomaa.cal
set_option linter.unusedVariables false

set_option maxRecDepth 100000 in
set_option maxHeartbeats 1600000 in
theorem noticeDays_walk (c : Cal) (A1 : Option Addr) (n1 c1 : Nat) (A2 : Option Addr) (n2 c2 : Nat) (p t : Int) (ans : Bool) (w : World) (h1 : SliceOf w 1 intC A1 n1 c.rest) (h2 : SliceOf w 1 intC A2 n2 c.hol) (m1 : n1 ≤ maxLen) (m2 : n2 ≤ maxLen) :
    Calls Try.prog 4 #[.agg #[.slice A1 n1 c1, .slice A2 n2 c2], .int .i64 p, .int .i64 t, .bool ans] w fun e w' => e = .returned (.bool true) ∧ Below w.heap.size w w' := by
  have H1 := Lib.hid h1
  have H2 := Lib.hid h2
  have l1 := h1.len
  have l2 := h2.len
  clear h1 h2
  have hB0 : Below w.heap.size w (w.alloc (.cells #[.slice A1 n1 c1, .slice A2 n2 c2] 24)) := (Below.refl _ _).alloc (Nat.le_refl _) _
  have hk0 : Blk (w.alloc (.cells #[.slice A1 n1 c1, .slice A2 n2 c2] 24)) w.heap.size 24 #[.slice A1 n1 c1, .slice A2 n2 c2] := Blk.new _ _ _
  go_enter Try.func4, Try.ntmps4
  go_wp2_with fail
  refine (awake_any _).mono ?_
  rintro e w1 ⟨rfl, hb1⟩
  have hB1 := hB0.trans (hb1.mono hB0.size)
  have hk1 := hk0.below hb1 hk0.lt
  clear hB0 hk0 hb1
  have a0 := hk1.cell 0; have a1 := hk1.cell 1; simp only [List.getElem?_toArray, List.getElem?_cons_zero, List.getElem?_cons_succ] at a0 a1
  cases hf : fewB n1 n2
  · have F := Lib.hid hf
    clear hf
    go_wp2_with fail
    refine (few_any A1 n1 c1 A2 n2 c2 _ m1 m2).mono ?_
    rw [F.out]
    rintro e w2 ⟨rfl, hb2⟩
    clear a0 a1
    have hB2 := hB1.trans (hb2.mono hB1.size)
    have hk2 := hk1.below hb2 hk1.lt
    clear hB1 hk1 hb2
    have a0 := hk2.cell 0; have a1 := hk2.cell 1; simp only [List.getElem?_toArray, List.getElem?_cons_zero, List.getElem?_cons_succ] at a0 a1
    go_wp2_with fail
    go_ret
    exact ⟨rfl, hB2⟩
  have F := Lib.hid hf
  clear hf
  obtain ⟨L, hL⟩ : ∃ L, (dlV c p).1 = L := ⟨_, rfl⟩
  obtain ⟨ok, hok⟩ : ∃ ok, (dlV c p).2 = ok := ⟨_, rfl⟩
  obtain ⟨E, hE⟩ : ∃ E, (nextV c p).1 = E := ⟨_, rfl⟩
  obtain ⟨ek, hek⟩ : ∃ ek, (nextV c p).2 = ek := ⟨_, rfl⟩
  obtain ⟨D, hD⟩ : ∃ D, daysV c p t = D := ⟨_, rfl⟩
  obtain ⟨P, hP⟩ : ∃ P, preclV c p t ans = P := ⟨_, rfl⟩
  have hPP : P = (!ans && ok && decide (L < t)) := by rw [← hP]; unfold preclV; rw [hL, hok]
  have HK := Lib.hid hok; have HL := Lib.hid hL; have HE := Lib.hid hE; have HEK := Lib.hid hek; have HD := Lib.hid hD; have HP := Lib.hid (hP.trans hPP)
  clear hok hL hE hek hD hP hPP
  go_wp2_with fail
  refine (few_any A1 n1 c1 A2 n2 c2 _ m1 m2).mono ?_
  rw [F.out]
  rintro e w2 ⟨rfl, hb2⟩
  clear a0 a1
  have hB2 := hB1.trans (hb2.mono hB1.size)
  have hk2 := hk1.below hb2 hk1.lt
  clear hB1 hk1 hb2
  have a0 := hk2.cell 0; have a1 := hk2.cell 1; simp only [List.getElem?_toArray, List.getElem?_cons_zero, List.getElem?_cons_succ] at a0 a1
  go_wp2_with fail
  refine (deadline_any c A1 n1 c1 A2 n2 c2 p _ (H1.out.below hB2) (H2.out.below hB2) m1 m2).mono ?_
  rw [HK.out, HL.out]
  rintro e w3 ⟨rfl, hb3⟩
  clear a0 a1
  have hB3 := hB2.trans (hb3.mono hB2.size)
  have hk3 := hk2.below hb3 hk2.lt
  clear hB2 hk2 hb3
  have a0 := hk3.cell 0; have a1 := hk3.cell 1; simp only [List.getElem?_toArray, List.getElem?_cons_zero, List.getElem?_cons_succ] at a0 a1
  go_wp2_with fail
  refine (rdeadline_any c A1 n1 c1 A2 n2 c2 p _ (H1.out.below hB3) (H2.out.below hB3) m1 m2).mono ?_
  rw [HK.out, HL.out]
  rintro e w4 ⟨rfl, hb4⟩
  clear a0 a1
  have hB4 := hB3.trans (hb4.mono hB3.size)
  have hk4 := hk3.below hb4 hk3.lt
  clear hB3 hk3 hb4
  have a0 := hk4.cell 0; have a1 := hk4.cell 1; simp only [List.getElem?_toArray, List.getElem?_cons_zero, List.getElem?_cons_succ] at a0 a1
  go_wp2_with fail
  refine (expiry_any c A1 n1 c1 A2 n2 c2 p _ (H1.out.below hB4) (H2.out.below hB4) m1 m2).mono ?_
  rw [HE.out, HEK.out]
  rintro e w5 ⟨rfl, hb5⟩
  clear a0 a1
  have hB5 := hB4.trans (hb5.mono hB4.size)
  have hk5 := hk4.below hb5 hk4.lt
  clear hB4 hk4 hb5
  have a0 := hk5.cell 0; have a1 := hk5.cell 1; simp only [List.getElem?_toArray, List.getElem?_cons_zero, List.getElem?_cons_succ] at a0 a1
  go_wp2_with fail
  refine (rexpiry_any c A1 n1 c1 A2 n2 c2 p _ (H1.out.below hB5) (H2.out.below hB5) m1 m2).mono ?_
  rw [HE.out, HEK.out]
  rintro e w6 ⟨rfl, hb6⟩
  clear a0 a1
  have hB6 := hB5.trans (hb6.mono hB5.size)
  have hk6 := hk5.below hb6 hk5.lt
  clear hB5 hk5 hb6
  have a0 := hk6.cell 0; have a1 := hk6.cell 1; simp only [List.getElem?_toArray, List.getElem?_cons_zero, List.getElem?_cons_succ] at a0 a1
  clear a0 a1
  have a0 := hk6.cell 0; have a1 := hk6.cell 1; simp only [List.getElem?_toArray, List.getElem?_cons_zero, List.getElem?_cons_succ] at a0 a1
  have p0 := wof_cell a0; have p1 := wof_cell a1
  have HB : Hid (∀ x : BW w6, Below w.heap.size w (wof x)) := fun x => hB6.trans ((wof_below x).mono hB6.size)
  have QD : Hid (∀ x : BW w6, Calls Try.prog 13 #[.agg #[.slice A1 n1 c1, .slice A2 n2 c2], .int .i64 p, .int .i64 t] (wof x) fun e w' => e = .returned (.int .i64 D) ∧ Below (wof x).heap.size (wof x) w') := fun x => by
    have := days_any c A1 n1 c1 A2 n2 c2 p t (wof x) (H1.out.below (HB.out x)) (H2.out.below (HB.out x)) m1 m2
    rw [HD.out] at this
    exact this
  have QR : Hid (∀ x : BW w6, Calls Try.prog 19 #[.agg #[.slice A1 n1 c1, .slice A2 n2 c2], .int .i64 p, .int .i64 t] (wof x) fun e w' => e = .returned (.int .i64 D) ∧ Below (wof x).heap.size (wof x) w') := fun x => by
    have := rdays_any c A1 n1 c1 A2 n2 c2 p t (wof x) (H1.out.below (HB.out x)) (H2.out.below (HB.out x)) m1 m2
    rw [HD.out] at this
    exact this
  have QP : Hid (∀ x : BW w6, Calls Try.prog 15 #[.agg #[.slice A1 n1 c1, .slice A2 n2 c2], .int .i64 p, .int .i64 t, .bool ans] (wof x) fun e w' => e = .returned (.bool (!ans && ok && decide (L < t))) ∧ Below (wof x).heap.size (wof x) w') := fun x => by
    have := precl_any c A1 n1 c1 A2 n2 c2 p t ans (wof x) (H1.out.below (HB.out x)) (H2.out.below (HB.out x)) m1 m2
    rw [HP.out] at this
    exact this
  clear HD HP HK HL HE HEK HB
  by_cases hlt : L < t
  · have d1 : decide (L < t) = true := decide_eq_true hlt
    rw [d1] at QP
    cases ans <;> cases ok
    all_goals
      simp only [Bool.not_false, Bool.not_true, Bool.and_true, Bool.and_false] at QP
      go_wp2_with fail
      refine wp_region_quiet_below (by kernel_rfl) (by kernel_rfl) ?_
      repeat (go_big_quiet_step ((first | (go_at_call 13; exact quiet_below (QD.out _)) | (go_at_call 19; exact quiet_below (QR.out _)) | (go_at_call 15; exact quiet_below (QP.out _)))))
      refine wpQuiet_nil ?_
      intro w7 hb7
      go_wp2_with fail
      go_ret
      exact ⟨ret_bool (by simp), hB6.trans (hb7.mono hB6.size)⟩
  · have d1 : decide (L < t) = false := decide_eq_false hlt
    rw [d1] at QP
    cases ans <;> cases ok
    all_goals
      simp only [Bool.not_false, Bool.not_true, Bool.and_true, Bool.and_false] at QP
      go_wp2_with fail
      refine wp_region_quiet_below (by kernel_rfl) (by kernel_rfl) ?_
      repeat (go_big_quiet_step ((first | (go_at_call 13; exact quiet_below (QD.out _)) | (go_at_call 19; exact quiet_below (QR.out _)) | (go_at_call 15; exact quiet_below (QP.out _)))))
      refine wpQuiet_nil ?_
      intro w7 hb7
      go_wp2_with fail
      go_ret
      exact ⟨ret_bool (by simp), hB6.trans (hb7.mono hB6.size)⟩
end Go.Proofs.Ytfiflmgjcmmomaa
