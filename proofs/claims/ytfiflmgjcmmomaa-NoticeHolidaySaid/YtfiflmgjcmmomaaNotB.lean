/- Days left, preclusion, by the program and by the reference; the document's examples. No condition. -/
import Derived.Test.YtfiflmgjcmmomaaNotA
namespace Go.Proofs.Ytfiflmgjcmmomaa
open Go.RowKit Go.Proofs.Ytfiflmgjcmmomaa.kit Go.Proofs.Ytfiflmgjcmmomaa.cal
set_option linter.unusedVariables false

set_option maxHeartbeats 800000 in
theorem days_any (c : Cal) (A1 : Option Addr) (n1 c1 : Nat) (A2 : Option Addr) (n2 c2 : Nat) (p t : Int) (w : World) (h1 : SliceOf w 1 intC A1 n1 c.rest) (h2 : SliceOf w 1 intC A2 n2 c.hol) (m1 : n1 ≤ maxLen) (m2 : n2 ≤ maxLen) :
    Calls Try.prog 13 #[.agg #[.slice A1 n1 c1, .slice A2 n2 c2], .int .i64 p, .int .i64 t] w fun e w' => e = .returned (.int .i64 (daysV c p t)) ∧ Below w.heap.size w w' := by
  have H1 := Lib.hid h1
  have H2 := Lib.hid h2
  have l1 := h1.len
  have l2 := h2.len
  clear h1 h2
  have hB0 : Below w.heap.size w (w.alloc (.cells #[.slice A1 n1 c1, .slice A2 n2 c2] 24)) := (Below.refl _ _).alloc (Nat.le_refl _) _
  have hk0 : Blk (w.alloc (.cells #[.slice A1 n1 c1, .slice A2 n2 c2] 24)) w.heap.size 24 #[.slice A1 n1 c1, .slice A2 n2 c2] := Blk.new _ _ _
  cases hok : (dlV c p).2
  · have e0 := days_none (t := t) (.inl hok)
    have HK := Lib.hid hok
    rw [e0]
    clear e0 hok
    go_enter Try.func13, Try.ntmps13
    go_wp2_with fail
    refine (deadline_any c A1 n1 c1 A2 n2 c2 p _ (H1.out.below hB0) (H2.out.below hB0) m1 m2).mono ?_
    rw [HK.out]
    rintro e w1 ⟨rfl, hb1⟩
    have hB1 := hB0.trans (hb1.mono hB0.size)
    have hk1 := hk0.below hb1 hk0.lt
    clear hB0 hk0 hb1
    go_wp2_with fail
    go_ret
    exact ⟨rfl, hB1⟩
  have hb := dl_bd hok
  by_cases ht : (dlV c p).1 < t
  · have e0 := days_none (t := t) (.inr ht)
    have HK := Lib.hid hok
    obtain ⟨L, hL⟩ : ∃ L, (dlV c p).1 = L := ⟨_, rfl⟩
    rw [hL] at ht
    have HL := Lib.hid hL
    rw [e0]
    clear e0 hok hb hL
    go_enter Try.func13, Try.ntmps13
    go_wp2_with fail
    refine (deadline_any c A1 n1 c1 A2 n2 c2 p _ (H1.out.below hB0) (H2.out.below hB0) m1 m2).mono ?_
    rw [HK.out, HL.out]
    rintro e w1 ⟨rfl, hb1⟩
    have hB1 := hB0.trans (hb1.mono hB0.size)
    have hk1 := hk0.below hb1 hk0.lt
    clear hB0 hk0 hb1
    go_wp2_with fail
    go_ret
    exact ⟨rfl, hB1⟩
  · have e0 := Lib.hid (between_days hok (by omega : t ≤ (dlV c p).1))
    have HK := Lib.hid hok
    obtain ⟨L, hL⟩ : ∃ L, (dlV c p).1 = L := ⟨_, rfl⟩
    rw [hL] at ht hb e0
    have HL := Lib.hid hL
    obtain ⟨b0, b1, b2, _⟩ := hb
    clear hok hL
    rcases Int.lt_or_le t p with k1 | k1
    · have hmx : max t p = p := by omega
      rw [hmx] at e0
      clear hmx
      go_enter Try.func13, Try.ntmps13
      go_wp2_with fail
      refine (deadline_any c A1 n1 c1 A2 n2 c2 p _ (H1.out.below hB0) (H2.out.below hB0) m1 m2).mono ?_
      rw [HK.out, HL.out]
      rintro e w1 ⟨rfl, hb1⟩
      have hB1 := hB0.trans (hb1.mono hB0.size)
      have hk1 := hk0.below hb1 hk0.lt
      clear hB0 hk0 hb1
      have a0 := hk1.cell 0; have a1 := hk1.cell 1; simp only [List.getElem?_toArray, List.getElem?_cons_zero, List.getElem?_cons_succ] at a0 a1
      go_wp2_with fail
      refine (between_any c A1 n1 c1 A2 n2 c2 (p + 1) (L + 1) _ (H1.out.below hB1) (H2.out.below hB1) m1 m2).mono ?_
      rintro e w2 ⟨rfl, hb2⟩
      clear a0 a1
      have hB2 := hB1.trans (hb2.mono hB1.size)
      have hk2 := hk1.below hb2 hk1.lt
      clear hB1 hk1 hb2
      go_wp2_with fail
      go_ret
      exact ⟨ret_int e0.out, hB2⟩
    · have hmx : max t p = t := by omega
      rw [hmx] at e0
      clear hmx
      go_enter Try.func13, Try.ntmps13
      go_wp2_with fail
      refine (deadline_any c A1 n1 c1 A2 n2 c2 p _ (H1.out.below hB0) (H2.out.below hB0) m1 m2).mono ?_
      rw [HK.out, HL.out]
      rintro e w1 ⟨rfl, hb1⟩
      have hB1 := hB0.trans (hb1.mono hB0.size)
      have hk1 := hk0.below hb1 hk0.lt
      clear hB0 hk0 hb1
      have a0 := hk1.cell 0; have a1 := hk1.cell 1; simp only [List.getElem?_toArray, List.getElem?_cons_zero, List.getElem?_cons_succ] at a0 a1
      go_wp2_with fail
      refine (between_any c A1 n1 c1 A2 n2 c2 (t + 1) (L + 1) _ (H1.out.below hB1) (H2.out.below hB1) m1 m2).mono ?_
      rintro e w2 ⟨rfl, hb2⟩
      clear a0 a1
      have hB2 := hB1.trans (hb2.mono hB1.size)
      have hk2 := hk1.below hb2 hk1.lt
      clear hB1 hk1 hb2
      go_wp2_with fail
      go_ret
      exact ⟨ret_int e0.out, hB2⟩

theorem precl_any (c : Cal) (A1 : Option Addr) (n1 c1 : Nat) (A2 : Option Addr) (n2 c2 : Nat) (p t : Int) (ans : Bool) (w : World) (h1 : SliceOf w 1 intC A1 n1 c.rest) (h2 : SliceOf w 1 intC A2 n2 c.hol) (m1 : n1 ≤ maxLen) (m2 : n2 ≤ maxLen) :
    Calls Try.prog 15 #[.agg #[.slice A1 n1 c1, .slice A2 n2 c2], .int .i64 p, .int .i64 t, .bool ans] w fun e w' => e = .returned (.bool (preclV c p t ans)) ∧ Below w.heap.size w w' := by
  have H1 := Lib.hid h1
  have H2 := Lib.hid h2
  have l1 := h1.len
  have l2 := h2.len
  clear h1 h2
  have hB0 : Below w.heap.size w (w.alloc (.cells #[.slice A1 n1 c1, .slice A2 n2 c2] 24)) := (Below.refl _ _).alloc (Nat.le_refl _) _
  have hk0 : Blk (w.alloc (.cells #[.slice A1 n1 c1, .slice A2 n2 c2] 24)) w.heap.size 24 #[.slice A1 n1 c1, .slice A2 n2 c2] := Blk.new _ _ _
  obtain ⟨L, hL⟩ : ∃ L, (dlV c p).1 = L := ⟨_, rfl⟩
  obtain ⟨ok, hok⟩ : ∃ ok, (dlV c p).2 = ok := ⟨_, rfl⟩
  have e0 : preclV c p t ans = (!ans && ok && decide (L < t)) := by unfold preclV; rw [hL, hok]
  have HK := Lib.hid hok
  have HL := Lib.hid hL
  rw [e0]
  clear e0 hok hL
  cases ans <;> cases ok
  all_goals
    go_enter Try.func15, Try.ntmps15
    go_wp2_with fail
    refine (deadline_any c A1 n1 c1 A2 n2 c2 p _ (H1.out.below hB0) (H2.out.below hB0) m1 m2).mono ?_
    rw [HK.out, HL.out]
    rintro e w1 ⟨rfl, hb1⟩
    have hB1 := hB0.trans (hb1.mono hB0.size)
    have hk1 := hk0.below hb1 hk0.lt
    clear hB0 hk0 hb1
    go_wp2_with fail
    go_ret
    exact ⟨ret_bool (by simp), hB1⟩

theorem cnt_down (c : Cal) (d : Int) (k : Nat) : cntF c d (k + 1) = (if restB c d then 0 else 1) + cntF c (d + 1) k := by
  rw [Nat.add_comm k 1, cnt_split c d 1 k]
  simp [cntF]
set_option maxHeartbeats 800000 in
theorem rdays_any (c : Cal) (A1 : Option Addr) (n1 c1 : Nat) (A2 : Option Addr) (n2 c2 : Nat) (p t : Int) (w : World) (h1 : SliceOf w 1 intC A1 n1 c.rest) (h2 : SliceOf w 1 intC A2 n2 c.hol) (m1 : n1 ≤ maxLen) (m2 : n2 ≤ maxLen) :
    Calls Try.prog 19 #[.agg #[.slice A1 n1 c1, .slice A2 n2 c2], .int .i64 p, .int .i64 t] w fun e w' => e = .returned (.int .i64 (daysV c p t)) ∧ Below w.heap.size w w' := by
  have H1 := Lib.hid h1
  have H2 := Lib.hid h2
  have l1 := h1.len
  have l2 := h2.len
  clear h1 h2
  have hB0 : Below w.heap.size w (w.alloc (.cells #[.slice A1 n1 c1, .slice A2 n2 c2] 24)) := (Below.refl _ _).alloc (Nat.le_refl _) _
  have hk0 : Blk (w.alloc (.cells #[.slice A1 n1 c1, .slice A2 n2 c2] 24)) w.heap.size 24 #[.slice A1 n1 c1, .slice A2 n2 c2] := Blk.new _ _ _
  cases hok : (dlV c p).2
  · have e0 := days_none (t := t) (.inl hok)
    have HK := Lib.hid hok
    rw [e0]
    clear e0 hok
    go_enter Try.func19, Try.ntmps19
    go_wp2_with fail
    refine (rdeadline_any c A1 n1 c1 A2 n2 c2 p _ (H1.out.below hB0) (H2.out.below hB0) m1 m2).mono ?_
    rw [HK.out]
    rintro e w1 ⟨rfl, hb1⟩
    have hB1 := hB0.trans (hb1.mono hB0.size)
    have hk1 := hk0.below hb1 hk0.lt
    clear hB0 hk0 hb1
    go_wp2_with fail
    go_ret
    exact ⟨rfl, hB1⟩
  obtain ⟨b0, b1, b2, b3⟩ := dl_bd hok
  have e0 : daysV c p t = cntF c (max t p + 1) ((dlV c p).1 - max t p).toNat := by unfold daysV; rw [if_pos hok]
  have HK := Lib.hid hok
  obtain ⟨L, hL⟩ : ∃ L, (dlV c p).1 = L := ⟨_, rfl⟩
  rw [hL] at b1 b2 e0
  have HL := Lib.hid hL
  rw [e0]
  clear hok hL b3 e0
  rcases Int.lt_or_le t p with k1 | k1
  · rw [show max t p = p by omega]
    obtain ⟨T, hT⟩ : ∃ T, cntF c (p + 1) (L - p).toNat = T := ⟨_, rfl⟩
    rw [hT]
    have HT := Lib.hid hT
    clear hT
    go_enter Try.func19, Try.ntmps19
    go_wp2_with fail
    refine (rdeadline_any c A1 n1 c1 A2 n2 c2 p _ (H1.out.below hB0) (H2.out.below hB0) m1 m2).mono ?_
    rw [HK.out, HL.out]
    rintro e w1 ⟨rfl, hb1⟩
    have hB1 := hB0.trans (hb1.mono hB0.size)
    have hk1 := hk0.below hb1 hk0.lt
    clear hB0 hk0 hb1
    go_wp2_with fail
    go_loopw [9, 10] (fun vn vd wr => ∃ (n d : Int), vn = .int .i64 n ∧ vd = .int .i64 d ∧ d ≤ L ∧ (p ≤ d ∨ d = L) ∧ 0 ≤ n ∧ n ≤ L - d ∧ Below w.heap.size w wr ∧ Blk wr w.heap.size 24 #[.slice A1 n1 c1, .slice A2 n2 c2] ∧ Hid (n = cntF c (d + 1) (L - d).toNat)) (fun _ vd _ => (intOf vd - p).toNat)
    case atStart => exact ⟨0, L, rfl, rfl, by omega, .inr rfl, by omega, by omega, hB1, hk1, Lib.hid (by rw [show (L - L).toNat = 0 by omega]; rfl)⟩
    case round =>
      obtain ⟨n, d, rfl, rfl, dL, dt, n0, nL, hB2, hk2, hr⟩ := hrel
      clear hB1 hk1
      by_cases hlt : p < d
      · have hd : isDayB d = true := by simp [isDayB]; omega
        have hs : cntF c (d - 1 + 1) (L - (d - 1)).toNat = (if restB c d then 0 else 1) + cntF c (d + 1) (L - d).toNat := by
          rw [show d - 1 + 1 = d by omega, show (L - (d - 1)).toNat = (L - d).toNat + 1 by omega, cnt_down]
        rw [← hr.out] at hs
        have hW := works_in (c := c) hd
        have a0 := hk2.cell 0; have a1 := hk2.cell 1; simp only [List.getElem?_toArray, List.getElem?_cons_zero, List.getElem?_cons_succ] at a0 a1
        cases hrest : restB c d
        · have HE : Hid (worksB c d = true) := Lib.hid (by rw [hW, hrest]; rfl)
          have e1 : Hid (n + 1 = cntF c (d - 1 + 1) (L - (d - 1)).toNat) := Lib.hid (by rw [hs, hrest]; simp; omega)
          clear hd hs hW hrest
          go_wp2_with fail
          refine (rworks_any c A1 n1 c1 A2 n2 c2 d _ (H1.out.below hB2) (H2.out.below hB2) m1 m2).mono ?_
          rw [HE.out]
          rintro e w3 ⟨rfl, hb3⟩
          clear a0 a1
          have hB3 := hB2.trans (hb3.mono hB2.size)
          have hk3 := hk2.below hb3 hk2.lt
          clear hB2 hk2 hb3
          go_wp2_with fail
          go_roundw
          case rel => exact ⟨n + 1, d - 1, rfl, rfl, by omega, .inl (by omega), by omega, by omega, hB3, hk3, e1⟩
          case measure => simp [intOf]; omega
        · have HE : Hid (worksB c d = false) := Lib.hid (by rw [hW, hrest]; rfl)
          have e1 : Hid (n = cntF c (d - 1 + 1) (L - (d - 1)).toNat) := Lib.hid (by rw [hs, hrest]; simp)
          clear hd hs hW hrest
          go_wp2_with fail
          refine (rworks_any c A1 n1 c1 A2 n2 c2 d _ (H1.out.below hB2) (H2.out.below hB2) m1 m2).mono ?_
          rw [HE.out]
          rintro e w3 ⟨rfl, hb3⟩
          clear a0 a1
          have hB3 := hB2.trans (hb3.mono hB2.size)
          have hk3 := hk2.below hb3 hk2.lt
          clear hB2 hk2 hb3
          go_wp2_with fail
          go_roundw
          case rel => exact ⟨n, d - 1, rfl, rfl, by omega, .inl (by omega), by omega, by omega, hB3, hk3, e1⟩
          case measure => simp [intOf]; omega
      · have e1 : Hid (n = T) := Lib.hid (by
          rw [← HT.out, hr.out]
          rcases dt with dt | dt
          · rw [show d = p by omega]
          · rw [show (L - d).toNat = 0 by omega, show (L - p).toNat = 0 by omega]; rfl)
        go_wp2_with fail
        go_ret
        exact ⟨ret_int e1.out, hB2⟩
  · rw [show max t p = t by omega]
    obtain ⟨T, hT⟩ : ∃ T, cntF c (t + 1) (L - t).toNat = T := ⟨_, rfl⟩
    rw [hT]
    have HT := Lib.hid hT
    clear hT
    go_enter Try.func19, Try.ntmps19
    go_wp2_with fail
    refine (rdeadline_any c A1 n1 c1 A2 n2 c2 p _ (H1.out.below hB0) (H2.out.below hB0) m1 m2).mono ?_
    rw [HK.out, HL.out]
    rintro e w1 ⟨rfl, hb1⟩
    have hB1 := hB0.trans (hb1.mono hB0.size)
    have hk1 := hk0.below hb1 hk0.lt
    clear hB0 hk0 hb1
    go_wp2_with fail
    go_loopw [9, 10] (fun vn vd wr => ∃ (n d : Int), vn = .int .i64 n ∧ vd = .int .i64 d ∧ d ≤ L ∧ (t ≤ d ∨ d = L) ∧ 0 ≤ n ∧ n ≤ L - d ∧ Below w.heap.size w wr ∧ Blk wr w.heap.size 24 #[.slice A1 n1 c1, .slice A2 n2 c2] ∧ Hid (n = cntF c (d + 1) (L - d).toNat)) (fun _ vd _ => (intOf vd - t).toNat)
    case atStart => exact ⟨0, L, rfl, rfl, by omega, .inr rfl, by omega, by omega, hB1, hk1, Lib.hid (by rw [show (L - L).toNat = 0 by omega]; rfl)⟩
    case round =>
      obtain ⟨n, d, rfl, rfl, dL, dt, n0, nL, hB2, hk2, hr⟩ := hrel
      clear hB1 hk1
      by_cases hlt : t < d
      · have hd : isDayB d = true := by simp [isDayB]; omega
        have hs : cntF c (d - 1 + 1) (L - (d - 1)).toNat = (if restB c d then 0 else 1) + cntF c (d + 1) (L - d).toNat := by
          rw [show d - 1 + 1 = d by omega, show (L - (d - 1)).toNat = (L - d).toNat + 1 by omega, cnt_down]
        rw [← hr.out] at hs
        have hW := works_in (c := c) hd
        have a0 := hk2.cell 0; have a1 := hk2.cell 1; simp only [List.getElem?_toArray, List.getElem?_cons_zero, List.getElem?_cons_succ] at a0 a1
        cases hrest : restB c d
        · have HE : Hid (worksB c d = true) := Lib.hid (by rw [hW, hrest]; rfl)
          have e1 : Hid (n + 1 = cntF c (d - 1 + 1) (L - (d - 1)).toNat) := Lib.hid (by rw [hs, hrest]; simp; omega)
          clear hd hs hW hrest
          go_wp2_with fail
          refine (rworks_any c A1 n1 c1 A2 n2 c2 d _ (H1.out.below hB2) (H2.out.below hB2) m1 m2).mono ?_
          rw [HE.out]
          rintro e w3 ⟨rfl, hb3⟩
          clear a0 a1
          have hB3 := hB2.trans (hb3.mono hB2.size)
          have hk3 := hk2.below hb3 hk2.lt
          clear hB2 hk2 hb3
          go_wp2_with fail
          go_roundw
          case rel => exact ⟨n + 1, d - 1, rfl, rfl, by omega, .inl (by omega), by omega, by omega, hB3, hk3, e1⟩
          case measure => simp [intOf]; omega
        · have HE : Hid (worksB c d = false) := Lib.hid (by rw [hW, hrest]; rfl)
          have e1 : Hid (n = cntF c (d - 1 + 1) (L - (d - 1)).toNat) := Lib.hid (by rw [hs, hrest]; simp)
          clear hd hs hW hrest
          go_wp2_with fail
          refine (rworks_any c A1 n1 c1 A2 n2 c2 d _ (H1.out.below hB2) (H2.out.below hB2) m1 m2).mono ?_
          rw [HE.out]
          rintro e w3 ⟨rfl, hb3⟩
          clear a0 a1
          have hB3 := hB2.trans (hb3.mono hB2.size)
          have hk3 := hk2.below hb3 hk2.lt
          clear hB2 hk2 hb3
          go_wp2_with fail
          go_roundw
          case rel => exact ⟨n, d - 1, rfl, rfl, by omega, .inl (by omega), by omega, by omega, hB3, hk3, e1⟩
          case measure => simp [intOf]; omega
      · have e1 : Hid (n = T) := Lib.hid (by
          rw [← HT.out, hr.out]
          rcases dt with dt | dt
          · rw [show d = t by omega]
          · rw [show (L - d).toNat = 0 by omega, show (L - t).toNat = 0 by omega]; rfl)
        go_wp2_with fail
        go_ret
        exact ⟨ret_int e1.out, hB2⟩
end Go.Proofs.Ytfiflmgjcmmomaa
