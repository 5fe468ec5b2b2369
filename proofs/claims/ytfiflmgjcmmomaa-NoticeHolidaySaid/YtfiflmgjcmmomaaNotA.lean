/- Deadlines, last days, days left, by the program and by the reference. No condition. -/
import Derived.Test.YtfiflmgjcmmomaaCalI
namespace Go.Proofs.Ytfiflmgjcmmomaa
open Go.RowKit Go.Proofs.Ytfiflmgjcmmomaa.kit Go.Proofs.Ytfiflmgjcmmomaa.cal
set_option linter.unusedVariables false

def dlV (c : Cal) (p : Int) : Int × Bool := addV c p 5
theorem up_bd (c : Cal) : ∀ (k : Nat) (n : Int), k ≤ 1048577 → 1 ≤ n → (upF c k n).2 = true → 1048577 - (k : Int) ≤ (upF c k n).1 ∧ (upF c k n).1 ≤ 1048576 ∧ restB c (upF c k n).1 = false
  | 0, _, _, _, h => by simp [upF] at h
  | k + 1, n, hk, hn, h => by
    rw [upF] at h ⊢
    by_cases hc : 0 < (if restB c (1048576 - k) then n else n - 1)
    · rw [if_pos hc] at h ⊢
      have := up_bd c k _ (by omega) (by omega) h
      exact ⟨by omega, this.2⟩
    · rw [if_neg hc] at h ⊢
      refine ⟨by simp only; omega, by simp only; omega, ?_⟩
      cases hr : restB c (1048576 - k)
      · rfl
      · rw [hr] at hc
        simp at hc
        omega
theorem up_no (c : Cal) : ∀ (k : Nat) (n : Int), (upF c k n).2 = false → (upF c k n).1 = 0
  | 0, _, _ => rfl
  | k + 1, n, h => by
    rw [upF] at h ⊢
    by_cases hc : 0 < (if restB c (1048576 - k) then n else n - 1)
    · rw [if_pos hc] at h ⊢
      exact up_no c k _ h
    · rw [if_neg hc] at h
      cases h
theorem dl_bd {c : Cal} {p : Int} (h : (dlV c p).2 = true) : 0 ≤ p ∧ p < (dlV c p).1 ∧ (dlV c p).1 ≤ 1048576 ∧ restB c (dlV c p).1 = false := by
  unfold dlV addV at *
  cases hd : isDayB p
  · rw [hd] at h; cases h
  · rw [hd] at h
    simp only [if_true] at h ⊢
    obtain ⟨d0, d1⟩ : 0 ≤ p ∧ p ≤ 1048576 := by simpa [isDayB] using hd
    have := up_bd c _ 5 (by omega) (by omega) h
    exact ⟨d0, by omega, this.2⟩
def daysV (c : Cal) (p t : Int) : Int := if (dlV c p).2 then cntF c (max t p + 1) ((dlV c p).1 - max t p).toNat else 0
def preclV (c : Cal) (p t : Int) (ans : Bool) : Bool := !ans && (dlV c p).2 && decide ((dlV c p).1 < t)
theorem between_days {c : Cal} {p t : Int} (h : (dlV c p).2 = true) (ht : t ≤ (dlV c p).1) : betweenV c (max t p + 1) ((dlV c p).1 + 1) = daysV c p t := by
  have hb := dl_bd h
  unfold betweenV daysV
  rw [if_pos h]
  rw [show max (max t p + 1) 0 = max t p + 1 by omega, show min ((dlV c p).1 + 1) 1048577 - (max t p + 1) = (dlV c p).1 - max t p by omega]
theorem days_none {c : Cal} {p t : Int} (h : (dlV c p).2 = false ∨ (dlV c p).1 < t) : daysV c p t = 0 := by
  unfold daysV
  rcases h with h | h
  · rw [h]; rfl
  · split
    · rw [show ((dlV c p).1 - max t p).toNat = 0 by omega]; rfl
    · rfl

theorem deadline_any (c : Cal) (A1 : Option Addr) (n1 c1 : Nat) (A2 : Option Addr) (n2 c2 : Nat) (p : Int) (w : World) (h1 : SliceOf w 1 intC A1 n1 c.rest) (h2 : SliceOf w 1 intC A2 n2 c.hol) (m1 : n1 ≤ maxLen) (m2 : n2 ≤ maxLen) :
    Calls Try.prog 11 #[.agg #[.slice A1 n1 c1, .slice A2 n2 c2], .int .i64 p] w fun e w' => e = .returned (.tuple #[.int .i64 (dlV c p).1, .bool (dlV c p).2]) ∧ Below w.heap.size w w' := by
  have H1 := Lib.hid h1
  have H2 := Lib.hid h2
  have l1 := h1.len
  have l2 := h2.len
  clear h1 h2
  have hB0 : Below w.heap.size w (w.alloc (.cells #[.slice A1 n1 c1, .slice A2 n2 c2] 24)) := (Below.refl _ _).alloc (Nat.le_refl _) _
  have hk0 : Blk (w.alloc (.cells #[.slice A1 n1 c1, .slice A2 n2 c2] 24)) w.heap.size 24 #[.slice A1 n1 c1, .slice A2 n2 c2] := Blk.new _ _ _
  go_enter Try.func11, Try.ntmps11
  go_wp2_with fail
  refine (add_up c A1 n1 c1 A2 n2 c2 p 5 ⟨by omega, by omega⟩ _ (H1.out.below hB0) (H2.out.below hB0) m1 m2).mono ?_
  rintro e w1 ⟨rfl, hb1⟩
  have hB1 := hB0.trans (hb1.mono hB0.size)
  have hk1 := hk0.below hb1 hk0.lt
  clear hB0 hk0 hb1
  go_wp2_with fail
  go_ret2
  exact ⟨rfl, hB1⟩
theorem expiry_any (c : Cal) (A1 : Option Addr) (n1 c1 : Nat) (A2 : Option Addr) (n2 c2 : Nat) (p : Int) (w : World) (h1 : SliceOf w 1 intC A1 n1 c.rest) (h2 : SliceOf w 1 intC A2 n2 c.hol) (m1 : n1 ≤ maxLen) (m2 : n2 ≤ maxLen) :
    Calls Try.prog 17 #[.agg #[.slice A1 n1 c1, .slice A2 n2 c2], .int .i64 p] w fun e w' => e = .returned (.tuple #[.int .i64 (nextV c p).1, .bool (nextV c p).2]) ∧ Below w.heap.size w w' := by
  have H1 := Lib.hid h1
  have H2 := Lib.hid h2
  have l1 := h1.len
  have l2 := h2.len
  clear h1 h2
  have hB0 : Below w.heap.size w (w.alloc (.cells #[.slice A1 n1 c1, .slice A2 n2 c2] 24)) := (Below.refl _ _).alloc (Nat.le_refl _) _
  have hk0 : Blk (w.alloc (.cells #[.slice A1 n1 c1, .slice A2 n2 c2] 24)) w.heap.size 24 #[.slice A1 n1 c1, .slice A2 n2 c2] := Blk.new _ _ _
  go_enter Try.func17, Try.ntmps17
  go_wp2_with fail
  refine (next_any c A1 n1 c1 A2 n2 c2 p _ (H1.out.below hB0) (H2.out.below hB0) m1 m2).mono ?_
  rintro e w1 ⟨rfl, hb1⟩
  have hB1 := hB0.trans (hb1.mono hB0.size)
  have hk1 := hk0.below hb1 hk0.lt
  clear hB0 hk0 hb1
  go_wp2_with fail
  go_ret2
  exact ⟨rfl, hB1⟩

theorem works_in {c : Cal} {d : Int} (h : isDayB d = true) : worksB c d = !restB c d := by unfold worksB; rw [h]; rfl
set_option maxHeartbeats 800000 in
theorem rdeadline_any (c : Cal) (A1 : Option Addr) (n1 c1 : Nat) (A2 : Option Addr) (n2 c2 : Nat) (p : Int) (w : World) (h1 : SliceOf w 1 intC A1 n1 c.rest) (h2 : SliceOf w 1 intC A2 n2 c.hol) (m1 : n1 ≤ maxLen) (m2 : n2 ≤ maxLen) :
    Calls Try.prog 16 #[.agg #[.slice A1 n1 c1, .slice A2 n2 c2], .int .i64 p] w fun e w' => e = .returned (.tuple #[.int .i64 (dlV c p).1, .bool (dlV c p).2]) ∧ Below w.heap.size w w' := by
  have H1 := Lib.hid h1
  have H2 := Lib.hid h2
  have l1 := h1.len
  have l2 := h2.len
  clear h1 h2
  have hB0 : Below w.heap.size w (w.alloc (.cells #[.slice A1 n1 c1, .slice A2 n2 c2] 24)) := (Below.refl _ _).alloc (Nat.le_refl _) _
  have hk0 : Blk (w.alloc (.cells #[.slice A1 n1 c1, .slice A2 n2 c2] 24)) w.heap.size 24 #[.slice A1 n1 c1, .slice A2 n2 c2] := Blk.new _ _ _
  cases hd : isDayB p
  · have e0 : dlV c p = (0, false) := by unfold dlV addV; rw [hd]; rfl
    have HD := Lib.hid hd
    rw [e0]
    clear e0 hd
    go_enter Try.func16, Try.ntmps16
    go_wp2_with fail
    refine (ris_any p _).mono ?_
    rw [HD.out]
    rintro e w2 ⟨rfl, rfl⟩
    go_wp2_with fail
    go_ret2
    exact ⟨rfl, hB0⟩
  obtain ⟨d0, d1⟩ : 0 ≤ p ∧ p ≤ 1048576 := by simpa [isDayB] using hd
  obtain ⟨R, hR⟩ : ∃ R, upF c (1048577 - (p + 1)).toNat 5 = R := ⟨_, rfl⟩
  have e0 : dlV c p = R := by unfold dlV addV; rw [hd, ← hR]; simp only [if_true]; congr 1; omega
  have HD := Lib.hid hd
  have HR := Lib.hid hR
  rw [e0]
  clear e0 hd hR
  go_enter Try.func16, Try.ntmps16
  go_wp2_with fail
  refine (ris_any p _).mono ?_
  rw [HD.out]
  rintro e w2 ⟨rfl, rfl⟩
  go_wp2_with fail
  go_loopw [6, 7] (fun vn vd wr => ∃ (n d : Int), vn = .int .i64 n ∧ vd = .int .i64 d ∧ 0 ≤ n ∧ n < 5 ∧ 0 ≤ d ∧ d ≤ 1048577 ∧ Below w.heap.size w wr ∧ Blk wr w.heap.size 24 #[.slice A1 n1 c1, .slice A2 n2 c2] ∧ Hid (upF c (1048577 - d).toNat (5 - n) = R)) (fun _ vd _ => (1048577 - intOf vd).toNat)
  case atStart => exact ⟨0, p + 1, rfl, rfl, by omega, by omega, by omega, by omega, hB0, hk0, HR⟩
  case round =>
    obtain ⟨n, d, rfl, rfl, n0, n5, dd0, dd1, hB1, hk1, hr⟩ := hrel
    clear hB0 hk0
    by_cases hlt : d ≤ 1048576
    · have hd : isDayB d = true := by simp [isDayB]; omega
      have hu := up_in c d (5 - n) hd
      rw [hr.out] at hu
      have a0 := hk1.cell 0; have a1 := hk1.cell 1; simp only [List.getElem?_toArray, List.getElem?_cons_zero, List.getElem?_cons_succ] at a0 a1
      have HW := Lib.hid (works_in (c := c) hd)
      cases hrest : restB c d
      · rw [hrest] at hu
        have HE : Hid (worksB c d = true) := Lib.hid (by rw [HW.out, hrest]; rfl)
        by_cases h5 : n = 4
        · have e0 : Hid (R = (d, true)) := Lib.hid (by rw [hu, h5]; rfl)
          have h5' : (n + 1 == 5) = true := by simp [h5]
          clear hu hrest hd h5
          go_wp2_with fail
          refine (rworks_any c A1 n1 c1 A2 n2 c2 d _ (H1.out.below hB1) (H2.out.below hB1) m1 m2).mono ?_
          rw [HE.out]
          rintro e w3 ⟨rfl, hb3⟩
          clear a0 a1
          have hB3 := hB1.trans (hb3.mono hB1.size)
          have hk3 := hk1.below hb3 hk1.lt
          clear hB1 hk1 hb3
          go_wp2_with fail
          go_ret2
          exact ⟨ret_ib e0.out, hB3⟩
        · have e0 : Hid (upF c (1048577 - (d + 1)).toNat (5 - (n + 1)) = R) := Lib.hid (by rw [hu]; simp only [Bool.false_eq_true, if_false]; rw [if_pos (by omega)]; congr 1; omega)
          have h5' : (n + 1 == 5) = false := by simp; omega
          have n4 : n < 4 := by omega
          clear hu hrest hd h5
          go_wp2_with fail
          refine (rworks_any c A1 n1 c1 A2 n2 c2 d _ (H1.out.below hB1) (H2.out.below hB1) m1 m2).mono ?_
          rw [HE.out]
          rintro e w3 ⟨rfl, hb3⟩
          clear a0 a1
          have hB3 := hB1.trans (hb3.mono hB1.size)
          have hk3 := hk1.below hb3 hk1.lt
          clear hB1 hk1 hb3
          go_wp2_with fail
          go_roundw
          case rel => exact ⟨n + 1, d + 1, rfl, rfl, by omega, by omega, by omega, by omega, hB3, hk3, e0⟩
          case measure => simp [intOf]; omega
      · rw [hrest] at hu
        have HE : Hid (worksB c d = false) := Lib.hid (by rw [HW.out, hrest]; rfl)
        have e0 : Hid (upF c (1048577 - (d + 1)).toNat (5 - n) = R) := Lib.hid (by rw [hu]; simp only [if_true]; rw [if_pos (by omega)])
        have h5' : (n == 5) = false := by simp; omega
        clear hu hrest hd
        go_wp2_with fail
        refine (rworks_any c A1 n1 c1 A2 n2 c2 d _ (H1.out.below hB1) (H2.out.below hB1) m1 m2).mono ?_
        rw [HE.out]
        rintro e w3 ⟨rfl, hb3⟩
        clear a0 a1
        have hB3 := hB1.trans (hb3.mono hB1.size)
        have hk3 := hk1.below hb3 hk1.lt
        clear hB1 hk1 hb3
        go_wp2_with fail
        go_roundw
        case rel => exact ⟨n, d + 1, rfl, rfl, by omega, by omega, by omega, by omega, hB3, hk3, e0⟩
        case measure => simp [intOf]; omega
    · have e0 : Hid (R = (0, false)) := Lib.hid (by have := hr.out; rw [show (1048577 - d).toNat = 0 by omega] at this; exact this.symm)
      go_wp2_with fail
      go_ret2
      exact ⟨ret_ib e0.out, hB1⟩

set_option maxHeartbeats 800000 in
theorem rexpiry_any (c : Cal) (A1 : Option Addr) (n1 c1 : Nat) (A2 : Option Addr) (n2 c2 : Nat) (p : Int) (w : World) (h1 : SliceOf w 1 intC A1 n1 c.rest) (h2 : SliceOf w 1 intC A2 n2 c.hol) (m1 : n1 ≤ maxLen) (m2 : n2 ≤ maxLen) :
    Calls Try.prog 18 #[.agg #[.slice A1 n1 c1, .slice A2 n2 c2], .int .i64 p] w fun e w' => e = .returned (.tuple #[.int .i64 (nextV c p).1, .bool (nextV c p).2]) ∧ Below w.heap.size w w' := by
  have H1 := Lib.hid h1
  have H2 := Lib.hid h2
  have l1 := h1.len
  have l2 := h2.len
  clear h1 h2
  have hB0 : Below w.heap.size w (w.alloc (.cells #[.slice A1 n1 c1, .slice A2 n2 c2] 24)) := (Below.refl _ _).alloc (Nat.le_refl _) _
  have hk0 : Blk (w.alloc (.cells #[.slice A1 n1 c1, .slice A2 n2 c2] 24)) w.heap.size 24 #[.slice A1 n1 c1, .slice A2 n2 c2] := Blk.new _ _ _
  cases hd : isDayB p
  · have e0 : nextV c p = (0, false) := by unfold nextV; rw [hd]; rfl
    have HD := Lib.hid hd
    rw [e0]
    clear e0 hd
    go_enter Try.func18, Try.ntmps18
    go_wp2_with fail
    refine (ris_any p _).mono ?_
    rw [HD.out]
    rintro e w2 ⟨rfl, rfl⟩
    go_wp2_with fail
    go_ret2
    exact ⟨rfl, hB0⟩
  obtain ⟨d0, d1⟩ : 0 ≤ p ∧ p ≤ 1048576 := by simpa [isDayB] using hd
  obtain ⟨R, hR⟩ : ∃ R, upF c (1048577 - p).toNat 1 = R := ⟨_, rfl⟩
  have e0 : nextV c p = R := by unfold nextV; rw [hd, ← hR]; rfl
  have HD := Lib.hid hd
  have HR := Lib.hid hR
  rw [e0]
  clear e0 hd hR
  go_enter Try.func18, Try.ntmps18
  go_wp2_with fail
  refine (ris_any p _).mono ?_
  rw [HD.out]
  rintro e w2 ⟨rfl, rfl⟩
  go_wp2_with fail
  go_loopw [6] (fun vd wr => ∃ (d : Int), vd = .int .i64 d ∧ 0 ≤ d ∧ d ≤ 1048577 ∧ Below w.heap.size w wr ∧ Blk wr w.heap.size 24 #[.slice A1 n1 c1, .slice A2 n2 c2] ∧ Hid (upF c (1048577 - d).toNat 1 = R)) (fun vd _ => (1048577 - intOf vd).toNat)
  case atStart => exact ⟨p, rfl, d0, by omega, hB0, hk0, HR⟩
  case round =>
    obtain ⟨d, rfl, dd0, dd1, hB1, hk1, hr⟩ := hrel
    clear hB0 hk0
    by_cases hlt : d ≤ 1048576
    · have hd : isDayB d = true := by simp [isDayB]; omega
      have hu := up_in c d 1 hd
      rw [hr.out] at hu
      have a0 := hk1.cell 0; have a1 := hk1.cell 1; simp only [List.getElem?_toArray, List.getElem?_cons_zero, List.getElem?_cons_succ] at a0 a1
      have HW := Lib.hid (works_in (c := c) hd)
      cases hrest : restB c d
      · rw [hrest] at hu
        have HE : Hid (worksB c d = true) := Lib.hid (by rw [HW.out, hrest]; rfl)
        have e0 : Hid (R = (d, true)) := Lib.hid (by rw [hu]; rfl)
        clear hu hrest hd
        go_wp2_with fail
        refine (rworks_any c A1 n1 c1 A2 n2 c2 d _ (H1.out.below hB1) (H2.out.below hB1) m1 m2).mono ?_
        rw [HE.out]
        rintro e w3 ⟨rfl, hb3⟩
        clear a0 a1
        have hB3 := hB1.trans (hb3.mono hB1.size)
        have hk3 := hk1.below hb3 hk1.lt
        clear hB1 hk1 hb3
        go_wp2_with fail
        go_ret2
        exact ⟨ret_ib e0.out, hB3⟩
      · rw [hrest] at hu
        have HE : Hid (worksB c d = false) := Lib.hid (by rw [HW.out, hrest]; rfl)
        have e0 : Hid (upF c (1048577 - (d + 1)).toNat 1 = R) := Lib.hid (by rw [hu]; rfl)
        clear hu hrest hd
        go_wp2_with fail
        refine (rworks_any c A1 n1 c1 A2 n2 c2 d _ (H1.out.below hB1) (H2.out.below hB1) m1 m2).mono ?_
        rw [HE.out]
        rintro e w3 ⟨rfl, hb3⟩
        clear a0 a1
        have hB3 := hB1.trans (hb3.mono hB1.size)
        have hk3 := hk1.below hb3 hk1.lt
        clear hB1 hk1 hb3
        go_wp2_with fail
        go_roundw
        case rel => exact ⟨d + 1, rfl, by omega, by omega, hB3, hk3, e0⟩
        case measure => simp [intOf]; omega
    · have e0 : Hid (R = (0, false)) := Lib.hid (by have := hr.out; rw [show (1048577 - d).toNat = 0 by omega] at this; exact this.symm)
      go_wp2_with fail
      go_ret2
      exact ⟨ret_ib e0.out, hB1⟩
end Go.Proofs.Ytfiflmgjcmmomaa
