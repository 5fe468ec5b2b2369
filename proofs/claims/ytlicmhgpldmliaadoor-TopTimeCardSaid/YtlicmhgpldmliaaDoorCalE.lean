/- The n-th working day: day.along. No condition. -/
import Derived.Test.YtlicmhgpldmliaaDoorCalD
import Derived.ScopeJumps
import Derived.WalkMore
import Derived.Outline
namespace Go.Proofs.YtlicmhgpldmliaaDoor.cal
open Go.RowKit Go.Proofs.YtlicmhgpldmliaaDoor.kit
set_option linter.unusedVariables false

--%
/-- A plan of a calendar, as data. -/
structure Plan (w : World) (c : Cal) (f : Int → Bool) (A : Option Addr) (n : Nat) (xs : List Int) : Prop where
  sl : SliceOf w 1 intC A n xs
  le : n ≤ 4096
  up : xs.Pairwise (· < ·)
  pos : ∀ x ∈ xs, 0 ≤ x
  is : ∀ d, (f (d % 7) || has xs d) = restB c d
theorem ready_any (c : Cal) (A1 : Option Addr) (n1 c1 : Nat) (A2 : Option Addr) (n2 c2 : Nat) (w : World) (h1 : SliceOf w 1 intC A1 n1 c.rest) (h2 : SliceOf w 1 intC A2 n2 c.hol) (m1 : n1 ≤ maxLen) (m2 : n2 ≤ maxLen) (wx : World) (hx : Below w.heap.size w wx) :
    Calls Tryd.prog 18 #[.agg #[.slice A1 n1 c1, .slice A2 n2 c2]] wx fun e w' => ∃ (f : Int → Bool) (A : Option Addr) (n c' : Nat) (xs : List Int), e = .returned (.agg #[.bool (f 0), .bool (f 1), .bool (f 2), .bool (f 3), .bool (f 4), .bool (f 5), .bool (f 6), .slice A n c']) ∧ Plan w c f A n xs ∧ Below wx.heap.size wx w' := by
  cases hm : mayB c
  · exact (ready_no c A1 n1 c1 A2 n2 c2 wx (h1.below hx) (h2.below hx) m1 m2 hm).mono fun e w' ⟨he, hb⟩ => ⟨noF, none, 0, 0, [], he, ⟨SliceOf.none_, by omega, List.Pairwise.nil, by simp, fun d => by unfold restB; rw [hm]; rfl⟩, hb⟩
  · have hh := may_iff hm
    exact (ready_yes c A1 n1 c1 A2 n2 c2 wx (h1.below hx) (h2.below hx) m1 m2 hm).mono fun e w' ⟨he, hb⟩ => ⟨has c.rest, A2, n2, c2, c.hol, he, ⟨h2, by have := h2.len; omega, rises_sorted hh.2.2.2, fun x hx => (rises_in hh.2.2.2 x hx).2.1, fun d => by unfold restB; rw [hm]; rfl⟩, hb⟩

theorem up_out (c : Cal) (d n : Int) (h : isDayB d = false) (h0 : 0 ≤ d) : upF c (1048577 - d).toNat n = (0, false) := by
  have : ¬ (0 ≤ d ∧ d ≤ 1048576) := by simpa [isDayB] using h
  rw [show (1048577 - d).toNat = 0 by omega]; rfl
theorem up_in (c : Cal) (d n : Int) (h : isDayB d = true) : upF c (1048577 - d).toNat n = if 0 < (if restB c d then n else n - 1) then upF c (1048577 - (d + 1)).toNat (if restB c d then n else n - 1) else (d, true) := by
  obtain ⟨h0, h1⟩ : 0 ≤ d ∧ d ≤ 1048576 := by simpa [isDayB] using h
  obtain ⟨k, hk⟩ : ∃ k : Nat, (1048577 - d).toNat = k + 1 := ⟨(1048576 - d).toNat, by omega⟩
  have hd : (1048576 - k : Int) = d := by omega
  have hk2 : (1048577 - (d + 1)).toNat = k := by omega
  rw [hk, hk2, upF, hd]
theorem ret_ib {r : Int × Bool} {a : Int} {b : Bool} (h : r = (a, b)) : Ending.returned (.tuple #[.int .i64 a, .bool b]) = .returned (.tuple #[.int .i64 r.1, .bool r.2]) := by rw [h]

/-- What holds whenever the walk over the days comes to its label. -/
def AtLabel (w : World) (c : Cal) (A1 : Option Addr) (n1 c1 : Nat) (A2 : Option Addr) (n2 c2 : Nat) (R : Int × Bool) (a' : Act) (w' : World) : Prop :=
  ∃ (f : Int → Bool) (A : Option Addr) (np cp : Nat) (xs : List Int) (g : Nat) (d n : Int) (u13 u14 u15 u16 u17 u18 u19 u20 u21 u22 u23 u24 u25 u26 u27 : Value), a' = { tmps := #[.agg #[.slice A1 n1 c1, .slice A2 n2 c2], .int .i64 d, .int .i64 1, .int .i64 n, .pointer (some ⟨w.heap.size, 0, none⟩), undef, undef, undef, .int .i64 0, .bool false, .pointer (some ⟨g, 0, none⟩), .agg #[.slice A1 n1 c1, .slice A2 n2 c2], .agg #[.bool (f 0), .bool (f 1), .bool (f 2), .bool (f 3), .bool (f 4), .bool (f 5), .bool (f 6), .slice A np cp], u13, u14, u15, u16, u17, u18, u19, u20, u21, u22, u23, u24, u25, u26, u27], defers := [] } ∧
    Hid (Plan w c f A np xs) ∧ Below w.heap.size w w' ∧ Blk w' g 53 #[.bool (f 0), .bool (f 1), .bool (f 2), .bool (f 3), .bool (f 4), .bool (f 5), .bool (f 6), .slice A np cp] ∧ 0 ≤ d ∧ d ≤ 1048577 ∧ 1 ≤ n ∧ n ≤ 1048576 ∧ Hid (upF c (1048577 - d).toNat n = R)

--%
--%
set_option maxRecDepth 100000 in
set_option maxHeartbeats 1600000 in
theorem along_up (c : Cal) (A1 : Option Addr) (n1 c1 : Nat) (A2 : Option Addr) (n2 c2 : Nat) (d n : Int) (hd : 0 ≤ d ∧ d ≤ 1048577) (hn : 1 ≤ n ∧ n ≤ 1048576) (w : World) (h1 : SliceOf w 1 intC A1 n1 c.rest) (h2 : SliceOf w 1 intC A2 n2 c.hol) (m1 : n1 ≤ maxLen) (m2 : n2 ≤ maxLen) :
    Calls Tryd.prog 16 #[.agg #[.slice A1 n1 c1, .slice A2 n2 c2], .int .i64 d, .int .i64 1, .int .i64 n] w fun e w' => e = .returned (.tuple #[.int .i64 (upF c (1048577 - d).toNat n).1, .bool (upF c (1048577 - d).toNat n).2]) ∧ Below w.heap.size w w' := by
  have H1 := Lib.hid h1
  have H2 := Lib.hid h2
  have l1 := h1.len
  have l2 := h2.len
  clear h1 h2
  have hB0 : Below w.heap.size w (w.alloc (.cells #[.slice A1 n1 c1, .slice A2 n2 c2] 24)) := (Below.refl _ _).alloc (Nat.le_refl _) _
  have hk0 : Blk (w.alloc (.cells #[.slice A1 n1 c1, .slice A2 n2 c2] 24)) w.heap.size 24 #[.slice A1 n1 c1, .slice A2 n2 c2] := Blk.new _ _ _
  obtain ⟨d0, d1⟩ := hd
  obtain ⟨n0, n1'⟩ := hn
  obtain ⟨R, hR⟩ : ∃ R, upF c (1048577 - d).toNat n = R := ⟨_, rfl⟩
  rw [hR]
  have HR := Lib.hid hR
  clear hR
  go_enter Tryd.func16, Tryd.ntmps16
  go_wp2_with fail
  refine wp_scope_jumps 0 (AtLabel w c A1 n1 c1 A2 n2 c2 R) (fun a' _ => (1048578 - intOf (a'.tmps.getD 1 undef)).toNat) rfl ?_ ?_
  · go_wp2_with fail
    refine (ready_any c A1 n1 c1 A2 n2 c2 w H1.out H2.out m1 m2 _ hB0).mono ?_
    rintro e w1 ⟨f, A, np, cp, xs, rfl, hp0, hb1⟩
    have hp := Lib.hid hp0
    have hB := (hB0.trans (hb1.mono hB0.size)).alloc (hB0.trans (hb1.mono hB0.size)).size (.cells #[.bool (f 0), .bool (f 1), .bool (f 2), .bool (f 3), .bool (f 4), .bool (f 5), .bool (f 6), .slice A np cp] 53)
    have hblk : Blk (w1.alloc (.cells #[.bool (f 0), .bool (f 1), .bool (f 2), .bool (f 3), .bool (f 4), .bool (f 5), .bool (f 6), .slice A np cp] 53)) w1.heap.size 53 #[.bool (f 0), .bool (f 1), .bool (f 2), .bool (f 3), .bool (f 4), .bool (f 5), .bool (f 6), .slice A np cp] := Blk.new _ _ _
    clear hp0 hB0 hk0 hb1
    go_wp2_with fail
    go_step3
    generalize w1.alloc (.cells #[.bool (f 0), .bool (f 1), .bool (f 2), .bool (f 3), .bool (f 4), .bool (f 5), .bool (f 6), .slice A np cp] 53) = wr at *
    generalize w1.heap.size = g at *
    have p0 := hblk.cell 0; have p1 := hblk.cell 1; have p2 := hblk.cell 2; have p3 := hblk.cell 3; have p4 := hblk.cell 4; have p5 := hblk.cell 5; have p6 := hblk.cell 6; have p7 := hblk.cell 7
    simp only [List.getElem?_toArray, List.getElem?_cons_zero, List.getElem?_cons_succ] at p0 p1 p2 p3 p4 p5 p6 p7
    cases hd : isDayB d
    · have e0 : Hid (R = (0, false)) := Lib.hid (by rw [← HR.out]; exact up_out c d n hd d0)
      have HD := Lib.hid hd
      clear hd
      go_wp2_with fail
      refine (isDay_any d _).mono ?_
      rw [HD.out]
      rintro e w2 ⟨rfl, rfl⟩
      go_wp2_with fail
      simp only [Exit.jump]
      go_ret2
      exact ⟨ret_ib e0.out, hB⟩
    have hr := up_in c d n hd
    rw [HR.out] at hr
    obtain ⟨dd0, dd1⟩ : 0 ≤ d ∧ d ≤ 1048576 := by simpa [isDayB] using hd
    have HD := Lib.hid hd
    have HI := Lib.hid (hp.out.is d)
    have hq : ∀ w', Below w.heap.size w w' → Calls Tryd.prog 19 #[.agg #[.bool (f 0), .bool (f 1), .bool (f 2), .bool (f 3), .bool (f 4), .bool (f 5), .bool (f 6), .slice A np cp], .int .i64 d] w' fun e w'' => e = .returned (.bool (restB c d)) ∧ Below w'.heap.size w' w'' := fun w' hb' => by
      have := prests_any f A np cp xs d d0 w' (hp.out.sl.below hb') hp.out.le hp.out.up
      rw [HI.out] at this
      exact this
    have HQ := Lib.hid hq
    clear hd hq
    cases hrest : restB c d
    · rw [hrest] at hr
      have HE := Lib.hid hrest
      clear hrest
      by_cases hn1 : n = 1
      · have e0 : Hid (R = (d, true)) := Lib.hid (by rw [hr, hn1]; rfl)
        have hn2 : ¬ 0 < n - 1 := by omega
        clear hr hn1
        go_wp2_with fail
        refine (isDay_any d _).mono ?_
        rw [HD.out]
        rintro e w2 ⟨rfl, rfl⟩
        go_wp2_with fail
        refine (HQ.out _ hB).mono ?_
        rw [HE.out]
        rintro e w2 ⟨rfl, hb2⟩
        have hB2 := hB.trans (hb2.mono hB.size)
        go_wp2_with fail
        simp only [Exit.jump]
        go_ret2
        exact ⟨ret_ib e0.out, hB2⟩
      · have e0 : Hid (upF c (1048577 - (d + 1)).toNat (n - 1) = R) := Lib.hid (by rw [hr]; simp only [Bool.false_eq_true, if_false]; rw [if_pos (by omega)])
        have hn2 : 0 < n - 1 := by omega
        clear hr hn1
        go_wp2_with fail
        refine (isDay_any d _).mono ?_
        rw [HD.out]
        rintro e w2 ⟨rfl, rfl⟩
        go_wp2_with fail
        refine (HQ.out _ hB).mono ?_
        rw [HE.out]
        rintro e w2 ⟨rfl, hb2⟩
        have hB2 := hB.trans (hb2.mono hB.size)
        have hblk2 := hblk.below hb2 hblk.lt
        go_wp2_with fail
        go_step3
        exact ⟨rfl, ⟨f, A, np, cp, xs, g, d + 1, n - 1, _, _, _, _, _, _, _, _, _, _, _, _, _, _, _, rfl, hp, hB2, hblk2, by omega, by omega, by omega, by omega, e0⟩⟩
    · rw [hrest] at hr
      have HE := Lib.hid hrest
      have e0 : Hid (upF c (1048577 - (d + 1)).toNat n = R) := Lib.hid (by rw [hr]; simp only [if_true]; rw [if_pos (by omega)])
      clear hrest hr
      go_wp2_with fail
      refine (isDay_any d _).mono ?_
      rw [HD.out]
      rintro e w2 ⟨rfl, rfl⟩
      go_wp2_with fail
      refine (HQ.out _ hB).mono ?_
      rw [HE.out]
      rintro e w2 ⟨rfl, hb2⟩
      have hB2 := hB.trans (hb2.mono hB.size)
      have hblk2 := hblk.below hb2 hblk.lt
      go_wp2_with fail
      go_step3
      exact ⟨rfl, ⟨f, A, np, cp, xs, g, d + 1, n, _, _, _, _, _, _, _, _, _, _, _, _, _, _, _, rfl, hp, hB2, hblk2, by omega, by omega, by omega, by omega, e0⟩⟩
  · rintro a' wr ⟨f, A, np, cp, xs, g, d, n, u13, u14, u15, u16, u17, u18, u19, u20, u21, u22, u23, u24, u25, u26, u27, rfl, hp, hB, hblk, d0, d1, n0, n1', HR⟩
    have p0 := hblk.cell 0; have p1 := hblk.cell 1; have p2 := hblk.cell 2; have p3 := hblk.cell 3; have p4 := hblk.cell 4; have p5 := hblk.cell 5; have p6 := hblk.cell 6; have p7 := hblk.cell 7
    simp only [List.getElem?_toArray, List.getElem?_cons_zero, List.getElem?_cons_succ] at p0 p1 p2 p3 p4 p5 p6 p7
    cases hd : isDayB d
    · have e0 : Hid (R = (0, false)) := Lib.hid (by rw [← HR.out]; exact up_out c d n hd d0)
      have HD := Lib.hid hd
      clear hd
      go_wp2_with fail
      refine (isDay_any d _).mono ?_
      rw [HD.out]
      rintro e w2 ⟨rfl, rfl⟩
      go_wp2_with fail
      simp only [Exit.jump]
      go_ret2
      exact ⟨ret_ib e0.out, hB⟩
    have hr := up_in c d n hd
    rw [HR.out] at hr
    obtain ⟨dd0, dd1⟩ : 0 ≤ d ∧ d ≤ 1048576 := by simpa [isDayB] using hd
    have HD := Lib.hid hd
    have HI := Lib.hid (hp.out.is d)
    have hq : ∀ w', Below w.heap.size w w' → Calls Tryd.prog 19 #[.agg #[.bool (f 0), .bool (f 1), .bool (f 2), .bool (f 3), .bool (f 4), .bool (f 5), .bool (f 6), .slice A np cp], .int .i64 d] w' fun e w'' => e = .returned (.bool (restB c d)) ∧ Below w'.heap.size w' w'' := fun w' hb' => by
      have := prests_any f A np cp xs d d0 w' (hp.out.sl.below hb') hp.out.le hp.out.up
      rw [HI.out] at this
      exact this
    have HQ := Lib.hid hq
    clear hd hq
    cases hrest : restB c d
    · rw [hrest] at hr
      have HE := Lib.hid hrest
      clear hrest
      by_cases hn1 : n = 1
      · have e0 : Hid (R = (d, true)) := Lib.hid (by rw [hr, hn1]; rfl)
        have hn2 : ¬ 0 < n - 1 := by omega
        clear hr hn1
        go_wp2_with fail
        refine (isDay_any d _).mono ?_
        rw [HD.out]
        rintro e w2 ⟨rfl, rfl⟩
        go_wp2_with fail
        refine (HQ.out _ hB).mono ?_
        rw [HE.out]
        rintro e w2 ⟨rfl, hb2⟩
        have hB2 := hB.trans (hb2.mono hB.size)
        go_wp2_with fail
        simp only [Exit.jump]
        go_ret2
        exact ⟨ret_ib e0.out, hB2⟩
      · have e0 : Hid (upF c (1048577 - (d + 1)).toNat (n - 1) = R) := Lib.hid (by rw [hr]; simp only [Bool.false_eq_true, if_false]; rw [if_pos (by omega)])
        have hn2 : 0 < n - 1 := by omega
        clear hr hn1
        go_wp2_with fail
        refine (isDay_any d _).mono ?_
        rw [HD.out]
        rintro e w2 ⟨rfl, rfl⟩
        go_wp2_with fail
        refine (HQ.out _ hB).mono ?_
        rw [HE.out]
        rintro e w2 ⟨rfl, hb2⟩
        have hB2 := hB.trans (hb2.mono hB.size)
        have hblk2 := hblk.below hb2 hblk.lt
        go_wp2_with fail
        go_step3
        refine ⟨rfl, ⟨f, A, np, cp, xs, g, d + 1, n - 1, _, _, _, _, _, _, _, _, _, _, _, _, _, _, _, rfl, hp, hB2, hblk2, by omega, by omega, by omega, by omega, e0⟩, ?_⟩
        simp [intOf]; omega
    · rw [hrest] at hr
      have HE := Lib.hid hrest
      have e0 : Hid (upF c (1048577 - (d + 1)).toNat n = R) := Lib.hid (by rw [hr]; simp only [if_true]; rw [if_pos (by omega)])
      clear hrest hr
      go_wp2_with fail
      refine (isDay_any d _).mono ?_
      rw [HD.out]
      rintro e w2 ⟨rfl, rfl⟩
      go_wp2_with fail
      refine (HQ.out _ hB).mono ?_
      rw [HE.out]
      rintro e w2 ⟨rfl, hb2⟩
      have hB2 := hB.trans (hb2.mono hB.size)
      have hblk2 := hblk.below hb2 hblk.lt
      go_wp2_with fail
      go_step3
      refine ⟨rfl, ⟨f, A, np, cp, xs, g, d + 1, n, _, _, _, _, _, _, _, _, _, _, _, _, _, _, _, rfl, hp, hB2, hblk2, by omega, by omega, by omega, by omega, e0⟩, ?_⟩
      simp [intOf]; omega
end Go.Proofs.YtlicmhgpldmliaaDoor.cal
