/- Whether papers are too late: the row of checks. No condition. -/
import Derived.Test.YtfiflmgjcmmomaaLate
import Derived.Laws.EntriesVeiled
namespace Go.Proofs.Ytfiflmgjcmmomaa
open Go.RowKit Go.Proofs.Ytfiflmgjcmmomaa.kit Go.Proofs.Ytfiflmgjcmmomaa.cal
set_option linter.unusedVariables false

def firstV : List (Int × Bool) → Int
  | [] => 0
  | (e, b) :: t => if b then e else firstV t
def badsV (c : Cal) (r : Cr) (sh pr : Int) : List (Int × Bool) :=
  [(1, !fiveDays r sh pr), (4, !(nextV c r.ex).2), (6, decide (pr < sh)), (11, decide (r.la < sh)), (11, decide (shipV c sh r.wi (nextV c r.ex).1 < pr))]
def lateV (c : Cal) (r : Cr) (sh pr : Int) : Int := firstV (badsV c r sh pr)
theorem five_sh {r : Cr} {sh pr : Int} (h : fiveDays r sh pr = true) : (0 ≤ sh ∧ sh ≤ 1048576) ∧ (0 ≤ r.wi ∧ r.wi ≤ 1048576) := by
  unfold fiveDays allDays isDayB at h
  simp at h
  omega
theorem firstV_hit {l : List (Int × Bool)} {k : Nat} {e : Int} {b : Bool} (h : l[k]? = some (e, b)) (hb : b = true) : firstV (l.drop k) = e := by
  rw [List.drop_eq_getElem?_toList_append, h]
  simp [firstV, hb]
theorem firstV_miss {l : List (Int × Bool)} {k : Nat} {e : Int} {b : Bool} (h : l[k]? = some (e, b)) (hb : b = false) : firstV (l.drop k) = firstV (l.drop (k + 1)) := by
  rw [List.drop_eq_getElem?_toList_append, h]
  simp [firstV, hb]

section
variable (w0 : World) (c : Cal) (A1 : Option Addr) (n1 c1 : Nat) (A2 : Option Addr) (n2 c2 : Nat) (r : Cr) (sh pr : Int) (g : Nat) (w : World)
set_option maxHeartbeats 1600000 in
theorem first_any (s1 : SliceOf w0 1 intC A1 n1 c.rest) (s2 : SliceOf w0 1 intC A2 n2 c.hol) (m1 : n1 ≤ maxLen) (m2 : n2 ≤ maxLen) (h : Mem w0 c A1 n1 c1 A2 n2 c2 r sh pr g w 0) :
    Calls Try.prog 33 #[.slice (some ⟨g + 5, 0, none⟩) 5 5] w fun e w' => e = .returned (.int .i64 (lateV c r sh pr)) ∧ Below w0.heap.size w0 w' := by
  have H1 := Lib.hid s1; have H2 := Lib.hid s2
  have HM0 := Lib.hid h
  clear s1 s2 h
  go_enter Try.func33, Try.ntmps33
  go_wp2_with fail
  go_loopw [7] (fun i wr => ∃ (k : Nat) (l : Int), k ≤ 5 ∧ i = .int .i64 k ∧ Hid (lateV c r sh pr = firstV ((badsV c r sh pr).drop k)) ∧ Hid (1 ≤ k → fiveDays r sh pr = true) ∧ Hid (l = if k < 2 then 0 else (nextV c r.ex).1) ∧ Hid (Mem w0 c A1 n1 c1 A2 n2 c2 r sh pr g wr l)) (fun i _ => 5 - (intOf i).toNat)
  case atStart => exact ⟨0, 0, by omega, rfl, Lib.hid rfl, Lib.hid (by omega), Lib.hid rfl, HM0⟩
  case round =>
    obtain ⟨k, l, hk, rfl, hv, hf, hl, HM⟩ := hrel
    have hk' : k = 0 ∨ k = 1 ∨ k = 2 ∨ k = 3 ∨ k = 4 ∨ k = 5 := by omega
    clear hk
    rcases hk' with rfl | rfl | rfl | rfl | rfl | rfl
    · have kE := HM.out.chk.cell 0; have kF := HM.out.chk.cell 1; simp only [List.getElem?_toArray, List.getElem?_cons_zero, List.getElem?_cons_succ] at kE kF
      have hl' : l = 0 := hl.out.trans (if_pos (by omega))
      clear hl
      subst hl'
      have hb0 : Below wr.heap.size wr (wr.alloc (.cells #[.int .i64 1, .func (.func 34) #[] #[.pointer (some ⟨g + 2, 0, none⟩), .pointer (some ⟨g + 3, 0, none⟩), .pointer (some ⟨g + 1, 0, none⟩)]] 55)) := (Below.refl _ _).alloc (Nat.le_refl _) _
      have hn : Blk (wr.alloc (.cells #[.int .i64 1, .func (.func 34) #[] #[.pointer (some ⟨g + 2, 0, none⟩), .pointer (some ⟨g + 3, 0, none⟩), .pointer (some ⟨g + 1, 0, none⟩)]] 55)) wr.heap.size 55 #[.int .i64 1, .func (.func 34) #[] #[.pointer (some ⟨g + 2, 0, none⟩), .pointer (some ⟨g + 3, 0, none⟩), .pointer (some ⟨g + 1, 0, none⟩)]] := Blk.new _ _ _
      have HM1 := Lib.hid (HM.out.below hb0)
      have hne : wr.heap.size ≠ g + 4 := by have := HM.out.last.lt; omega
      clear hb0
      cases hq : (!fiveDays r sh pr)
      · have ev := Lib.hid (hv.out.trans (firstV_miss (k := 0) rfl hq))
        have HQ := Lib.hid hq
        have hf1 : Hid (1 ≤ 0 + 1 → fiveDays r sh pr = true) := Lib.hid (fun _ => by simpa using hq)
        clear hq hn
        go_wp2_with fail
        refine (late1 w0 c A1 n1 c1 A2 n2 c2 r sh pr g _ _ HM1.out).mono ?_
        rw [HQ.out]
        rintro e w1 ⟨rfl, hm, hkp⟩
        have HM2 := Lib.hid hm
        clear hm hkp
        go_wp2_with fail
        go_roundw
        case rel => exact ⟨0 + 1, 0, by omega, by go_num, ev, hf1, Lib.hid rfl, HM2⟩
        case measure => simp [intOf]
      · have ev := Lib.hid (hv.out.trans (firstV_hit (k := 0) rfl hq)).symm
        have HQ := Lib.hid hq
        clear hq
        go_wp2_with fail
        refine (late1 w0 c A1 n1 c1 A2 n2 c2 r sh pr g _ _ HM1.out).mono ?_
        rw [HQ.out]
        rintro e w1 ⟨rfl, hm, hkp⟩
        have kn := (hkp _ _ _ hne hn).cell 0
        simp only [List.getElem?_toArray, List.getElem?_cons_zero] at kn
        have HB := Lib.hid hm.bel
        clear hm hkp
        go_wp2_with fail
        go_ret
        exact ⟨ret_int ev.out, HB.out⟩
    · have kE := HM.out.chk.cell 2; have kF := HM.out.chk.cell 3; simp only [List.getElem?_toArray, List.getElem?_cons_zero, List.getElem?_cons_succ] at kE kF
      have hl' : l = 0 := hl.out.trans (if_pos (by omega))
      clear hl
      subst hl'
      have hb0 : Below wr.heap.size wr (wr.alloc (.cells #[.int .i64 4, .func (.func 36) #[] #[.pointer (some ⟨g, 0, none⟩), .pointer (some ⟨g + 1, 0, none⟩), .pointer (some ⟨g + 4, 0, none⟩)]] 55)) := (Below.refl _ _).alloc (Nat.le_refl _) _
      have hn : Blk (wr.alloc (.cells #[.int .i64 4, .func (.func 36) #[] #[.pointer (some ⟨g, 0, none⟩), .pointer (some ⟨g + 1, 0, none⟩), .pointer (some ⟨g + 4, 0, none⟩)]] 55)) wr.heap.size 55 #[.int .i64 4, .func (.func 36) #[] #[.pointer (some ⟨g, 0, none⟩), .pointer (some ⟨g + 1, 0, none⟩), .pointer (some ⟨g + 4, 0, none⟩)]] := Blk.new _ _ _
      have HM1 := Lib.hid (HM.out.below hb0)
      have hne : wr.heap.size ≠ g + 4 := by have := HM.out.last.lt; omega
      clear hb0
      cases hq : (!(nextV c r.ex).2)
      · have ev := Lib.hid (hv.out.trans (firstV_miss (k := 1) rfl hq))
        have HQ := Lib.hid hq
        have hf1 : Hid (1 ≤ 1 + 1 → fiveDays r sh pr = true) := Lib.hid (fun _ => hf.out (by omega))
        clear hq hn
        go_wp2_with fail
        refine (late2 w0 c A1 n1 c1 A2 n2 c2 r sh pr g _ _ H1.out H2.out m1 m2 HM1.out).mono ?_
        rw [HQ.out]
        rintro e w1 ⟨rfl, hm, hkp⟩
        have HM2 := Lib.hid hm
        clear hm hkp
        go_wp2_with fail
        go_roundw
        case rel => exact ⟨1 + 1, (nextV c r.ex).1, by omega, by go_num, ev, hf1, Lib.hid rfl, HM2⟩
        case measure => simp [intOf]
      · have ev := Lib.hid (hv.out.trans (firstV_hit (k := 1) rfl hq)).symm
        have HQ := Lib.hid hq
        clear hq
        go_wp2_with fail
        refine (late2 w0 c A1 n1 c1 A2 n2 c2 r sh pr g _ _ H1.out H2.out m1 m2 HM1.out).mono ?_
        rw [HQ.out]
        rintro e w1 ⟨rfl, hm, hkp⟩
        have kn := (hkp _ _ _ hne hn).cell 0
        simp only [List.getElem?_toArray, List.getElem?_cons_zero] at kn
        have HB := Lib.hid hm.bel
        clear hm hkp
        go_wp2_with fail
        go_ret
        exact ⟨ret_int ev.out, HB.out⟩
    · have kE := HM.out.chk.cell 4; have kF := HM.out.chk.cell 5; simp only [List.getElem?_toArray, List.getElem?_cons_zero, List.getElem?_cons_succ] at kE kF
      have hl' : l = (nextV c r.ex).1 := hl.out.trans (if_neg (by omega))
      clear hl
      subst hl'
      have hb0 : Below wr.heap.size wr (wr.alloc (.cells #[.int .i64 6, .func (.func 37) #[] #[.pointer (some ⟨g + 3, 0, none⟩), .pointer (some ⟨g + 2, 0, none⟩)]] 55)) := (Below.refl _ _).alloc (Nat.le_refl _) _
      have hn : Blk (wr.alloc (.cells #[.int .i64 6, .func (.func 37) #[] #[.pointer (some ⟨g + 3, 0, none⟩), .pointer (some ⟨g + 2, 0, none⟩)]] 55)) wr.heap.size 55 #[.int .i64 6, .func (.func 37) #[] #[.pointer (some ⟨g + 3, 0, none⟩), .pointer (some ⟨g + 2, 0, none⟩)]] := Blk.new _ _ _
      have HM1 := Lib.hid (HM.out.below hb0)
      have hne : wr.heap.size ≠ g + 4 := by have := HM.out.last.lt; omega
      clear hb0
      cases hq : (decide (pr < sh))
      · have ev := Lib.hid (hv.out.trans (firstV_miss (k := 2) rfl hq))
        have HQ := Lib.hid hq
        have hf1 : Hid (1 ≤ 2 + 1 → fiveDays r sh pr = true) := Lib.hid (fun _ => hf.out (by omega))
        clear hq hn
        go_wp2_with fail
        refine (late3 w0 c A1 n1 c1 A2 n2 c2 r sh pr g _ _ HM1.out).mono ?_
        rw [HQ.out]
        rintro e w1 ⟨rfl, hm, hkp⟩
        have HM2 := Lib.hid hm
        clear hm hkp
        go_wp2_with fail
        go_roundw
        case rel => exact ⟨2 + 1, (nextV c r.ex).1, by omega, by go_num, ev, hf1, Lib.hid rfl, HM2⟩
        case measure => simp [intOf]
      · have ev := Lib.hid (hv.out.trans (firstV_hit (k := 2) rfl hq)).symm
        have HQ := Lib.hid hq
        clear hq
        go_wp2_with fail
        refine (late3 w0 c A1 n1 c1 A2 n2 c2 r sh pr g _ _ HM1.out).mono ?_
        rw [HQ.out]
        rintro e w1 ⟨rfl, hm, hkp⟩
        have kn := (hkp _ _ _ hne hn).cell 0
        simp only [List.getElem?_toArray, List.getElem?_cons_zero] at kn
        have HB := Lib.hid hm.bel
        clear hm hkp
        go_wp2_with fail
        go_ret
        exact ⟨ret_int ev.out, HB.out⟩
    · have kE := HM.out.chk.cell 6; have kF := HM.out.chk.cell 7; simp only [List.getElem?_toArray, List.getElem?_cons_zero, List.getElem?_cons_succ] at kE kF
      have hl' : l = (nextV c r.ex).1 := hl.out.trans (if_neg (by omega))
      clear hl
      subst hl'
      have hb0 : Below wr.heap.size wr (wr.alloc (.cells #[.int .i64 11, .func (.func 38) #[] #[.pointer (some ⟨g + 2, 0, none⟩), .pointer (some ⟨g + 1, 0, none⟩)]] 55)) := (Below.refl _ _).alloc (Nat.le_refl _) _
      have hn : Blk (wr.alloc (.cells #[.int .i64 11, .func (.func 38) #[] #[.pointer (some ⟨g + 2, 0, none⟩), .pointer (some ⟨g + 1, 0, none⟩)]] 55)) wr.heap.size 55 #[.int .i64 11, .func (.func 38) #[] #[.pointer (some ⟨g + 2, 0, none⟩), .pointer (some ⟨g + 1, 0, none⟩)]] := Blk.new _ _ _
      have HM1 := Lib.hid (HM.out.below hb0)
      have hne : wr.heap.size ≠ g + 4 := by have := HM.out.last.lt; omega
      clear hb0
      cases hq : (decide (r.la < sh))
      · have ev := Lib.hid (hv.out.trans (firstV_miss (k := 3) rfl hq))
        have HQ := Lib.hid hq
        have hf1 : Hid (1 ≤ 3 + 1 → fiveDays r sh pr = true) := Lib.hid (fun _ => hf.out (by omega))
        clear hq hn
        go_wp2_with fail
        refine (late4 w0 c A1 n1 c1 A2 n2 c2 r sh pr g _ _ HM1.out).mono ?_
        rw [HQ.out]
        rintro e w1 ⟨rfl, hm, hkp⟩
        have HM2 := Lib.hid hm
        clear hm hkp
        go_wp2_with fail
        go_roundw
        case rel => exact ⟨3 + 1, (nextV c r.ex).1, by omega, by go_num, ev, hf1, Lib.hid rfl, HM2⟩
        case measure => simp [intOf]
      · have ev := Lib.hid (hv.out.trans (firstV_hit (k := 3) rfl hq)).symm
        have HQ := Lib.hid hq
        clear hq
        go_wp2_with fail
        refine (late4 w0 c A1 n1 c1 A2 n2 c2 r sh pr g _ _ HM1.out).mono ?_
        rw [HQ.out]
        rintro e w1 ⟨rfl, hm, hkp⟩
        have kn := (hkp _ _ _ hne hn).cell 0
        simp only [List.getElem?_toArray, List.getElem?_cons_zero] at kn
        have HB := Lib.hid hm.bel
        clear hm hkp
        go_wp2_with fail
        go_ret
        exact ⟨ret_int ev.out, HB.out⟩
    · have kE := HM.out.chk.cell 8; have kF := HM.out.chk.cell 9; simp only [List.getElem?_toArray, List.getElem?_cons_zero, List.getElem?_cons_succ] at kE kF
      have hl' : l = (nextV c r.ex).1 := hl.out.trans (if_neg (by omega))
      clear hl
      subst hl'
      have hb0 : Below wr.heap.size wr (wr.alloc (.cells #[.int .i64 11, .func (.func 39) #[] #[.pointer (some ⟨g + 3, 0, none⟩), .pointer (some ⟨g, 0, none⟩), .pointer (some ⟨g + 2, 0, none⟩), .pointer (some ⟨g + 1, 0, none⟩), .pointer (some ⟨g + 4, 0, none⟩)]] 55)) := (Below.refl _ _).alloc (Nat.le_refl _) _
      have hn : Blk (wr.alloc (.cells #[.int .i64 11, .func (.func 39) #[] #[.pointer (some ⟨g + 3, 0, none⟩), .pointer (some ⟨g, 0, none⟩), .pointer (some ⟨g + 2, 0, none⟩), .pointer (some ⟨g + 1, 0, none⟩), .pointer (some ⟨g + 4, 0, none⟩)]] 55)) wr.heap.size 55 #[.int .i64 11, .func (.func 39) #[] #[.pointer (some ⟨g + 3, 0, none⟩), .pointer (some ⟨g, 0, none⟩), .pointer (some ⟨g + 2, 0, none⟩), .pointer (some ⟨g + 1, 0, none⟩), .pointer (some ⟨g + 4, 0, none⟩)]] := Blk.new _ _ _
      have HM1 := Lib.hid (HM.out.below hb0)
      have hne : wr.heap.size ≠ g + 4 := by have := HM.out.last.lt; omega
      clear hb0
      cases hq : (decide (shipV c sh r.wi (nextV c r.ex).1 < pr))
      · have ev := Lib.hid (hv.out.trans (firstV_miss (k := 4) rfl hq))
        have HQ := Lib.hid hq
        have hf1 : Hid (1 ≤ 4 + 1 → fiveDays r sh pr = true) := Lib.hid (fun _ => hf.out (by omega))
        clear hq hn
        go_wp2_with fail
        refine (late5 w0 c A1 n1 c1 A2 n2 c2 r sh pr g _ _ H1.out H2.out m1 m2 (five_sh (hf.out (by omega))).1 (five_sh (hf.out (by omega))).2 HM1.out).mono ?_
        rw [HQ.out]
        rintro e w1 ⟨rfl, hm, hkp⟩
        have HM2 := Lib.hid hm
        clear hm hkp
        go_wp2_with fail
        go_roundw
        case rel => exact ⟨4 + 1, (nextV c r.ex).1, by omega, by go_num, ev, hf1, Lib.hid rfl, HM2⟩
        case measure => simp [intOf]
      · have ev := Lib.hid (hv.out.trans (firstV_hit (k := 4) rfl hq)).symm
        have HQ := Lib.hid hq
        clear hq
        go_wp2_with fail
        refine (late5 w0 c A1 n1 c1 A2 n2 c2 r sh pr g _ _ H1.out H2.out m1 m2 (five_sh (hf.out (by omega))).1 (five_sh (hf.out (by omega))).2 HM1.out).mono ?_
        rw [HQ.out]
        rintro e w1 ⟨rfl, hm, hkp⟩
        have kn := (hkp _ _ _ hne hn).cell 0
        simp only [List.getElem?_toArray, List.getElem?_cons_zero] at kn
        have HB := Lib.hid hm.bel
        clear hm hkp
        go_wp2_with fail
        go_ret
        exact ⟨ret_int ev.out, HB.out⟩
    · have ev : Hid (0 = lateV c r sh pr) := Lib.hid hv.out.symm
      have HB := Lib.hid HM.out.bel
      go_wp2_with fail
      go_ret
      exact ⟨ret_int ev.out, HB.out⟩
end
end Go.Proofs.Ytfiflmgjcmmomaa
