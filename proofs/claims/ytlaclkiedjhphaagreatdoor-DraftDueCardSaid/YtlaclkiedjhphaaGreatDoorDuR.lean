/- When a draft is due: the document. No condition. -/
import Derived.Test.YtlaclkiedjhphaaGreatDoorDu
import Derived.Test.YtlaclkiedjhphaaGreatDoorCalW
import Derived.Test.YtlaclkiedjhphaaGreatDoorDfR
namespace Go.Proofs.YtlaclkiedjhphaaGreatDoor.kit
open Go.RowKit Go.Proofs.YtlaclkiedjhphaaGreatDoor.cal
set_option linter.unusedVariables false
set_option maxRecDepth 100000 in
set_option maxHeartbeats 3200000 in
theorem rdue_any (c : Cal) (A1 : Option Addr) (n1 c1 : Nat) (A2 : Option Addr) (n2 c2 : Nat) (d : Dr) (w : World) (h1 : SliceOf w 1 intC A1 n1 c.rest) (h2 : SliceOf w 1 intC A2 n2 c.hol) (m1 : n1 ≤ maxLen) (m2 : n2 ≤ maxLen) (hd : d.ok) :
    Calls Tryz.prog 7 #[.agg #[.slice A1 n1 c1, .slice A2 n2 c2], .agg #[.string d.num, .string d.drw, .string d.dre, .string d.pay, .string d.cur, .int .i64 d.amt, .int .i64 d.kind, .int .i64 d.days, .int .i64 d.fr]] w fun e w' => e = .returned (.tuple #[.int .i64 (dueV c d).1, .bool (dueV c d).2]) ∧ Below w.heap.size w w' := by
  have H1 := Lib.hid h1
  have H2 := Lib.hid h2
  have HD := Lib.hid hd
  clear h1 h2 hd
  have hB0 : Below w.heap.size w ((w.alloc (.cells #[.slice A1 n1 c1, .slice A2 n2 c2] 24)).alloc (.cells #[.string d.num, .string d.drw, .string d.dre, .string d.pay, .string d.cur, .int .i64 d.amt, .int .i64 d.kind, .int .i64 d.days, .int .i64 d.fr] 28)) := two_alloc _ _ _
  have hkc : Blk ((w.alloc (.cells #[.slice A1 n1 c1, .slice A2 n2 c2] 24)).alloc (.cells #[.string d.num, .string d.drw, .string d.dre, .string d.pay, .string d.cur, .int .i64 d.amt, .int .i64 d.kind, .int .i64 d.days, .int .i64 d.fr] 28)) w.heap.size 24 #[.slice A1 n1 c1, .slice A2 n2 c2] := (Blk.new _ _ _).alloc _
  have hkd : Blk ((w.alloc (.cells #[.slice A1 n1 c1, .slice A2 n2 c2] 24)).alloc (.cells #[.string d.num, .string d.drw, .string d.dre, .string d.pay, .string d.cur, .int .i64 d.amt, .int .i64 d.kind, .int .i64 d.days, .int .i64 d.fr] 28)) (w.heap.size + 1) 28 #[.string d.num, .string d.drw, .string d.dre, .string d.pay, .string d.cur, .int .i64 d.amt, .int .i64 d.kind, .int .i64 d.days, .int .i64 d.fr] := blk_second _ _ _ _
  have b0 := hkc.cell 0; have b1 := hkc.cell 1
  simp only [List.getElem?_toArray, List.getElem?_cons_zero, List.getElem?_cons_succ] at b0 b1
  have a0 := hkd.cell 0; have a1 := hkd.cell 1; have a2 := hkd.cell 2; have a3 := hkd.cell 3; have a4 := hkd.cell 4; have a5 := hkd.cell 5; have a6 := hkd.cell 6; have a7 := hkd.cell 7; have a8 := hkd.cell 8
  simp only [List.getElem?_toArray, List.getElem?_cons_zero, List.getElem?_cons_succ] at a0 a1 a2 a3 a4 a5 a6 a7 a8
  cases hm : mayD d
  · have HE : Hid (dueV c d = (0, false)) := Lib.hid (by unfold dueV; rw [hm]; rfl)
    rw [HE.out]
    go_enter Tryz.func7, Tryz.ntmps7
    go_wp2_with fail
    refine (rmayD_any d _ HD.out).mono ?_
    rw [hm]
    rintro e w1 ⟨rfl, hb1⟩
    have HB1 := Lib.hid (hB0.trans (hb1.mono hB0.size))
    go_wp2_with fail
    go_ret2
    exact ⟨rfl, HB1.out⟩
  · have HE : Hid (dueV c d = cal.nextV c (d.fr + d.days)) := Lib.hid (by unfold dueV; rw [hm]; rfl)
    rw [HE.out]
    obtain ⟨r0, r1, r2, r3⟩ := may_days hm
    have hwr : IntKind.i64.wrap (d.fr + d.days) = d.fr + d.days := IntWalk.i64_in _ (by omega)
    have HM := Lib.hid hm
    clear hm
    cases hin : isDayB (d.fr + d.days)
    · have HI := Lib.hid hin
      have HN : Hid (cal.nextV c (d.fr + d.days) = (0, false)) := Lib.hid (by unfold cal.nextV; rw [hin]; rfl)
      rw [HN.out]
      clear hin
      go_enter Tryz.func7, Tryz.ntmps7
      go_wp2_with fail
      refine (rmayD_any d _ HD.out).mono ?_
      rw [HM.out]
      rintro e w1 ⟨rfl, hb1⟩
      have HB1 := Lib.hid (hB0.trans (hb1.mono hB0.size))
      have e7 := cell_kept hb1 a7; have e8 := cell_kept hb1 a8
      clear b0 b1 a0 a1 a2 a3 a4 a5 a6 a7 a8 hb1 hB0 hkc hkd
      go_wp2_with fail
      refine (ris_any _ _).mono ?_
      rw [HI.out]
      rintro e w2 ⟨rfl, rfl⟩
      go_wp2_with fail
      go_ret2
      exact ⟨rfl, HB1.out⟩
    · have HI := Lib.hid hin
      have hdd : 0 ≤ d.fr + d.days ∧ d.fr + d.days ≤ 1048577 := by have h9 := hin; simp only [isDayB, decide_eq_true_eq] at h9; omega
      have HN : Hid (cal.nextV c (d.fr + d.days) = upF c (1048577 - (d.fr + d.days)).toNat 1) := Lib.hid (by unfold cal.nextV; rw [hin]; rfl)
      rw [HN.out]
      clear hin
      go_enter Tryz.func7, Tryz.ntmps7
      go_wp2_with fail
      refine (rmayD_any d _ HD.out).mono ?_
      rw [HM.out]
      rintro e w1 ⟨rfl, hb1⟩
      have HB1 := Lib.hid (hB0.trans (hb1.mono hB0.size))
      have e0 := cell_kept hb1 b0; have e1 := cell_kept hb1 b1; have e7 := cell_kept hb1 a7; have e8 := cell_kept hb1 a8
      clear b0 b1 a0 a1 a2 a3 a4 a5 a6 a7 a8 hb1 hB0 hkc hkd
      go_wp2_with fail
      refine (ris_any _ _).mono ?_
      rw [HI.out]
      rintro e w2 ⟨rfl, rfl⟩
      go_wp2_with fail
      refine (rwalk_up c A1 n1 c1 A2 n2 c2 (d.fr + d.days) 1 hdd (by omega) w1 (H1.out.below HB1.out) (H2.out.below HB1.out) m1 m2).mono ?_
      rintro e w2 ⟨rfl, hb2⟩
      have HB2 := Lib.hid (HB1.out.trans (hb2.mono HB1.out.size))
      go_wp2_with fail
      go_ret2
      exact ⟨rfl, HB2.out⟩
end Go.Proofs.YtlaclkiedjhphaaGreatDoor.kit
