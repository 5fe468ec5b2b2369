/- The document's calendar: which may be, which days rest. No condition. -/
import Derived.Test.YtlaclkiedjhphaaGreatDoorCalC
import Derived.Test.YtlaclkiedjhphaaGreatDoorCalB
namespace Go.Proofs.YtlaclkiedjhphaaGreatDoor.cal
open Go.RowKit Go.Proofs.YtlaclkiedjhphaaGreatDoor.kit
set_option linter.unusedVariables false

set_option maxHeartbeats 800000 in
theorem rmay_any (c : Cal) (A1 : Option Addr) (n1 c1 : Nat) (A2 : Option Addr) (n2 c2 : Nat) (w : World) (h1 : SliceOf w 1 intC A1 n1 c.rest) (h2 : SliceOf w 1 intC A2 n2 c.hol) (m1 : n1 ≤ maxLen) (m2 : n2 ≤ maxLen) :
    Calls Tryz.prog 44 #[.agg #[.slice A1 n1 c1, .slice A2 n2 c2]] w fun e w' => e = .returned (.bool (mayB c)) ∧ Below w.heap.size w w' := by
  have H1 := Lib.hid h1
  have H2 := Lib.hid h2
  have l1 := h1.len
  have l2 := h2.len
  clear h1 h2
  have hB0 : Below w.heap.size w (w.alloc (.cells #[.slice A1 n1 c1, .slice A2 n2 c2] 24)) := (Below.refl _ _).alloc (Nat.le_refl _) _
  have hk0 : Blk (w.alloc (.cells #[.slice A1 n1 c1, .slice A2 n2 c2] 24)) w.heap.size 24 #[.slice A1 n1 c1, .slice A2 n2 c2] := Blk.new _ _ _
  have hmay := may_of l1 l2
  cases r1 : (risesF 6 (-1) c.rest && decide (n1 ≤ 4096))
  · have E : Hid (mayB c = false) := Lib.hid (by rw [hmay]; revert r1; cases risesF 6 (-1) c.rest <;> cases decide (n1 ≤ 4096) <;> simp)
    have R1 := Lib.hid r1
    clear hmay r1
    go_enter Tryz.func44, Tryz.ntmps44
    go_wp2_with fail
    refine (rrises_any _ _ _ c.rest _ _ (H1.out.below hB0) m1).mono ?_
    rw [R1.out]
    rintro e w1 ⟨rfl, hb1⟩
    have hB1 := hB0.trans (hb1.mono hB0.size)
    have hk1 := hk0.below hb1 hk0.lt
    clear hB0 hk0 hb1
    go_wp2_with fail
    go_ret
    exact ⟨ret_bool E.out.symm, hB1⟩
  · have E : Hid ((risesF 1048576 (-1) c.hol && decide (n2 ≤ 4096)) = mayB c) := Lib.hid (by rw [hmay]; revert r1; cases risesF 6 (-1) c.rest <;> cases decide (n1 ≤ 4096) <;> cases risesF 1048576 (-1) c.hol <;> cases decide (n2 ≤ 4096) <;> simp)
    have R1 := Lib.hid r1
    clear hmay r1
    go_enter Tryz.func44, Tryz.ntmps44
    go_wp2_with fail
    refine (rrises_any _ _ _ c.rest _ _ (H1.out.below hB0) m1).mono ?_
    rw [R1.out]
    rintro e w1 ⟨rfl, hb1⟩
    have hB1 := hB0.trans (hb1.mono hB0.size)
    have hk1 := hk0.below hb1 hk0.lt
    clear hB0 hk0 hb1
    have a0 := hk1.cell 0; have a1 := hk1.cell 1; simp only [List.getElem?_toArray, List.getElem?_cons_zero, List.getElem?_cons_succ] at a0 a1
    go_wp2_with fail
    refine (rrises_any _ _ _ c.hol _ _ (H2.out.below hB1) m2).mono ?_
    rw [E.out]
    rintro e w2 ⟨rfl, hb2⟩
    clear a0 a1
    have hB2 := hB1.trans (hb2.mono hB1.size)
    have hk2 := hk1.below hb2 hk1.lt
    clear hB1 hk1 hb2
    go_wp2_with fail
    go_ret
    exact ⟨rfl, hB2⟩

set_option maxHeartbeats 800000 in
theorem rrests_any (c : Cal) (A1 : Option Addr) (n1 c1 : Nat) (A2 : Option Addr) (n2 c2 : Nat) (d : Int) (w : World) (h1 : SliceOf w 1 intC A1 n1 c.rest) (h2 : SliceOf w 1 intC A2 n2 c.hol) (m1 : n1 ≤ maxLen) (m2 : n2 ≤ maxLen) :
    Calls Tryz.prog 28 #[.agg #[.slice A1 n1 c1, .slice A2 n2 c2], .int .i64 d] w fun e w' => e = .returned (.bool (isDayB d && restB c d)) ∧ Below w.heap.size w w' := by
  have H1 := Lib.hid h1
  have H2 := Lib.hid h2
  have l1 := h1.len
  have l2 := h2.len
  clear h1 h2
  have hB0 : Below w.heap.size w (w.alloc (.cells #[.slice A1 n1 c1, .slice A2 n2 c2] 24)) := (Below.refl _ _).alloc (Nat.le_refl _) _
  have hk0 : Blk (w.alloc (.cells #[.slice A1 n1 c1, .slice A2 n2 c2] 24)) w.heap.size 24 #[.slice A1 n1 c1, .slice A2 n2 c2] := Blk.new _ _ _
  cases hd : isDayB d
  · have E := Lib.hid hd
    clear hd
    go_enter Tryz.func28, Tryz.ntmps28
    go_wp2_with fail
    refine (ris_any d _).mono ?_
    rw [E.out]
    rintro e w1 ⟨rfl, rfl⟩
    go_wp2_with fail
    go_ret
    exact ⟨ret_bool (by simp), hB0⟩
  have E := Lib.hid hd
  obtain ⟨d0, d1⟩ : 0 ≤ d ∧ d ≤ 1048576 := by simpa [isDayB] using hd
  cases hm : mayB c
  · have R : Hid (restB c d = false) := Lib.hid (by unfold restB; rw [hm]; rfl)
    have M := Lib.hid hm
    clear hd hm
    go_enter Tryz.func28, Tryz.ntmps28
    go_wp2_with fail
    refine (ris_any d _).mono ?_
    rw [E.out]
    rintro e w1 ⟨rfl, rfl⟩
    go_wp2_with fail
    refine (rmay_any c A1 n1 c1 A2 n2 c2 _ (H1.out.below hB0) (H2.out.below hB0) m1 m2).mono ?_
    rw [M.out]
    rintro e w1 ⟨rfl, hb1⟩
    have hB1 := hB0.trans (hb1.mono hB0.size)
    have hk1 := hk0.below hb1 hk0.lt
    clear hB0 hk0 hb1
    go_wp2_with fail
    go_ret
    exact ⟨ret_bool (by rw [R.out]; rfl), hB1⟩
  have M := Lib.hid hm
  cases hi : has c.rest (d % 7)
  · have R : Hid (restB c d = has c.hol d) := Lib.hid (by unfold restB; rw [hm, hi]; rfl)
    have I := Lib.hid hi
    clear hd hm hi
    go_enter Tryz.func28, Tryz.ntmps28
    go_wp2_with fail
    refine (ris_any d _).mono ?_
    rw [E.out]
    rintro e w1 ⟨rfl, rfl⟩
    go_wp2_with fail
    refine (rmay_any c A1 n1 c1 A2 n2 c2 _ (H1.out.below hB0) (H2.out.below hB0) m1 m2).mono ?_
    rw [M.out]
    rintro e w1 ⟨rfl, hb1⟩
    have hB1 := hB0.trans (hb1.mono hB0.size)
    have hk1 := hk0.below hb1 hk0.lt
    clear hB0 hk0 hb1
    have a0 := hk1.cell 0; have a1 := hk1.cell 1; simp only [List.getElem?_toArray, List.getElem?_cons_zero, List.getElem?_cons_succ] at a0 a1
    go_wp2_with fail
    refine (rin_any _ _ _ c.rest _ _ (H1.out.below hB1) m1).mono ?_
    rw [I.out]
    rintro e w2 ⟨rfl, rfl⟩
    go_wp2_with fail
    refine (rin_any _ _ _ c.hol _ _ (H2.out.below hB1) m2).mono ?_
    rintro e w2 ⟨rfl, rfl⟩
    go_wp2_with fail
    go_ret
    exact ⟨ret_bool (by rw [R.out]; rfl), hB1⟩
  · have R : Hid (restB c d = true) := Lib.hid (by unfold restB; rw [hm, hi]; rfl)
    have I := Lib.hid hi
    clear hd hm hi
    go_enter Tryz.func28, Tryz.ntmps28
    go_wp2_with fail
    refine (ris_any d _).mono ?_
    rw [E.out]
    rintro e w1 ⟨rfl, rfl⟩
    go_wp2_with fail
    refine (rmay_any c A1 n1 c1 A2 n2 c2 _ (H1.out.below hB0) (H2.out.below hB0) m1 m2).mono ?_
    rw [M.out]
    rintro e w1 ⟨rfl, hb1⟩
    have hB1 := hB0.trans (hb1.mono hB0.size)
    have hk1 := hk0.below hb1 hk0.lt
    clear hB0 hk0 hb1
    have a0 := hk1.cell 0; have a1 := hk1.cell 1; simp only [List.getElem?_toArray, List.getElem?_cons_zero, List.getElem?_cons_succ] at a0 a1
    go_wp2_with fail
    refine (rin_any _ _ _ c.rest _ _ (H1.out.below hB1) m1).mono ?_
    rw [I.out]
    rintro e w2 ⟨rfl, rfl⟩
    go_wp2_with fail
    go_ret
    exact ⟨ret_bool (by rw [R.out]; rfl), hB1⟩
theorem rworks_any (c : Cal) (A1 : Option Addr) (n1 c1 : Nat) (A2 : Option Addr) (n2 c2 : Nat) (d : Int) (w : World) (h1 : SliceOf w 1 intC A1 n1 c.rest) (h2 : SliceOf w 1 intC A2 n2 c.hol) (m1 : n1 ≤ maxLen) (m2 : n2 ≤ maxLen) :
    Calls Tryz.prog 10 #[.agg #[.slice A1 n1 c1, .slice A2 n2 c2], .int .i64 d] w fun e w' => e = .returned (.bool (worksB c d)) ∧ Below w.heap.size w w' := by
  have H1 := Lib.hid h1
  have H2 := Lib.hid h2
  have l1 := h1.len
  have l2 := h2.len
  clear h1 h2
  have hB0 : Below w.heap.size w (w.alloc (.cells #[.slice A1 n1 c1, .slice A2 n2 c2] 24)) := (Below.refl _ _).alloc (Nat.le_refl _) _
  have hk0 : Blk (w.alloc (.cells #[.slice A1 n1 c1, .slice A2 n2 c2] 24)) w.heap.size 24 #[.slice A1 n1 c1, .slice A2 n2 c2] := Blk.new _ _ _
  cases hd : isDayB d
  · have E := Lib.hid hd
    have F : Hid (worksB c d = false) := Lib.hid (by unfold worksB; rw [hd]; rfl)
    clear hd
    go_enter Tryz.func10, Tryz.ntmps10
    go_wp2_with fail
    refine (ris_any d _).mono ?_
    rw [E.out]
    rintro e w1 ⟨rfl, rfl⟩
    go_wp2_with fail
    go_ret
    exact ⟨ret_bool F.out.symm, hB0⟩
  · have E := Lib.hid hd
    have F : Hid ((!restB c d) = worksB c d) := Lib.hid (by unfold worksB; rw [hd]; rfl)
    have G : Hid ((isDayB d && restB c d) = restB c d) := Lib.hid (by rw [hd]; rfl)
    clear hd
    go_enter Tryz.func10, Tryz.ntmps10
    go_wp2_with fail
    refine (ris_any d _).mono ?_
    rw [E.out]
    rintro e w1 ⟨rfl, rfl⟩
    go_wp2_with fail
    refine (rrests_any c A1 n1 c1 A2 n2 c2 d _ (H1.out.below hB0) (H2.out.below hB0) m1 m2).mono ?_
    rw [G.out]
    rintro e w1 ⟨rfl, hb1⟩
    have hB1 := hB0.trans (hb1.mono hB0.size)
    have hk1 := hk0.below hb1 hk0.lt
    clear hB0 hk0 hb1
    go_wp2_with fail
    go_ret
    exact ⟨ret_bool F.out, hB1⟩
end Go.Proofs.YtlaclkiedjhphaaGreatDoor.cal
