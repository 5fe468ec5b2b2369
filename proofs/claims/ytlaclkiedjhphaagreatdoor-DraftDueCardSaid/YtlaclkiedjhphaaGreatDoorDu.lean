/- When a draft is due: the program's answer; what rises. No condition. -/
import Derived.Test.YtlaclkiedjhphaaGreatDoorDgX
import Derived.Test.YtlaclkiedjhphaaGreatDoorDgW
import Derived.Test.YtlaclkiedjhphaaGreatDoorCalN
namespace Go.Proofs.YtlaclkiedjhphaaGreatDoor.cal
open Go.Proofs.YtlaclkiedjhphaaGreatDoor.kit
set_option linter.unusedVariables false
theorem up_first (c : Cal) : ∀ (k : Nat), k ≤ 1048577 → (upF c k 1).2 = true → restB c (upF c k 1).1 = false ∧ 1048577 - (k : Int) ≤ (upF c k 1).1 ∧ (upF c k 1).1 ≤ 1048576
  | 0, _, h => by simp [upF] at h
  | k + 1, hk, h => by
    unfold upF at h ⊢
    cases hr : restB c (1048576 - (k : Int))
    · rw [hr] at h
      simp only [Bool.false_eq_true, if_false] at h ⊢
      simp
      exact ⟨hr, by omega, by omega⟩
    · rw [hr] at h
      simp only [if_true] at h ⊢
      simp only [show (0 : Int) < 1 by omega, if_true] at h ⊢
      have := up_first c k (by omega) h
      exact ⟨this.1, by omega, this.2.2⟩
theorem up_least (c : Cal) (e : Int) (he : restB c e = false) (k : Nat) (hk : (k : Int) ≤ 1048577) (h1 : 1048577 - (k : Int) ≤ e) (h2 : e ≤ 1048576) : (upF c k 1).2 = true ∧ (upF c k 1).1 ≤ e := by
  induction k with
  | zero => exfalso; simp at h1; omega
  | succ k ih =>
    have hk' : ((k + 1 : Nat) : Int) = (k : Int) + 1 := by omega
    unfold upF
    cases hr : restB c (1048576 - (k : Int))
    · simp
      omega
    · simp only [if_true, show (0 : Int) < 1 by omega]
      have hne : e ≠ 1048576 - (k : Int) := by
        intro h
        rw [← h, he] at hr
        cases hr
      exact ih (by omega) (by omega)
theorem next_in {c : Cal} {d : Int} (h : (nextV c d).2 = true) : 0 ≤ d ∧ d ≤ 1048576 ∧ restB c (nextV c d).1 = false ∧ d ≤ (nextV c d).1 ∧ (nextV c d).1 ≤ 1048576 := by
  unfold nextV at h ⊢
  cases hd : isDayB d
  · rw [hd] at h; simp at h
  · rw [hd] at h
    have hd' : 0 ≤ d ∧ d ≤ 1048576 := of_decide_eq_true hd
    simp only [if_true] at h ⊢
    have := up_first c _ (by omega) h
    exact ⟨hd'.1, hd'.2, this.1, by omega, this.2.2⟩
theorem next_mono {c : Cal} {d d' : Int} (h : (nextV c d).2 = true) (h' : (nextV c d').2 = true) (hd : d ≤ d') : (nextV c d).1 ≤ (nextV c d').1 := by
  have h1 := next_in h
  have h2 := next_in h'
  have hb : isDayB d = true := decide_eq_true ⟨h1.1, h1.2.1⟩
  have := up_least c (nextV c d').1 h2.2.2.1 (1048577 - d).toNat (by omega) (by omega) (by omega)
  unfold nextV at this ⊢
  rw [hb]
  simp only [if_true]
  exact this.2
end Go.Proofs.YtlaclkiedjhphaaGreatDoor.cal
namespace Go.Proofs.YtlaclkiedjhphaaGreatDoor.kit
open Go.RowKit Go.PlainAid Go.Maps Go.Proofs.YtlaclkiedjhphaaGreatDoor.cal
set_option linter.unusedVariables false
def dueV (c : Cal) (d : Dr) : Int × Bool := if mayD d then cal.nextV c (d.fr + d.days) else (0, false)
theorem may_days {d : Dr} (h : mayD d = true) : 0 ≤ d.fr ∧ d.fr ≤ 1048576 ∧ 0 ≤ d.days ∧ d.days ≤ 1000 := by
  unfold mayD at h
  simp only [Bool.and_eq_true] at h
  obtain ⟨_, _, _, _, _, _, _, _, h9, h10⟩ := h
  unfold kit.isDay at h9
  have h1 := of_decide_eq_true h9
  unfold kindB at h10
  split at h10
  · have := of_decide_eq_true h10; omega
  · have := of_decide_eq_true h10; omega
set_option maxRecDepth 100000 in
set_option maxHeartbeats 3200000 in
theorem due_any (c : Cal) (A1 : Option Addr) (n1 c1 : Nat) (A2 : Option Addr) (n2 c2 : Nat) (d : Dr) (w : World) (h1 : SliceOf w 1 intC A1 n1 c.rest) (h2 : SliceOf w 1 intC A2 n2 c.hol) (m1 : n1 ≤ maxLen) (m2 : n2 ≤ maxLen) (hd : d.ok) :
    Calls Tryz.prog 6 #[.agg #[.slice A1 n1 c1, .slice A2 n2 c2], .agg #[.string d.num, .string d.drw, .string d.dre, .string d.pay, .string d.cur, .int .i64 d.amt, .int .i64 d.kind, .int .i64 d.days, .int .i64 d.fr]] w fun e w' => e = .returned (.tuple #[.int .i64 (dueV c d).1, .bool (dueV c d).2]) ∧ Below w.heap.size w w' := by
  have H1 := Lib.hid h1
  have H2 := Lib.hid h2
  have HD := Lib.hid hd
  clear h1 h2 hd
  have hB0 : Below w.heap.size w ((w.alloc (.cells #[.slice A1 n1 c1, .slice A2 n2 c2] 24)).alloc (.cells #[.string d.num, .string d.drw, .string d.dre, .string d.pay, .string d.cur, .int .i64 d.amt, .int .i64 d.kind, .int .i64 d.days, .int .i64 d.fr] 28)) := two_alloc _ _ _
  have hkc : Blk ((w.alloc (.cells #[.slice A1 n1 c1, .slice A2 n2 c2] 24)).alloc (.cells #[.string d.num, .string d.drw, .string d.dre, .string d.pay, .string d.cur, .int .i64 d.amt, .int .i64 d.kind, .int .i64 d.days, .int .i64 d.fr] 28)) w.heap.size 24 #[.slice A1 n1 c1, .slice A2 n2 c2] := (Blk.new _ _ _).alloc _
  have hkd : Blk ((w.alloc (.cells #[.slice A1 n1 c1, .slice A2 n2 c2] 24)).alloc (.cells #[.string d.num, .string d.drw, .string d.dre, .string d.pay, .string d.cur, .int .i64 d.amt, .int .i64 d.kind, .int .i64 d.days, .int .i64 d.fr] 28)) (w.heap.size + 1) 28 #[.string d.num, .string d.drw, .string d.dre, .string d.pay, .string d.cur, .int .i64 d.amt, .int .i64 d.kind, .int .i64 d.days, .int .i64 d.fr] := blk_second _ _ _ _
  have b0 := hkc.cell 0; have b1 := hkc.cell 1
  simp only [List.getElem?_toArray, List.getElem?_cons_zero, List.getElem?_cons_succ] at b0 b1
  have a0 := hkd.cell 0; have a1 := hkd.cell 1; have a2 := hkd.cell 2; have a3 := hkd.cell 3; have a4 := hkd.cell 4; have a5 := hkd.cell 5; have a6 := hkd.cell 6; have a7 := hkd.cell 7; have a8 := hkd.cell 8
  simp only [List.getElem?_toArray, List.getElem?_cons_zero, List.getElem?_cons_succ] at a0 a1 a2 a3 a4 a5 a6 a7 a8
  cases hm : mayD d
  · have HE : Hid (dueV c d = (0, false)) := Lib.hid (by unfold dueV; rw [hm]; rfl)
    rw [HE.out]
    go_enter Tryz.func6, Tryz.ntmps6
    go_wp2_with fail
    refine (mayD_any d _ HD.out).mono ?_
    rw [hm]
    rintro e w1 ⟨rfl, hb1⟩
    have HB1 := Lib.hid (hB0.trans (hb1.mono hB0.size))
    go_wp2_with fail
    go_ret2
    exact ⟨rfl, HB1.out⟩
  · have HE : Hid (dueV c d = cal.nextV c (d.fr + d.days)) := Lib.hid (by unfold dueV; rw [hm]; rfl)
    rw [HE.out]
    obtain ⟨r0, r1, r2, r3⟩ := may_days hm
    have hwr : IntKind.i64.wrap (d.fr + d.days) = d.fr + d.days := IntWalk.i64_in _ (by omega)
    have HM := Lib.hid hm
    clear hm
    go_enter Tryz.func6, Tryz.ntmps6
    go_wp2_with fail
    refine (mayD_any d _ HD.out).mono ?_
    rw [HM.out]
    rintro e w1 ⟨rfl, hb1⟩
    have HB1 := Lib.hid (hB0.trans (hb1.mono hB0.size))
    have e0 := cell_kept hb1 b0; have e1 := cell_kept hb1 b1; have e7 := cell_kept hb1 a7; have e8 := cell_kept hb1 a8
    clear b0 b1 a0 a1 a2 a3 a4 a5 a6 a7 a8 hb1 hB0 hkc hkd
    go_wp2_with fail
    refine (next_any c A1 n1 c1 A2 n2 c2 (d.fr + d.days) w1 (H1.out.below HB1.out) (H2.out.below HB1.out) m1 m2).mono ?_
    rintro e w2 ⟨rfl, hb2⟩
    have HB2 := Lib.hid (HB1.out.trans (hb2.mono HB1.out.size))
    go_wp2_with fail
    go_ret2
    exact ⟨rfl, HB2.out⟩
end Go.Proofs.YtlaclkiedjhphaaGreatDoor.kit
