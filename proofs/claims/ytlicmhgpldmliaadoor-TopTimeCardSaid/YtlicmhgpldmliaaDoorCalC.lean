/- May a calendar be. No condition. -/
import Derived.Test.YtlicmhgpldmliaaDoorCalA
namespace Go.Proofs.YtlicmhgpldmliaaDoor.cal
open Go.RowKit Go.Proofs.YtlicmhgpldmliaaDoor.kit
set_option linter.unusedVariables false

theorem may_of {c : Cal} {n1 n2 : Nat} (l1 : c.rest.length = n1) (l2 : c.hol.length = n2) : mayB c = (decide (n1 ≤ 4096) && decide (n2 ≤ 4096) && risesF 6 (-1) c.rest && risesF 1048576 (-1) c.hol) := by unfold mayB; rw [l1, l2]

set_option maxHeartbeats 800000 in
theorem may_any (c : Cal) (A1 : Option Addr) (n1 c1 : Nat) (A2 : Option Addr) (n2 c2 : Nat) (w : World) (h1 : SliceOf w 1 intC A1 n1 c.rest) (h2 : SliceOf w 1 intC A2 n2 c.hol) (m1 : n1 ≤ maxLen) (m2 : n2 ≤ maxLen) :
    Calls Tryd.prog 5 #[.agg #[.slice A1 n1 c1, .slice A2 n2 c2]] w fun e w' => e = .returned (.bool (mayB c)) ∧ Below w.heap.size w w' := by
  have H1 := Lib.hid h1
  have H2 := Lib.hid h2
  have l1 := h1.len
  have l2 := h2.len
  clear h1 h2
  have hB0 : Below w.heap.size w (w.alloc (.cells #[.slice A1 n1 c1, .slice A2 n2 c2] 24)) := (Below.refl _ _).alloc (Nat.le_refl _) _
  have hk0 : Blk (w.alloc (.cells #[.slice A1 n1 c1, .slice A2 n2 c2] 24)) w.heap.size 24 #[.slice A1 n1 c1, .slice A2 n2 c2] := Blk.new _ _ _
  have hmay := may_of l1 l2
  by_cases q1 : n1 ≤ 4096
  case neg =>
    have E : Hid (mayB c = false) := Lib.hid (by rw [hmay]; simp [q1])
    have q1' : ¬ (n1 : Int) ≤ 4096 := by omega
    clear hmay
    go_enter Tryd.func5, Tryd.ntmps5
    go_wp2_with fail
    go_ret
    exact ⟨ret_bool E.out.symm, hB0⟩
  by_cases q2 : n2 ≤ 4096
  case neg =>
    have E : Hid (mayB c = false) := Lib.hid (by rw [hmay]; simp [q2])
    have q1' : (n1 : Int) ≤ 4096 := by omega
    have q2' : ¬ (n2 : Int) ≤ 4096 := by omega
    clear hmay
    go_enter Tryd.func5, Tryd.ntmps5
    go_wp2_with fail
    go_ret
    exact ⟨ret_bool E.out.symm, hB0⟩
  have q1' : (n1 : Int) ≤ 4096 := by omega
  have q2' : (n2 : Int) ≤ 4096 := by omega
  cases r1 : risesF 6 (-1) c.rest
  · have E : Hid (mayB c = false) := Lib.hid (by rw [hmay, r1]; simp)
    have R1 := Lib.hid r1
    clear hmay r1
    go_enter Tryd.func5, Tryd.ntmps5
    go_wp2_with (go_at_call 14; refine (rises_any _ _ _ c.rest _ _ (H1.out.below hB0) m1).mono ?_; rw [R1.out]; rintro e w' ⟨rfl, rfl⟩)
    go_ret
    exact ⟨ret_bool E.out.symm, hB0⟩
  · have E : Hid (mayB c = risesF 1048576 (-1) c.hol) := Lib.hid (by rw [hmay, r1]; simp [q1, q2])
    have R1 := Lib.hid r1
    clear hmay r1
    go_enter Tryd.func5, Tryd.ntmps5
    go_wp2_with fail
    refine (rises_any _ _ _ c.rest _ _ (H1.out.below hB0) m1).mono ?_
    rw [R1.out]
    rintro e w' ⟨rfl, rfl⟩
    go_wp2_with fail
    refine (rises_any _ _ _ c.hol _ _ (H2.out.below hB0) m2).mono ?_
    rw [← E.out]
    rintro e w' ⟨rfl, rfl⟩
    go_wp2_with fail
    go_ret
    exact ⟨rfl, hB0⟩

/-- A day is worked on. -/
def worksB (c : Cal) (d : Int) : Bool := isDayB d && !restB c d
end Go.Proofs.YtlicmhgpldmliaaDoor.cal
