/- Days left, preclusion, by the program and by the reference; the document's examples. No condition. -/
import Derived.Test.YtlicmhgpldmliaaDoorNotA
namespace Go.Proofs.YtlicmhgpldmliaaDoor
open Go.RowKit Go.Proofs.YtlicmhgpldmliaaDoor.kit Go.Proofs.YtlicmhgpldmliaaDoor.cal
set_option linter.unusedVariables false

theorem precl_any (c : Cal) (A1 : Option Addr) (n1 c1 : Nat) (A2 : Option Addr) (n2 c2 : Nat) (p t : Int) (ans : Bool) (w : World) (h1 : SliceOf w 1 intC A1 n1 c.rest) (h2 : SliceOf w 1 intC A2 n2 c.hol) (m1 : n1 ≤ maxLen) (m2 : n2 ≤ maxLen) :
    Calls Tryd.prog 11 #[.agg #[.slice A1 n1 c1, .slice A2 n2 c2], .int .i64 p, .int .i64 t, .bool ans] w fun e w' => e = .returned (.bool (preclV c p t ans)) ∧ Below w.heap.size w w' := by
  have H1 := Lib.hid h1
  have H2 := Lib.hid h2
  have l1 := h1.len
  have l2 := h2.len
  clear h1 h2
  have hB0 : Below w.heap.size w (w.alloc (.cells #[.slice A1 n1 c1, .slice A2 n2 c2] 24)) := (Below.refl _ _).alloc (Nat.le_refl _) _
  have hk0 : Blk (w.alloc (.cells #[.slice A1 n1 c1, .slice A2 n2 c2] 24)) w.heap.size 24 #[.slice A1 n1 c1, .slice A2 n2 c2] := Blk.new _ _ _
  obtain ⟨L, hL⟩ : ∃ L, (dlV c p).1 = L := ⟨_, rfl⟩
  obtain ⟨ok, hok⟩ : ∃ ok, (dlV c p).2 = ok := ⟨_, rfl⟩
  have e0 : preclV c p t ans = (!ans && ok && decide (L < t)) := by unfold preclV; rw [hL, hok]
  have HK := Lib.hid hok
  have HL := Lib.hid hL
  rw [e0]
  clear e0 hok hL
  cases ans <;> cases ok
  all_goals
    go_enter Tryd.func11, Tryd.ntmps11
    go_wp2_with fail
    refine (deadline_any c A1 n1 c1 A2 n2 c2 p _ (H1.out.below hB0) (H2.out.below hB0) m1 m2).mono ?_
    rw [HK.out, HL.out]
    rintro e w1 ⟨rfl, hb1⟩
    have hB1 := hB0.trans (hb1.mono hB0.size)
    have hk1 := hk0.below hb1 hk0.lt
    clear hB0 hk0 hb1
    go_wp2_with fail
    go_ret
    exact ⟨ret_bool (by simp), hB1⟩

theorem cnt_down (c : Cal) (d : Int) (k : Nat) : cntF c d (k + 1) = (if restB c d then 0 else 1) + cntF c (d + 1) k := by
  rw [Nat.add_comm k 1, cnt_split c d 1 k]
  simp [cntF]
end Go.Proofs.YtlicmhgpldmliaaDoor
