/- Which days rest, and the walks over days: the rest of the program, and the document. No condition. -/
import Derived.Test.YtlicmhgpldmliaaDoorCalI
namespace Go.Proofs.YtlicmhgpldmliaaDoor.cal
open Go.RowKit Go.Proofs.YtlicmhgpldmliaaDoor.kit
set_option linter.unusedVariables false

set_option maxHeartbeats 800000 in
theorem rests_any (c : Cal) (A1 : Option Addr) (n1 c1 : Nat) (A2 : Option Addr) (n2 c2 : Nat) (d : Int) (w : World) (h1 : SliceOf w 1 intC A1 n1 c.rest) (h2 : SliceOf w 1 intC A2 n2 c.hol) (m1 : n1 ≤ maxLen) (m2 : n2 ≤ maxLen) :
    Calls Tryd.prog 8 #[.agg #[.slice A1 n1 c1, .slice A2 n2 c2], .int .i64 d] w fun e w' => e = .returned (.bool (isDayB d && restB c d)) ∧ Below w.heap.size w w' := by
  have HD := Lib.hid (isDay_any d)
  have H1 := Lib.hid h1
  have H2 := Lib.hid h2
  have l1 := h1.len
  have l2 := h2.len
  clear h1 h2
  have hB0 : Below w.heap.size w (w.alloc (.cells #[.slice A1 n1 c1, .slice A2 n2 c2] 24)) := (Below.refl _ _).alloc (Nat.le_refl _) _
  have hk0 : Blk (w.alloc (.cells #[.slice A1 n1 c1, .slice A2 n2 c2] 24)) w.heap.size 24 #[.slice A1 n1 c1, .slice A2 n2 c2] := Blk.new _ _ _
  cases hd : isDayB d
  · rw [hd] at HD
    clear hd
    go_enter Tryd.func8, Tryd.ntmps8
    go_wp2_with fail
    refine (HD.out _).mono ?_
    rintro e w' ⟨rfl, rfl⟩
    go_wp2_with fail
    go_ret
    exact ⟨rfl, hB0⟩
  · obtain ⟨d0, d1⟩ : 0 ≤ d ∧ d ≤ 1048576 := by simpa [isDayB] using hd
    rw [hd] at HD
    clear hd
    go_enter Tryd.func8, Tryd.ntmps8
    go_wp2_with fail
    refine (HD.out _).mono ?_
    rintro e w' ⟨rfl, rfl⟩
    go_wp2_with fail
    refine (ready_any c A1 n1 c1 A2 n2 c2 w H1.out H2.out m1 m2 _ hB0).mono ?_
    rintro e w1 ⟨f, A, np, cp, xs, rfl, hp, hb1⟩
    have hB1 := hB0.trans (hb1.mono hB0.size)
    have HP := prests_any f A np cp xs d d0 w1 (hp.sl.below hB1) hp.le hp.up
    rw [hp.is d] at HP
    have HP := Lib.hid HP
    clear hp hb1
    go_wp2_with fail
    refine HP.out.mono ?_
    rintro e w2 ⟨rfl, hb2⟩
    have hB2 := hB1.trans (hb2.mono hB1.size)
    clear hb2
    go_wp2_with fail
    go_ret
    exact ⟨ret_bool (by simp), hB2⟩
/-! all weekdays rest -/
end Go.Proofs.YtlicmhgpldmliaaDoor.cal
