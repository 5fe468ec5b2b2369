/- The next working day. No condition. -/
import Derived.Test.YtlicmhgpldmliaaDoorCalE
namespace Go.Proofs.YtlicmhgpldmliaaDoor.cal
open Go.RowKit Go.Proofs.YtlicmhgpldmliaaDoor.kit
set_option linter.unusedVariables false

set_option maxHeartbeats 800000 in
theorem along_out (c : Cal) (A1 : Option Addr) (n1 c1 : Nat) (A2 : Option Addr) (n2 c2 : Nat) (d by_ n : Int) (hd : isDayB d = false) (w : World) (h1 : SliceOf w 1 intC A1 n1 c.rest) (h2 : SliceOf w 1 intC A2 n2 c.hol) (m1 : n1 ≤ maxLen) (m2 : n2 ≤ maxLen) :
    Calls Tryd.prog 16 #[.agg #[.slice A1 n1 c1, .slice A2 n2 c2], .int .i64 d, .int .i64 by_, .int .i64 n] w fun e w' => e = .returned (.tuple #[.int .i64 0, .bool false]) ∧ Below w.heap.size w w' := by
  have H1 := Lib.hid h1
  have H2 := Lib.hid h2
  have l1 := h1.len
  have l2 := h2.len
  clear h1 h2
  have hB0 : Below w.heap.size w (w.alloc (.cells #[.slice A1 n1 c1, .slice A2 n2 c2] 24)) := (Below.refl _ _).alloc (Nat.le_refl _) _
  have hk0 : Blk (w.alloc (.cells #[.slice A1 n1 c1, .slice A2 n2 c2] 24)) w.heap.size 24 #[.slice A1 n1 c1, .slice A2 n2 c2] := Blk.new _ _ _
  have HD := Lib.hid hd
  clear hd
  go_enter Tryd.func16, Tryd.ntmps16
  go_wp2_with fail
  refine wp_scope_jumps 0 (fun _ _ => False) (fun _ _ => 0) rfl ?_ (fun a w h => h.elim)
  go_wp2_with fail
  refine (ready_any c A1 n1 c1 A2 n2 c2 w H1.out H2.out m1 m2 _ hB0).mono ?_
  rintro e w1 ⟨f, A, np, cp, xs, rfl, hp0, hb1⟩
  have hB := (hB0.trans (hb1.mono hB0.size)).alloc (hB0.trans (hb1.mono hB0.size)).size (.cells #[.bool (f 0), .bool (f 1), .bool (f 2), .bool (f 3), .bool (f 4), .bool (f 5), .bool (f 6), .slice A np cp] 53)
  clear hp0 hB0 hk0 hb1
  go_wp2_with fail
  go_step3
  go_wp2_with fail
  refine (isDay_any d _).mono ?_
  rw [HD.out]
  rintro e w2 ⟨rfl, rfl⟩
  go_wp2_with fail
  simp only [Exit.jump]
  go_ret2
  exact ⟨rfl, hB⟩

/-- The first working day from a day on. -/
def nextV (c : Cal) (d : Int) : Int × Bool := if isDayB d then upF c (1048577 - d).toNat 1 else (0, false)
theorem along_next (c : Cal) (A1 : Option Addr) (n1 c1 : Nat) (A2 : Option Addr) (n2 c2 : Nat) (d : Int) (w : World) (h1 : SliceOf w 1 intC A1 n1 c.rest) (h2 : SliceOf w 1 intC A2 n2 c.hol) (m1 : n1 ≤ maxLen) (m2 : n2 ≤ maxLen) :
    Calls Tryd.prog 16 #[.agg #[.slice A1 n1 c1, .slice A2 n2 c2], .int .i64 d, .int .i64 1, .int .i64 1] w fun e w' => e = .returned (.tuple #[.int .i64 (nextV c d).1, .bool (nextV c d).2]) ∧ Below w.heap.size w w' := by
  unfold nextV
  cases hd : isDayB d
  · exact along_out c A1 n1 c1 A2 n2 c2 d 1 1 hd w h1 h2 m1 m2
  · have : 0 ≤ d ∧ d ≤ 1048576 := by simpa [isDayB] using hd
    exact along_up c A1 n1 c1 A2 n2 c2 d 1 ⟨by omega, by omega⟩ ⟨by omega, by omega⟩ w h1 h2 m1 m2
theorem next_any (c : Cal) (A1 : Option Addr) (n1 c1 : Nat) (A2 : Option Addr) (n2 c2 : Nat) (d : Int) (w : World) (h1 : SliceOf w 1 intC A1 n1 c.rest) (h2 : SliceOf w 1 intC A2 n2 c.hol) (m1 : n1 ≤ maxLen) (m2 : n2 ≤ maxLen) :
    Calls Tryd.prog 17 #[.agg #[.slice A1 n1 c1, .slice A2 n2 c2], .int .i64 d] w fun e w' => e = .returned (.tuple #[.int .i64 (nextV c d).1, .bool (nextV c d).2]) ∧ Below w.heap.size w w' := by
  have H1 := Lib.hid h1
  have H2 := Lib.hid h2
  have l1 := h1.len
  have l2 := h2.len
  clear h1 h2
  have hB0 : Below w.heap.size w (w.alloc (.cells #[.slice A1 n1 c1, .slice A2 n2 c2] 24)) := (Below.refl _ _).alloc (Nat.le_refl _) _
  have hk0 : Blk (w.alloc (.cells #[.slice A1 n1 c1, .slice A2 n2 c2] 24)) w.heap.size 24 #[.slice A1 n1 c1, .slice A2 n2 c2] := Blk.new _ _ _
  go_enter Tryd.func17, Tryd.ntmps17
  go_wp2_with fail
  refine (along_next c A1 n1 c1 A2 n2 c2 d _ (H1.out.below hB0) (H2.out.below hB0) m1 m2).mono ?_
  rintro e w1 ⟨rfl, hb1⟩
  have hB1 := hB0.trans (hb1.mono hB0.size)
  have hk1 := hk0.below hb1 hk0.lt
  clear hB0 hk0 hb1
  go_wp2_with fail
  go_ret2
  exact ⟨rfl, hB1⟩
end Go.Proofs.YtlicmhgpldmliaaDoor.cal
