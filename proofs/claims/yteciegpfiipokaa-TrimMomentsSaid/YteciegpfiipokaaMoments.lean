/- trim.Moments: the moments of loads, or noughts. No condition. -/
import Derived.Test.YteciegpfiipokaaSum
import Derived.Handy
namespace Go.Proofs.Yteciegpfiipokaa
open Go.RowKit Go.Proofs.Yteciegpfiipokaa.kit
set_option linter.unusedVariables false

set_option maxHeartbeats 800000 in
theorem moments_any (s : Ship) (hn : s.nm.size ≤ maxLen) (A : Option Addr) (n c : Nat) (xs : List Load) (w : World) (hx : SliceOf w 7 Load.cells A n xs) (hm : n ≤ maxLen) :
    Calls Try.prog 11 #[.agg #[.string s.nm, .int .i64 s.ba, .int .i64 s.ro, .int .i64 s.ti, .int .i64 s.st, .int .i64 s.tr, .int .i64 s.li, .int .i64 s.up, .int .i64 s.mo], .slice A n c] w
      fun e w' => e = .returned (.tuple #[.int .i64 (sumV s xs).1.1, .int .i64 (sumV s xs).1.2.1, .int .i64 (sumV s xs).1.2.2.1, .int .i64 (sumV s xs).1.2.2.2]) ∧ Below w.heap.size w w' := by
  have HX := Lib.hid hx
  clear hx
  have hB0 : Below w.heap.size w (w.alloc (.cells #[.string s.nm, .int .i64 s.ba, .int .i64 s.ro, .int .i64 s.ti, .int .i64 s.st, .int .i64 s.tr, .int .i64 s.li, .int .i64 s.up, .int .i64 s.mo] 23)) := (Below.refl _ _).alloc (Nat.le_refl _) _
  go_enter Try.func11, Try.ntmps11
  go_wp2_with fail
  refine (sum_any s hn A n c xs _ (HX.out.below hB0) hm).mono ?_
  rintro e w1 ⟨rfl, hb1⟩
  have hB1 := hB0.trans (hb1.mono hB0.size)
  go_wp2_with fail
  go_quiet (fail)
  go_wp2_with fail
  go_returns
  exact ⟨rfl, below_drewN (hB1.alloc hB1.size _) _⟩
end Go.Proofs.Yteciegpfiipokaa
