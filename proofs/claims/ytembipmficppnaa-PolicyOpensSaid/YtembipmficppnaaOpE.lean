/- The sum that runs out: the program's question. No condition. -/
import Derived.Test.YtembipmficppnaaOpD
namespace Go.Proofs.Ytembipmficppnaa.kit
open Go.RowKit
set_option linter.unusedVariables false

set_option maxRecDepth 100000 in
theorem over_yes (g : Nat) (A : Option Addr) (n c : Nat) (xs : List Dr) (S : Int) (w0 w : World) (hbel0 : Below w0.heap.size w0 w) (hg : w0.heap.size ≤ g) (hk : Blk w g 2 #[.int .i64 S]) (hx : SliceOf w0 2 drC A n xs) (hm : n ≤ 1000)
    (hS : 0 ≤ S ∧ S ≤ 1099511627776) (ham : ∀ x ∈ xs, 1 ≤ x.am ∧ x.am ≤ 1099511627776) :
    Calls Try.prog 36 #[.slice A n c, .func (.func 39) #[] #[.pointer (some ⟨g, 0, none⟩)]] w fun e w' =>
      e = .returned (.bool (decide (S < tot xs))) ∧ (tot xs ≤ S → Blk w' g 2 #[.int .i64 (S - tot xs)]) ∧ Below w0.heap.size w0 w' ∧ KeptD g w w' := by
  have H := Lib.hid (idx_s g A n c xs S w0 w hbel0 hg hk hx hm hS ham)
  clear hbel0 hk hx ham
  go_enter Try.func36, Try.ntmps36
  go_wp2_with fail
  refine H.out.mono ?_
  rintro e w1 ⟨h, hb1, hk1⟩
  rcases h with ⟨hlt, k, rfl⟩ | ⟨hle, rfl, hk2⟩
  · have E : Hid (true = decide (S < tot xs)) := Lib.hid (decide_eq_true hlt).symm
    have HLT := Lib.hid hlt
    have h0 : (0 : Int) ≤ (k : Int) := by omega
    clear hlt
    go_wp2_with fail
    go_ret
    exact ⟨ret_bool (by first | exact E.out | simpa using E.out), fun h => absurd HLT.out (by omega), hb1, hk1⟩
  · have E : Hid (false = decide (S < tot xs)) := Lib.hid (decide_eq_false (by omega)).symm
    have HK := Lib.hid hk2
    clear hle hk2
    go_wp2_with fail
    go_ret
    exact ⟨ret_bool (by first | exact E.out | simpa using E.out), fun _ => HK.out, hb1, hk1⟩
end Go.Proofs.Ytembipmficppnaa.kit
