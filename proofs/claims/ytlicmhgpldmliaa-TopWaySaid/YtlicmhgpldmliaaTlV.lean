/- share.Split of ten over three that are alike: its stable sort. No condition. -/
import Derived.Test.YtlicmhgpldmliaaTlU
namespace Go.Proofs.Ytlicmhgpldmliaa.kit
open Go.RowKit
set_option linter.unusedVariables false

theorem stable_any (d g b : Nat) (w : World) (hd : Blk w d 3 #[.int .i64 0, .int .i64 1, .int .i64 2]) (hg : Blk w g 123 #[.slice (some ⟨b, 0, none⟩) 3 3]) (hk : Blk w b 122 #[.int .u64 1, .int .u64 1, .int .u64 1]) :
    Calls Try.prog 73 #[.slice (some ⟨d, 0, none⟩) 3 3, .int .i64 3, .func (.func 52) #[] #[(.pointer (some ⟨g, 0, none⟩))]] w fun e w' => e = .returned (.tuple #[]) ∧ Below w.heap.size w w' := by
  have HI := Lib.hid (ins_any d g b w hd hg hk)
  clear hd hg hk
  go_enter Try.func73, Try.ntmps73
  go_wp2_with fail
  go_loopw [7, 8] (fun a i wr => a = .int .i64 0 ∧ i = .int .i64 20 ∧ w = wr) (fun _ _ _ => 0)
  case atStart => exact ⟨rfl, rfl, rfl⟩
  case round =>
    obtain ⟨rfl, rfl, rfl⟩ := hrel
    go_wp2_with fail
    refine HI.out.mono ?_
    rintro e w1 ⟨rfl, hb1⟩
    have HB1 := Lib.hid hb1
    clear hb1
    go_wp2_with fail
    go_loopw [6, 7, 8] (fun s a i wr => s = .int .i64 20 ∧ wr = w1) (fun _ _ _ _ => 0)
    case atStart => exact ⟨rfl, rfl⟩
    case round =>
      obtain ⟨rfl, rfl⟩ := hrel
      go_wp2_with fail
      go_returns
      exact ⟨rfl, HB1.out⟩
theorem sort_any (d g b : Nat) (w : World) (hd : Blk w d 3 #[.int .i64 0, .int .i64 1, .int .i64 2]) (hg : Blk w g 123 #[.slice (some ⟨b, 0, none⟩) 3 3]) (hk : Blk w b 122 #[.int .u64 1, .int .u64 1, .int .u64 1]) :
    Calls Try.prog 51 #[.slice (some ⟨d, 0, none⟩) 3 3, .func (.func 52) #[] #[(.pointer (some ⟨g, 0, none⟩))]] w fun e w' => e = .returned (.tuple #[]) ∧ Below w.heap.size w w' := by
  have HI := Lib.hid (stable_any d g b w hd hg hk)
  clear hd hg hk
  go_enter Try.func51, Try.ntmps51
  go_wp2_with fail
  refine HI.out.mono ?_
  rintro e w1 ⟨rfl, hb1⟩
  have HB1 := Lib.hid hb1
  clear hb1
  go_wp2_with fail
  go_returns
  exact ⟨rfl, HB1.out⟩
end Go.Proofs.Ytlicmhgpldmliaa.kit
