/- share.Split of ten over three that are alike: its comparison. No condition. -/
import Derived.Test.YtlicmhgpldmliaaTlS
namespace Go.Proofs.Ytlicmhgpldmliaa.kit
open Go.RowKit
set_option linter.unusedVariables false

theorem nan_any (w : World) : Calls Try.prog 74 #[.int .u64 1] w fun e w' => e = .returned (.bool false) ∧ w = w' := by
  go_enter Try.func74, Try.ntmps74
  go_wp2_with fail
  go_ret
  exact ⟨rfl, rfl⟩
theorem cmp_any (w : World) : Calls Try.prog 53 #[.int .u64 1, .int .u64 1] w fun e w' => e = .returned (.int .i64 0) ∧ w = w' := by
  go_enter Try.func53, Try.ntmps53
  go_wp2_with fail
  refine (nan_any w).mono ?_
  rintro e w' ⟨rfl, rfl⟩
  go_wp2_with fail
  refine (nan_any w).mono ?_
  rintro e w' ⟨rfl, rfl⟩
  go_wp2_with fail
  go_ret
  exact ⟨rfl, rfl⟩
theorem clo_cmp (g b : Nat) (i j : Nat) (hi : i < 3) (hj : j < 3) (w : World) (hg : Blk w g 123 #[.slice (some ⟨b, 0, none⟩) 3 3]) (hk : Blk w b 122 #[.int .u64 1, .int .u64 1, .int .u64 1]) :
    Calls Try.prog 52 #[.int .i64 i, .int .i64 j, (.pointer (some ⟨g, 0, none⟩))] w fun e w' => e = .returned (.int .i64 0) ∧ Below w.heap.size w w' := by
  have k0 := hk.cell 0; have k1 := hk.cell 1; have k2 := hk.cell 2
  have g0 := hg.cell 0
  simp only [List.getElem?_toArray, List.getElem?_cons_zero, List.getElem?_cons_succ] at k0 k1 k2 g0
  have HC : ∀ i : Nat, i < 3 → w.cell? ⟨b, i, none⟩ = some (.int .u64 1) := fun i hi => by
    rcases i with _ | _ | _ | i
    · exact k0
    · exact k1
    · exact k2
    · omega
  have ci := HC i hi
  have cj := HC j hj
  have i1 : (i : Int) < 3 := by omega
  have j1 : (j : Int) < 3 := by omega
  have HQ : Hid (∀ x : BW w, Calls Try.prog 53 #[.int .u64 1, .int .u64 1] (wof x) fun e w' => e = .returned (.int .i64 0) ∧ Below (wof x).heap.size (wof x) w') := Lib.hid (fun x => (cmp_any (wof x)).mono fun e w' h => ⟨h.1, h.2 ▸ Below.refl _ _⟩)
  clear HC k0 k1 k2 hk hg hi hj
  have cc := wof_cell g0
  have ci2 := wof_cell ci
  have cj2 := wof_cell cj
  go_enter Try.func52, Try.ntmps52
  go_wp2_with fail
  refine wp_region_quiet_below (by kernel_rfl) (by kernel_rfl) ?_
  repeat (go_big_quiet_step ((go_at_call 53; exact quiet_below (HQ.out _))))
  refine wpQuiet_nil ?_
  intro w2 hb2
  go_wp2_with fail
  go_ret
  exact ⟨rfl, hb2⟩
end Go.Proofs.Ytlicmhgpldmliaa.kit
