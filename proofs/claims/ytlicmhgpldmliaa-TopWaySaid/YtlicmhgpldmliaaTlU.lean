/- share.Split of ten over three that are alike: its sort leaves the order as it is. No condition. -/
import Derived.Test.YtlicmhgpldmliaaTlT
namespace Go.Proofs.Ytlicmhgpldmliaa.kit
open Go.RowKit
set_option linter.unusedVariables false

theorem ins_any (d g b : Nat) (w : World) (hd : Blk w d 3 #[.int .i64 0, .int .i64 1, .int .i64 2]) (hg : Blk w g 123 #[.slice (some ⟨b, 0, none⟩) 3 3]) (hk : Blk w b 122 #[.int .u64 1, .int .u64 1, .int .u64 1]) :
    Calls Try.prog 87 #[.slice (some ⟨d, 0, none⟩) 3 3, .int .i64 0, .int .i64 3, .func (.func 52) #[] #[(.pointer (some ⟨g, 0, none⟩))]] w fun e w' => e = .returned (.tuple #[]) ∧ Below w.heap.size w w' := by
  have k0 := hd.cell 0; have k1 := hd.cell 1; have k2 := hd.cell 2
  simp only [List.getElem?_toArray, List.getElem?_cons_zero, List.getElem?_cons_succ] at k0 k1 k2
  have HC : Hid (∀ i : Nat, i < 3 → w.cell? ⟨d, i, none⟩ = some (.int .i64 i)) := Lib.hid (fun i hi => by
    rcases i with _ | _ | _ | i
    · exact k0
    · exact k1
    · exact k2
    · omega)
  have HD := Lib.hid hd.lt
  have HCL : Hid (∀ W, Below w.heap.size w W → ∀ i j : Nat, i < 3 → j < 3 → Calls Try.prog 52 #[.int .i64 i, .int .i64 j, (.pointer (some ⟨g, 0, none⟩))] W fun e w' => e = .returned (.int .i64 0) ∧ Below W.heap.size W w') := Lib.hid (fun W hW i j hi hj => clo_cmp g b i j hi hj W (hg.below hW hg.lt) (hk.below hW hk.lt))
  clear k0 k1 k2 hd hg hk
  go_enter Try.func87, Try.ntmps87
  go_wp2_with fail
  go_loopw [8] (fun i wr => ∃ k : Nat, 1 ≤ k ∧ k ≤ 3 ∧ i = .int .i64 k ∧ Hid (Below w.heap.size w wr)) (fun i _ => 3 - (intOf i).toNat)
  case atStart => exact ⟨1, by omega, by omega, rfl, Lib.hid (Below.refl _ _)⟩
  case round =>
    obtain ⟨k, hk1, hk3, rfl, hB⟩ := hrel
    by_cases hlt : k < 3
    · obtain ⟨k', rfl⟩ : ∃ k', k = k' + 1 := ⟨k - 1, by omega⟩
      have c1 := (hB.out.cell HD.out).trans (HC.out (k' + 1) hlt)
      have c2 := (hB.out.cell HD.out).trans (HC.out k' (by omega))
      have kn : ((k' + 1 : Nat) : Int) < 3 := by omega
      have kp : (0 : Int) < ((k' + 1 : Nat) : Int) := by omega
      have km : IntKind.i64.wrap (((k' + 1 : Nat) : Int) - 1) = (k' : Int) := by rw [show ((k' + 1 : Nat) : Int) - 1 = (k' : Int) by omega]; exact IntWalk.i64_in _ (by omega)
      have HQ : Hid (∀ x : BW wr, Calls Try.prog 52 #[.int .i64 ((k' + 1 : Nat) : Int), .int .i64 k', (.pointer (some ⟨g, 0, none⟩))] (wof x) fun e w' => e = .returned (.int .i64 0) ∧ Below (wof x).heap.size (wof x) w') := Lib.hid (fun x => HCL.out (wof x) (hB.out.trans ((wof_below x).mono hB.out.size)) (k' + 1) k' hlt (by omega))
      have cc1 := wof_cell c1
      have cc2 := wof_cell c2
      go_wp2_with fail
      go_loopw [9] (fun j wi => j = .int .i64 ((k' + 1 : Nat) : Int) ∧ wi = wr) (fun _ _ => 0)
      case atStart => exact ⟨rfl, rfl⟩
      case round =>
        obtain ⟨rfl, rfl⟩ := hrel
        go_wp2_with fail
        refine wp_region_quiet_below (by kernel_rfl) (by kernel_rfl) ?_
        repeat (go_big_quiet_step ((go_at_call 52; exact quiet_below (HQ.out _))))
        refine wpQuiet_nil ?_
        intro w2 hb2
        have HB2 := Lib.hid (hB.out.trans (hb2.mono hB.out.size))
        go_wp2_with fail
        go_roundw
        case rel => exact ⟨k' + 2, by omega, by omega, by go_num, HB2⟩
        case measure => simp [intOf]; omega
    · have hk9 : k = 3 := by omega
      subst hk9
      go_wp2_with fail
      go_returns
      exact ⟨rfl, hB.out⟩
end Go.Proofs.Ytlicmhgpldmliaa.kit
