/- share.Split of ten over three that are alike, its small parts: what is wrong with it (nothing). No condition. -/
import Derived.Test.YtlicmhgpldmliaaTlK
namespace Go.Proofs.Ytlicmhgpldmliaa.kit
open Go.RowKit
set_option linter.unusedVariables false

theorem clo_s1 (w : World) : Calls Try.prog 69 #[.int .i64 1] w fun e w' => e = .returned (.bool false) ∧ w = w' := by
  go_enter Try.func69, Try.ntmps69
  go_wp2_with fail
  go_ret
  exact ⟨rfl, rfl⟩
theorem clo_s2 (w : World) : Calls Try.prog 70 #[.int .i64 1] w fun e w' => e = .returned (.bool false) ∧ w = w' := by
  go_enter Try.func70, Try.ntmps70
  go_wp2_with fail
  go_ret
  exact ⟨rfl, rfl⟩
theorem clo_s3 (w : World) : Calls Try.prog 71 #[.int .i64 1] w fun e w' => e = .returned (.bool true) ∧ w = w' := by
  go_enter Try.func71, Try.ntmps71
  go_wp2_with fail
  go_ret
  exact ⟨rfl, rfl⟩
theorem idx_s1 (b : Nat) (w : World) (hk : Blk w b 2 #[.int .i64 1, .int .i64 1, .int .i64 1]) : Calls Try.prog 85 #[.slice (some ⟨b, 0, none⟩) 3 3, .func (.func 69) #[] #[]] w fun e w' => e = .returned (.int .i64 (-1)) ∧ w = w' := by
  have k0 := hk.cell 0; have k1 := hk.cell 1; have k2 := hk.cell 2
  simp only [List.getElem?_toArray, List.getElem?_cons_zero, List.getElem?_cons_succ] at k0 k1 k2
  have HC : ∀ i : Nat, i < 3 → w.cell? ⟨b, i, none⟩ = some (.int .i64 1) := fun i hi => by
    rcases i with _ | _ | _ | i
    · exact k0
    · exact k1
    · exact k2
    · omega
  have HCC := Lib.hid HC
  clear HC k0 k1 k2 hk
  go_enter Try.func85, Try.ntmps85
  go_wp2_with fail
  go_loopw [8] (fun i wr => ∃ k : Nat, k ≤ 3 ∧ i = .int .i64 k ∧ w = wr) (fun i _ => 3 - (intOf i).toNat)
  case atStart => exact ⟨0, by omega, rfl, rfl⟩
  case round =>
    obtain ⟨k, hk, rfl, rfl⟩ := hrel
    by_cases hlt : k < 3
    · have hc := HCC.out k hlt
      have hkn : (k : Int) < 3 := by omega
      go_wp2_with fail
      refine (clo_s1 w).mono ?_
      rintro e w' ⟨rfl, rfl⟩
      go_wp2_with fail
      go_roundw
      case rel => exact ⟨k + 1, by omega, by go_num, by first | trivial | rfl⟩
      case measure => simp [intOf]; omega
    · have hk3 : k = 3 := by omega
      subst hk3
      go_wp2_with fail
      go_ret
      exact ⟨rfl, rfl⟩
theorem idx_s2 (b : Nat) (w : World) (hk : Blk w b 2 #[.int .i64 1, .int .i64 1, .int .i64 1]) : Calls Try.prog 85 #[.slice (some ⟨b, 0, none⟩) 3 3, .func (.func 70) #[] #[]] w fun e w' => e = .returned (.int .i64 (-1)) ∧ w = w' := by
  have k0 := hk.cell 0; have k1 := hk.cell 1; have k2 := hk.cell 2
  simp only [List.getElem?_toArray, List.getElem?_cons_zero, List.getElem?_cons_succ] at k0 k1 k2
  have HC : ∀ i : Nat, i < 3 → w.cell? ⟨b, i, none⟩ = some (.int .i64 1) := fun i hi => by
    rcases i with _ | _ | _ | i
    · exact k0
    · exact k1
    · exact k2
    · omega
  have HCC := Lib.hid HC
  clear HC k0 k1 k2 hk
  go_enter Try.func85, Try.ntmps85
  go_wp2_with fail
  go_loopw [8] (fun i wr => ∃ k : Nat, k ≤ 3 ∧ i = .int .i64 k ∧ w = wr) (fun i _ => 3 - (intOf i).toNat)
  case atStart => exact ⟨0, by omega, rfl, rfl⟩
  case round =>
    obtain ⟨k, hk, rfl, rfl⟩ := hrel
    by_cases hlt : k < 3
    · have hc := HCC.out k hlt
      have hkn : (k : Int) < 3 := by omega
      go_wp2_with fail
      refine (clo_s2 w).mono ?_
      rintro e w' ⟨rfl, rfl⟩
      go_wp2_with fail
      go_roundw
      case rel => exact ⟨k + 1, by omega, by go_num, by first | trivial | rfl⟩
      case measure => simp [intOf]; omega
    · have hk3 : k = 3 := by omega
      subst hk3
      go_wp2_with fail
      go_ret
      exact ⟨rfl, rfl⟩
theorem idx_s3 (b : Nat) (w : World) (hk : Blk w b 2 #[.int .i64 1, .int .i64 1, .int .i64 1]) : Calls Try.prog 85 #[.slice (some ⟨b, 0, none⟩) 3 3, .func (.func 71) #[] #[]] w fun e w' => e = .returned (.int .i64 0) ∧ w = w' := by
  have k0 := hk.cell 0
  simp only [List.getElem?_toArray, List.getElem?_cons_zero] at k0
  clear hk
  go_enter Try.func85, Try.ntmps85
  go_wp2_with fail
  go_loopw [8] (fun i wr => i = .int .i64 0 ∧ w = wr) (fun i _ => 0)
  case atStart => exact ⟨rfl, rfl⟩
  case round =>
    obtain ⟨rfl, rfl⟩ := hrel
    go_wp2_with fail
    refine (clo_s3 w).mono ?_
    rintro e w' ⟨rfl, rfl⟩
    go_wp2_with fail
    go_ret
    exact ⟨rfl, rfl⟩
theorem cont_s1 (b : Nat) (w : World) (hk : Blk w b 2 #[.int .i64 1, .int .i64 1, .int .i64 1]) : Calls Try.prog 68 #[.slice (some ⟨b, 0, none⟩) 3 3, .func (.func 69) #[] #[]] w fun e w' => e = .returned (.bool false) ∧ w = w' := by
  have HI := Lib.hid (idx_s1 b w hk)
  clear hk
  go_enter Try.func68, Try.ntmps68
  go_wp2_with fail
  refine HI.out.mono ?_
  rintro e w' ⟨rfl, rfl⟩
  go_wp2_with fail
  go_ret
  exact ⟨rfl, rfl⟩
theorem cont_s2 (b : Nat) (w : World) (hk : Blk w b 2 #[.int .i64 1, .int .i64 1, .int .i64 1]) : Calls Try.prog 68 #[.slice (some ⟨b, 0, none⟩) 3 3, .func (.func 70) #[] #[]] w fun e w' => e = .returned (.bool false) ∧ w = w' := by
  have HI := Lib.hid (idx_s2 b w hk)
  clear hk
  go_enter Try.func68, Try.ntmps68
  go_wp2_with fail
  refine HI.out.mono ?_
  rintro e w' ⟨rfl, rfl⟩
  go_wp2_with fail
  go_ret
  exact ⟨rfl, rfl⟩
theorem cont_s3 (b : Nat) (w : World) (hk : Blk w b 2 #[.int .i64 1, .int .i64 1, .int .i64 1]) : Calls Try.prog 68 #[.slice (some ⟨b, 0, none⟩) 3 3, .func (.func 71) #[] #[]] w fun e w' => e = .returned (.bool true) ∧ w = w' := by
  have HI := Lib.hid (idx_s3 b w hk)
  clear hk
  go_enter Try.func68, Try.ntmps68
  go_wp2_with fail
  refine HI.out.mono ?_
  rintro e w' ⟨rfl, rfl⟩
  go_wp2_with fail
  go_ret
  exact ⟨rfl, rfl⟩
theorem wrong_any (b : Nat) (w : World) (hk : Blk w b 2 #[.int .i64 1, .int .i64 1, .int .i64 1]) : Calls Try.prog 48 #[.int .i64 10, .slice (some ⟨b, 0, none⟩) 3 3] w fun e w' => e = .returned (.int .i64 0) ∧ w = w' := by
  have H1 := Lib.hid (cont_s1 b w hk)
  have H2 := Lib.hid (cont_s2 b w hk)
  have H3 := Lib.hid (cont_s3 b w hk)
  have H4 : Hid (Calls Try.prog 70 #[.int .i64 10] w fun e w' => e = .returned (.bool false) ∧ w = w') := Lib.hid (by
    go_enter Try.func70, Try.ntmps70
    go_wp2_with fail
    go_ret
    exact ⟨rfl, rfl⟩)
  clear hk
  go_enter Try.func48, Try.ntmps48
  go_wp2_with fail
  refine H1.out.mono ?_
  rintro e w' ⟨rfl, rfl⟩
  go_wp2_with fail
  refine H4.out.mono ?_
  rintro e w' ⟨rfl, rfl⟩
  go_wp2_with fail
  refine H2.out.mono ?_
  rintro e w' ⟨rfl, rfl⟩
  go_wp2_with fail
  refine H3.out.mono ?_
  rintro e w' ⟨rfl, rfl⟩
  go_wp2_with fail
  go_ret
  exact ⟨rfl, rfl⟩
end Go.Proofs.Ytlicmhgpldmliaa.kit
