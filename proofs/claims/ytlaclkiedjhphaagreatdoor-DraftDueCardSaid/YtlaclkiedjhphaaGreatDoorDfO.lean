/- Whether a bill is open; its holder. No condition. -/
import Derived.Test.YtlaclkiedjhphaaGreatDoorDfD
namespace Go.Proofs.YtlaclkiedjhphaaGreatDoor.kit
open Go.RowKit Go.PlainAid Go.Maps
set_option linter.unusedVariables false

theorem open_any (g mb : Nat) (b : Bl) (W : World) (hb : IsBill W g mb b) :
    Calls Tryz.prog 38 #[(.pointer (some ⟨g, 0, none⟩))] W fun e w' => e = .returned (.bool (canV b 1)) ∧ Below W.heap.size W w' := by
  have k9 : W.cell? ⟨g, 9, none⟩ = some (.int .i64 b.st) := hb.blk.cell 9
  clear hb
  have hv : canV b 1 = (decide (b.st = 0) || decide (b.st = 1)) := by unfold canV; rw [if_neg (by omega), if_pos (by omega)]; simp
  rw [hv]
  clear hv
  by_cases h0 : b.st = 0
  · have d0 : (b.st == 0) = true := by rw [h0]; rfl
    have d1 : decide (b.st = 0) = true := decide_eq_true h0
    rw [d1]
    clear h0 d1
    go_enter Tryz.func38, Tryz.ntmps38
    go_wp2
    go_ret
    exact ⟨rfl, Below.refl _ _⟩
  · have d0 : (b.st == 0) = false := by simpa using h0
    have d1 : decide (b.st = 0) = false := decide_eq_false h0
    rw [d1]
    clear h0 d1
    go_enter Tryz.func38, Tryz.ntmps38
    go_wp2
    go_ret
    exact ⟨ret_bool (by rw [Bool.eq_iff_iff]; simp), Below.refl _ _⟩
theorem can13 (b : Bl) : canV b 3 = canV b 1 := by unfold canV; simp
theorem who13 (b : Bl) (s : ByteArray) : whoV b 3 s = whoV b 1 s := by unfold whoV; simp
theorem hol1_any (p p' g mb : Nat) (b : Bl) (s : ByteArray) (W : World) (hp : Blk W p 9 #[.string s]) (hp' : Blk W p' 39 #[(.pointer (some ⟨g, 0, none⟩))]) (hb : IsBill W g mb b) :
    Calls Tryz.prog 39 #[(.pointer (some ⟨p, 0, none⟩)), (.pointer (some ⟨p', 0, none⟩))] W fun e w' => e = .returned (.bool (whoV b 1 s)) ∧ Below W.heap.size W w' := by
  have k : W.cell? ⟨p, 0, none⟩ = some (.string s) := hp.cell 0
  have k' : W.cell? ⟨p', 0, none⟩ = some ((.pointer (some ⟨g, 0, none⟩))) := hp'.cell 0
  have k2 : W.cell? ⟨g, 11, none⟩ = some (.string b.hol) := hb.blk.cell 11
  clear hp hp' hb
  have hv : whoV b 1 s = decide (s = b.hol) := by unfold whoV; rw [if_pos (by omega)]
  rw [hv, ← eq_str]
  clear hv
  go_enter Tryz.func39, Tryz.ntmps39
  go_wp2_with fail
  go_quiet (fail)
  go_wp2_with fail
  go_ret
  exact ⟨rfl, below_drewN (Below.refl _ _) _⟩
end Go.Proofs.YtlaclkiedjhphaaGreatDoor.kit
