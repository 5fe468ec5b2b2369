/- Cut, by the reference; whatever the stretches; the same stretches. No condition. -/
import Derived.Test.YtlicmhgpldmliaaCut
namespace Go.Proofs.Ytlicmhgpldmliaa
open Go.RowKit Go.Proofs.Ytlicmhgpldmliaa.kit
set_option linter.unusedVariables false

theorem two_made (w : World) : Two w.heap.size ((w.alloc (.cells #[] 76)).alloc (.cells #[] 76)) 76 3 Str.cells (.slice (some ⟨w.heap.size, 0, none⟩) 0 0) (cutA 0 ([] : List Str)) 76 3 Str.cells (.slice (some ⟨w.heap.size + 1, 0, none⟩) 0 0) (cutB 0 ([] : List Str)) := by
  refine ⟨?_, ?_, ?_, ?_⟩
  · exact ⟨by simp [cutA], .inr ⟨w.heap.size, 0, #[], rfl, Nat.le_refl _, ((Blk.new w 76 #[]).alloc _), Nat.le_refl _, Nat.zero_le _, rfl, by simp [cutA]⟩⟩
  · exact ⟨by simp [cutB], .inr ⟨w.heap.size + 1, 0, #[], rfl, by omega, Blk.new_at _ _ _ _ (by simp), Nat.le_refl _, Nat.zero_le _, rfl, by simp [cutB]⟩⟩
  · right; simp [Value.ownBlock]
  · right; simp [Value.ownBlock]

theorem cutPost_nil {w w' : World} {v1 v2 : Value} (h : Two w.heap.size w' 76 3 Str.cells v1 [] 76 3 Str.cells v2 []) (hb : Below w.heap.size w w') : CutPost w [] [] (.returned (.tuple #[v1, v2])) w' := cutPost_mk h hb
set_option maxHeartbeats 400000 in
theorem cut_any (at_ : Int) (A : Option Addr) (n c : Nat) (xs : List Str) (w : World) (hx : SliceOf w 3 Str.cells A n xs) (hm : n ≤ 4096) :
    Calls Try.prog 26 #[.slice A n c, .int .i64 at_] w (CutPost w (cutA at_ xs) (cutB at_ xs)) := by
  rcases hx.cells with rfl | ⟨b, off, rfl, hb, hc⟩
  · obtain rfl : xs = [] := List.eq_nil_of_length_eq_zero hx.len
    go_enter Try.func26, Try.ntmps26
    go_wp2_with fail
    go_loop [6, 7, 12] (fun s t i => i = .int .i64 0 ∧ s = .slice none 0 0 ∧ t = .slice none 0 0) (fun _ _ i => 0)
    case atStart => exact ⟨rfl, rfl, rfl⟩
    case round =>
      obtain ⟨rfl, rfl, rfl⟩ := hrel
      go_wp2_with fail
      go_ret2
      exact cutPost_nil ⟨World.ownsRow_nil _ _ _ _, World.ownsRow_nil _ _ _ _, .inl rfl, .inl rfl⟩ (Below.refl _ _)
  · exact cut_pos at_ b off n c xs w hx.len hm hb hc
end Go.Proofs.Ytlicmhgpldmliaa
