/- The arguments, opened to typed values. No condition. -/
import Derived.Test.YtlicmhgpldmliaaLtP
namespace Go.Proofs.Ytlicmhgpldmliaa
open Go.RowKit Go.Proofs.Ytlicmhgpldmliaa.kit
open Go.ChangeShapes Go.WideShapes Go.ChangeAt
set_option linter.unusedVariables false
set_option maxRecDepth 100000
theorem own : ownKnob Try.prog.godebug = none := by kernel_rfl
theorem leavesWay : leavesAt Try.prog 6 37 = [(0, 5), (1, 5)] := by kernel_rfl
theorem cellsWay : Try.prog.cellsOf 37 = 2 := by kernel_rfl
theorem listWay {cs : List Value} {c0 c1 : Value} (h : cs.length = 2) (h0 : cs[0]? = some c0) (h1 : cs[1]? = some c1) : cs = [c0, c1] := by
  match cs, h with
  | [x0, x1], _ => simp at h0 h1; rw [h0, h1]
section
variable {H : Type} {enc : TypeId × Value → H} {W : World} {base : Nat} {spare : Nat → Bool} {held : Bool}
theorem open_way (m : Nat) (cs : List Value) (x : DataW H × List MemPlace) (h : DataW.trod enc Try.prog W base spare held m 37 cs = some x) : ∃ a : kit.Way, cs = a.cells ∧ a.wf := by
  obtain ⟨a0, e0, w0⟩ := leaf_int (o := 0) (u := 5) (k := .u8) h 6 (by rw [leavesWay]; simp) Try.underlying5
  obtain ⟨a1, e1, w1⟩ := leaf_int (o := 1) (u := 5) (k := .u8) h 6 (by rw [leavesWay]; simp) Try.underlying5
  obtain ⟨_, _, _, _, hlen, _⟩ := DataW.trod_struct Try.underlying37 h
  exact ⟨⟨a0, a1⟩, listWay (hlen.trans cellsWay) e0 e1, u8_of_wf w0, u8_of_wf w1⟩
theorem open_way_arg {v : Value} {d : DataW H} {p : List MemPlace} (hv : Value.okWide Try.prog W .any base 37 v) (h : DataW.Trod enc Try.prog W 0 spare held 37 v d p) : ∃ a : kit.Way, v = .agg #[.int .u8 a.kd, .int .u8 a.nn] ∧ a.wf := by
  obtain ⟨cs, rfl, _⟩ := okWide_struct Try.underlying37 hv
  obtain ⟨m, hm⟩ := h
  obtain ⟨a, ha, wa⟩ := open_way m _ _ hm
  refine ⟨a, ?_, wa⟩
  have : cs = #[.int .u8 a.kd, .int .u8 a.nn] := by
    apply Array.toList_inj.1
    simpa [Value.cells, kit.Way.cells] using ha
  rw [this]
end
section
variable {H : Type} {enc : TypeId × Value → H} {W : World} {base : Nat} {spare : Nat → Bool} {held : Bool}
theorem open_ways_cell (m : Nat) (cs : List Value) (x : DataW H × List MemPlace) (h : DataW.trod enc Try.prog W base spare held m 22 cs = some x) :
    ∃ A n c xs, cs = [.slice A n c] ∧ n ≤ c ∧ c ≤ maxLen ∧ SliceOf W 2 kit.Way.cells A n xs ∧ ∀ y ∈ xs, kit.Way.wf y :=
  open_sliceOf kit.Way.cells kit.Way.wf Try.underlying22 cellsWay (by omega) open_way h
theorem open_ways_arg {v : Value} {d : DataW H} {p : List MemPlace} (hv : Value.okWide Try.prog W .any base 22 v) (h : DataW.Trod enc Try.prog W 0 spare held 22 v d p) :
    ∃ A n c xs, v = .slice A n c ∧ n ≤ c ∧ c ≤ maxLen ∧ SliceOf W 2 kit.Way.cells A n xs ∧ ∀ y ∈ xs, kit.Way.wf y := by
  obtain ⟨a, n, c, rfl⟩ := okWide_slice Try.underlying22 hv
  obtain ⟨m, hm⟩ := h
  obtain ⟨A, l, c', xs, he, hl, hc, hs, hw⟩ := open_ways_cell m _ _ hm
  simp [Value.cells] at he
  obtain ⟨rfl, rfl, rfl⟩ := he
  exact ⟨_, _, _, xs, rfl, hl, hc, hs, hw⟩
end
end Go.Proofs.Ytlicmhgpldmliaa
