/- The arguments, opened to typed values. No condition. -/
import Derived.Test.YtmmcngdpfikdiaaDoorMyArgs0
namespace Go.Proofs.YtmmcngdpfikdiaaDoor
open Go.RowKit Go.Proofs.YtmmcngdpfikdiaaDoor.kit
open Go.ChangeShapes Go.WideShapes Go.ChangeAt
set_option linter.unusedVariables false
theorem own : ownKnob Tryd.prog.godebug = none := by kernel_rfl
theorem leavesMon : leavesAt Tryd.prog 6 23 = [(0, 9), (1, 2)] := by kernel_rfl
theorem cellsMon : Tryd.prog.cellsOf 23 = 2 := by kernel_rfl
theorem listMon {cs : List Value} {c0 c1 : Value} (h : cs.length = 2) (h0 : cs[0]? = some c0) (h1 : cs[1]? = some c1) : cs = [c0, c1] := by
  match cs, h with
  | [x0, x1], _ => simp at h0 h1; rw [h0, h1]
section
variable {H : Type} {enc : TypeId × Value → H} {W : World} {base : Nat} {spare : Nat → Bool} {held : Bool}
theorem open_mon (m : Nat) (cs : List Value) (x : DataW H × List MemPlace) (h : DataW.trod enc Tryd.prog W base spare held m 23 cs = some x) : ∃ a : Mon, cs = a.cells ∧ a.wf := by
  obtain ⟨a0, e0, w0⟩ := leaf_string (o := 0) (u := 9) h 6 (by rw [leavesMon]; simp) Tryd.underlying9
  obtain ⟨a1, e1, w1⟩ := leaf_int (o := 1) (u := 2) (k := .i64) h 6 (by rw [leavesMon]; simp) Tryd.underlying2
  obtain ⟨_, _, _, _, hlen, _⟩ := DataW.trod_struct Tryd.underlying23 h
  exact ⟨⟨a0, a1⟩, listMon (hlen.trans cellsMon) e0 e1, w0, i64_of_wf w1⟩
theorem open_mon_arg {v : Value} {d : DataW H} {p : List MemPlace} (hv : Value.okWide Tryd.prog W .any base 23 v) (h : DataW.Trod enc Tryd.prog W 0 spare held 23 v d p) : ∃ a : Mon, v = .agg #[.string a.cur, .int .i64 a.amt] ∧ a.wf := by
  obtain ⟨cs, rfl, _⟩ := okWide_struct Tryd.underlying23 hv
  obtain ⟨m, hm⟩ := h
  obtain ⟨a, ha, wa⟩ := open_mon m _ _ hm
  refine ⟨a, ?_, wa⟩
  have : cs = #[.string a.cur, .int .i64 a.amt] := by
    apply Array.toList_inj.1
    simpa [Value.cells, Mon.cells] using ha
  rw [this]
end
theorem leavesRat : leavesAt Tryd.prog 6 25 = [(0, 2), (1, 2)] := by kernel_rfl
theorem cellsRat : Tryd.prog.cellsOf 25 = 2 := by kernel_rfl
theorem listRat {cs : List Value} {c0 c1 : Value} (h : cs.length = 2) (h0 : cs[0]? = some c0) (h1 : cs[1]? = some c1) : cs = [c0, c1] := by
  match cs, h with
  | [x0, x1], _ => simp at h0 h1; rw [h0, h1]
section
variable {H : Type} {enc : TypeId × Value → H} {W : World} {base : Nat} {spare : Nat → Bool} {held : Bool}
theorem open_rat (m : Nat) (cs : List Value) (x : DataW H × List MemPlace) (h : DataW.trod enc Tryd.prog W base spare held m 25 cs = some x) : ∃ a : Rat, cs = a.cells ∧ a.wf := by
  obtain ⟨a0, e0, w0⟩ := leaf_int (o := 0) (u := 2) (k := .i64) h 6 (by rw [leavesRat]; simp) Tryd.underlying2
  obtain ⟨a1, e1, w1⟩ := leaf_int (o := 1) (u := 2) (k := .i64) h 6 (by rw [leavesRat]; simp) Tryd.underlying2
  obtain ⟨_, _, _, _, hlen, _⟩ := DataW.trod_struct Tryd.underlying25 h
  exact ⟨⟨a0, a1⟩, listRat (hlen.trans cellsRat) e0 e1, i64_of_wf w0, i64_of_wf w1⟩
theorem open_rat_arg {v : Value} {d : DataW H} {p : List MemPlace} (hv : Value.okWide Tryd.prog W .any base 25 v) (h : DataW.Trod enc Tryd.prog W 0 spare held 25 v d p) : ∃ a : Rat, v = .agg #[.int .i64 a.n, .int .i64 a.d] ∧ a.wf := by
  obtain ⟨cs, rfl, _⟩ := okWide_struct Tryd.underlying25 hv
  obtain ⟨m, hm⟩ := h
  obtain ⟨a, ha, wa⟩ := open_rat m _ _ hm
  refine ⟨a, ?_, wa⟩
  have : cs = #[.int .i64 a.n, .int .i64 a.d] := by
    apply Array.toList_inj.1
    simpa [Value.cells, Rat.cells] using ha
  rw [this]
end
end Go.Proofs.YtmmcngdpfikdiaaDoor
