/- The arguments, opened to typed values. No condition. -/
import Derived.Test.YteciegpfiipokaaMap
namespace Go.Proofs.Yteciegpfiipokaa
open Go.RowKit Go.Proofs.Yteciegpfiipokaa.kit
open Go.ChangeShapes Go.WideShapes Go.ChangeAt
set_option linter.unusedVariables false
theorem own : ownKnob Try.prog.godebug = none := by kernel_rfl
theorem leavesShip : leavesAt Try.prog 6 23 = [(0, 9), (1, 3), (2, 3), (3, 3), (4, 3), (5, 3), (6, 3), (7, 3), (8, 3)] := by kernel_rfl
theorem cellsShip : Try.prog.cellsOf 23 = 9 := by kernel_rfl
theorem listShip {cs : List Value} {c0 c1 c2 c3 c4 c5 c6 c7 c8 : Value} (h : cs.length = 9) (h0 : cs[0]? = some c0) (h1 : cs[1]? = some c1) (h2 : cs[2]? = some c2) (h3 : cs[3]? = some c3) (h4 : cs[4]? = some c4) (h5 : cs[5]? = some c5) (h6 : cs[6]? = some c6) (h7 : cs[7]? = some c7) (h8 : cs[8]? = some c8) : cs = [c0, c1, c2, c3, c4, c5, c6, c7, c8] := by
  match cs, h with
  | [x0, x1, x2, x3, x4, x5, x6, x7, x8], _ => simp at h0 h1 h2 h3 h4 h5 h6 h7 h8; rw [h0, h1, h2, h3, h4, h5, h6, h7, h8]
section
variable {H : Type} {enc : TypeId × Value → H} {W : World} {base : Nat} {spare : Nat → Bool} {held : Bool}
theorem open_ship (m : Nat) (cs : List Value) (x : DataW H × List MemPlace) (h : DataW.trod enc Try.prog W base spare held m 23 cs = some x) : ∃ a : Ship, cs = a.cells ∧ a.wf := by
  obtain ⟨a0, e0, w0⟩ := leaf_string (o := 0) (u := 9) h 6 (by rw [leavesShip]; simp) Try.underlying9
  obtain ⟨a1, e1, w1⟩ := leaf_int (o := 1) (u := 3) (k := .i64) h 6 (by rw [leavesShip]; simp) Try.underlying3
  obtain ⟨a2, e2, w2⟩ := leaf_int (o := 2) (u := 3) (k := .i64) h 6 (by rw [leavesShip]; simp) Try.underlying3
  obtain ⟨a3, e3, w3⟩ := leaf_int (o := 3) (u := 3) (k := .i64) h 6 (by rw [leavesShip]; simp) Try.underlying3
  obtain ⟨a4, e4, w4⟩ := leaf_int (o := 4) (u := 3) (k := .i64) h 6 (by rw [leavesShip]; simp) Try.underlying3
  obtain ⟨a5, e5, w5⟩ := leaf_int (o := 5) (u := 3) (k := .i64) h 6 (by rw [leavesShip]; simp) Try.underlying3
  obtain ⟨a6, e6, w6⟩ := leaf_int (o := 6) (u := 3) (k := .i64) h 6 (by rw [leavesShip]; simp) Try.underlying3
  obtain ⟨a7, e7, w7⟩ := leaf_int (o := 7) (u := 3) (k := .i64) h 6 (by rw [leavesShip]; simp) Try.underlying3
  obtain ⟨a8, e8, w8⟩ := leaf_int (o := 8) (u := 3) (k := .i64) h 6 (by rw [leavesShip]; simp) Try.underlying3
  obtain ⟨_, _, _, _, hlen, _⟩ := DataW.trod_struct Try.underlying23 h
  exact ⟨⟨a0, a1, a2, a3, a4, a5, a6, a7, a8⟩, listShip (hlen.trans cellsShip) e0 e1 e2 e3 e4 e5 e6 e7 e8, w0, i64_of_wf w1, i64_of_wf w2, i64_of_wf w3, i64_of_wf w4, i64_of_wf w5, i64_of_wf w6, i64_of_wf w7, i64_of_wf w8⟩
theorem open_ship_arg {v : Value} {d : DataW H} {p : List MemPlace} (hv : Value.okWide Try.prog W .any base 23 v) (h : DataW.Trod enc Try.prog W 0 spare held 23 v d p) : ∃ a : Ship, v = .agg #[.string a.nm, .int .i64 a.ba, .int .i64 a.ro, .int .i64 a.ti, .int .i64 a.st, .int .i64 a.tr, .int .i64 a.li, .int .i64 a.up, .int .i64 a.mo] ∧ a.wf := by
  obtain ⟨cs, rfl, _⟩ := okWide_struct Try.underlying23 hv
  obtain ⟨m, hm⟩ := h
  obtain ⟨a, ha, wa⟩ := open_ship m _ _ hm
  refine ⟨a, ?_, wa⟩
  have : cs = #[.string a.nm, .int .i64 a.ba, .int .i64 a.ro, .int .i64 a.ti, .int .i64 a.st, .int .i64 a.tr, .int .i64 a.li, .int .i64 a.up, .int .i64 a.mo] := by
    apply Array.toList_inj.1
    simpa [Value.cells, Ship.cells] using ha
  rw [this]
end
theorem leavesLoad : leavesAt Try.prog 6 40 = [(0, 3), (1, 3), (2, 3), (3, 9), (4, 3), (5, 3), (6, 3)] := by kernel_rfl
theorem cellsLoad : Try.prog.cellsOf 40 = 7 := by kernel_rfl
theorem listLoad {cs : List Value} {c0 c1 c2 c3 c4 c5 c6 : Value} (h : cs.length = 7) (h0 : cs[0]? = some c0) (h1 : cs[1]? = some c1) (h2 : cs[2]? = some c2) (h3 : cs[3]? = some c3) (h4 : cs[4]? = some c4) (h5 : cs[5]? = some c5) (h6 : cs[6]? = some c6) : cs = [c0, c1, c2, c3, c4, c5, c6] := by
  match cs, h with
  | [x0, x1, x2, x3, x4, x5, x6], _ => simp at h0 h1 h2 h3 h4 h5 h6; rw [h0, h1, h2, h3, h4, h5, h6]
section
variable {H : Type} {enc : TypeId × Value → H} {W : World} {base : Nat} {spare : Nat → Bool} {held : Bool}
theorem open_load (m : Nat) (cs : List Value) (x : DataW H × List MemPlace) (h : DataW.trod enc Try.prog W base spare held m 40 cs = some x) : ∃ a : Load, cs = a.cells ∧ a.wf := by
  obtain ⟨a0, e0, w0⟩ := leaf_int (o := 0) (u := 3) (k := .i64) h 6 (by rw [leavesLoad]; simp) Try.underlying3
  obtain ⟨a1, e1, w1⟩ := leaf_int (o := 1) (u := 3) (k := .i64) h 6 (by rw [leavesLoad]; simp) Try.underlying3
  obtain ⟨a2, e2, w2⟩ := leaf_int (o := 2) (u := 3) (k := .i64) h 6 (by rw [leavesLoad]; simp) Try.underlying3
  obtain ⟨a3, e3, w3⟩ := leaf_string (o := 3) (u := 9) h 6 (by rw [leavesLoad]; simp) Try.underlying9
  obtain ⟨a4, e4, w4⟩ := leaf_int (o := 4) (u := 3) (k := .i64) h 6 (by rw [leavesLoad]; simp) Try.underlying3
  obtain ⟨a5, e5, w5⟩ := leaf_int (o := 5) (u := 3) (k := .i64) h 6 (by rw [leavesLoad]; simp) Try.underlying3
  obtain ⟨a6, e6, w6⟩ := leaf_int (o := 6) (u := 3) (k := .i64) h 6 (by rw [leavesLoad]; simp) Try.underlying3
  obtain ⟨_, _, _, _, hlen, _⟩ := DataW.trod_struct Try.underlying40 h
  exact ⟨⟨a0, a1, a2, a3, a4, a5, a6⟩, listLoad (hlen.trans cellsLoad) e0 e1 e2 e3 e4 e5 e6, i64_of_wf w0, i64_of_wf w1, i64_of_wf w2, w3, i64_of_wf w4, i64_of_wf w5, i64_of_wf w6⟩
theorem open_load_arg {v : Value} {d : DataW H} {p : List MemPlace} (hv : Value.okWide Try.prog W .any base 40 v) (h : DataW.Trod enc Try.prog W 0 spare held 40 v d p) : ∃ a : Load, v = .agg #[.int .i64 a.b, .int .i64 a.r, .int .i64 a.t, .string a.box, .int .i64 a.we, .int .i64 a.cl, .int .i64 a.po] ∧ a.wf := by
  obtain ⟨cs, rfl, _⟩ := okWide_struct Try.underlying40 hv
  obtain ⟨m, hm⟩ := h
  obtain ⟨a, ha, wa⟩ := open_load m _ _ hm
  refine ⟨a, ?_, wa⟩
  have : cs = #[.int .i64 a.b, .int .i64 a.r, .int .i64 a.t, .string a.box, .int .i64 a.we, .int .i64 a.cl, .int .i64 a.po] := by
    apply Array.toList_inj.1
    simpa [Value.cells, Load.cells] using ha
  rw [this]
end
section
variable {H : Type} {enc : TypeId × Value → H} {W : World} {base : Nat} {spare : Nat → Bool} {held : Bool}
theorem open_loads_cell (m : Nat) (cs : List Value) (x : DataW H × List MemPlace) (h : DataW.trod enc Try.prog W base spare held m 24 cs = some x) :
    ∃ A n c xs, cs = [.slice A n c] ∧ n ≤ c ∧ c ≤ maxLen ∧ SliceOf W 7 Load.cells A n xs ∧ ∀ y ∈ xs, Load.wf y :=
  open_sliceOf Load.cells Load.wf Try.underlying24 cellsLoad (by omega) open_load h
theorem open_loads_arg {v : Value} {d : DataW H} {p : List MemPlace} (hv : Value.okWide Try.prog W .any base 24 v) (h : DataW.Trod enc Try.prog W 0 spare held 24 v d p) :
    ∃ A n c xs, v = .slice A n c ∧ n ≤ c ∧ c ≤ maxLen ∧ SliceOf W 7 Load.cells A n xs ∧ ∀ y ∈ xs, Load.wf y := by
  obtain ⟨a, n, c, rfl⟩ := okWide_slice Try.underlying24 hv
  obtain ⟨m, hm⟩ := h
  obtain ⟨A, l, c', xs, he, hl, hc, hs, hw⟩ := open_loads_cell m _ _ hm
  simp [Value.cells] at he
  obtain ⟨rfl, rfl, rfl⟩ := he
  exact ⟨_, _, _, xs, rfl, hl, hc, hs, hw⟩
end
end Go.Proofs.Yteciegpfiipokaa
