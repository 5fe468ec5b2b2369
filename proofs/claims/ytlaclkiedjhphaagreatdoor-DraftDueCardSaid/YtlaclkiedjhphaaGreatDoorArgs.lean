/- The arguments, opened to typed values. No condition. -/
import Derived.Test.YtlaclkiedjhphaaGreatDoorArgs0
namespace Go.Proofs.YtlaclkiedjhphaaGreatDoor
open Go.RowKit Go.Proofs.YtlaclkiedjhphaaGreatDoor.kit
open Go.ChangeShapes Go.WideShapes Go.ChangeAt
set_option linter.unusedVariables false
set_option maxRecDepth 100000
theorem own : ownKnob Tryz.prog.godebug = none := by kernel_rfl
theorem leavesDr : leavesAt Tryz.prog 6 28 = [(0, 9), (1, 9), (2, 9), (3, 9), (4, 9), (5, 2), (6, 3), (7, 3), (8, 3)] := by kernel_rfl
theorem cellsDr : Tryz.prog.cellsOf 28 = 9 := by kernel_rfl
theorem listDr {cs : List Value} {c0 c1 c2 c3 c4 c5 c6 c7 c8 : Value} (h : cs.length = 9) (h0 : cs[0]? = some c0) (h1 : cs[1]? = some c1) (h2 : cs[2]? = some c2) (h3 : cs[3]? = some c3) (h4 : cs[4]? = some c4) (h5 : cs[5]? = some c5) (h6 : cs[6]? = some c6) (h7 : cs[7]? = some c7) (h8 : cs[8]? = some c8) : cs = [c0, c1, c2, c3, c4, c5, c6, c7, c8] := by
  match cs, h with
  | [x0, x1, x2, x3, x4, x5, x6, x7, x8], _ => simp at h0 h1 h2 h3 h4 h5 h6 h7 h8; rw [h0, h1, h2, h3, h4, h5, h6, h7, h8]
section
variable {H : Type} {enc : TypeId × Value → H} {W : World} {base : Nat} {spare : Nat → Bool} {held : Bool}
theorem open_dr (m : Nat) (cs : List Value) (x : DataW H × List MemPlace) (h : DataW.trod enc Tryz.prog W base spare held m 28 cs = some x) : ∃ a : Dr, cs = a.cells ∧ a.wf := by
  obtain ⟨a0, e0, w0⟩ := leaf_string (o := 0) (u := 9) h 6 (by rw [leavesDr]; simp) Tryz.underlying9
  obtain ⟨a1, e1, w1⟩ := leaf_string (o := 1) (u := 9) h 6 (by rw [leavesDr]; simp) Tryz.underlying9
  obtain ⟨a2, e2, w2⟩ := leaf_string (o := 2) (u := 9) h 6 (by rw [leavesDr]; simp) Tryz.underlying9
  obtain ⟨a3, e3, w3⟩ := leaf_string (o := 3) (u := 9) h 6 (by rw [leavesDr]; simp) Tryz.underlying9
  obtain ⟨a4, e4, w4⟩ := leaf_string (o := 4) (u := 9) h 6 (by rw [leavesDr]; simp) Tryz.underlying9
  obtain ⟨a5, e5, w5⟩ := leaf_int (o := 5) (u := 2) (k := .i64) h 6 (by rw [leavesDr]; simp) Tryz.underlying2
  obtain ⟨a6, e6, w6⟩ := leaf_int (o := 6) (u := 3) (k := .i64) h 6 (by rw [leavesDr]; simp) Tryz.underlying3
  obtain ⟨a7, e7, w7⟩ := leaf_int (o := 7) (u := 3) (k := .i64) h 6 (by rw [leavesDr]; simp) Tryz.underlying3
  obtain ⟨a8, e8, w8⟩ := leaf_int (o := 8) (u := 3) (k := .i64) h 6 (by rw [leavesDr]; simp) Tryz.underlying3
  obtain ⟨_, _, _, _, hlen, _⟩ := DataW.trod_struct Tryz.underlying28 h
  exact ⟨⟨a0, a1, a2, a3, a4, a5, a6, a7, a8⟩, listDr (hlen.trans cellsDr) e0 e1 e2 e3 e4 e5 e6 e7 e8, w0, w1, w2, w3, w4, i64_of_wf w5, i64_of_wf w6, i64_of_wf w7, i64_of_wf w8⟩
theorem open_dr_arg {v : Value} {d : DataW H} {p : List MemPlace} (hv : Value.okWide Tryz.prog W .any base 28 v) (h : DataW.Trod enc Tryz.prog W 0 spare held 28 v d p) : ∃ a : Dr, v = .agg #[.string a.num, .string a.drw, .string a.dre, .string a.pay, .string a.cur, .int .i64 a.amt, .int .i64 a.kind, .int .i64 a.days, .int .i64 a.fr] ∧ a.wf := by
  obtain ⟨cs, rfl, _⟩ := okWide_struct Tryz.underlying28 hv
  obtain ⟨m, hm⟩ := h
  obtain ⟨a, ha, wa⟩ := open_dr m _ _ hm
  refine ⟨a, ?_, wa⟩
  have : cs = #[.string a.num, .string a.drw, .string a.dre, .string a.pay, .string a.cur, .int .i64 a.amt, .int .i64 a.kind, .int .i64 a.days, .int .i64 a.fr] := by
    apply Array.toList_inj.1
    simpa [Value.cells, Dr.cells] using ha
  rw [this]
end
end Go.Proofs.YtlaclkiedjhphaaGreatDoor
