/- The arguments, opened to typed values. No condition. -/
import Derived.Test.YteannbphaodadaaArgs0
namespace Go.Proofs.Yteannbphaodadaa
open Go.RowKit Go.Proofs.Yteannbphaodadaa.kit
open Go.ChangeShapes Go.WideShapes Go.ChangeAt
set_option linter.unusedVariables false
set_option maxRecDepth 100000
theorem own : ownKnob Try.prog.godebug = none := by kernel_rfl
theorem leavesDr : leavesAt Try.prog 6 25 = [(0, 9), (1, 9), (2, 9), (3, 9), (4, 9), (5, 2), (6, 3), (7, 3), (8, 3)] := by kernel_rfl
theorem cellsDr : Try.prog.cellsOf 25 = 9 := by kernel_rfl
theorem listDr {cs : List Value} {c0 c1 c2 c3 c4 c5 c6 c7 c8 : Value} (h : cs.length = 9) (h0 : cs[0]? = some c0) (h1 : cs[1]? = some c1) (h2 : cs[2]? = some c2) (h3 : cs[3]? = some c3) (h4 : cs[4]? = some c4) (h5 : cs[5]? = some c5) (h6 : cs[6]? = some c6) (h7 : cs[7]? = some c7) (h8 : cs[8]? = some c8) : cs = [c0, c1, c2, c3, c4, c5, c6, c7, c8] := by
  match cs, h with
  | [x0, x1, x2, x3, x4, x5, x6, x7, x8], _ => simp at h0 h1 h2 h3 h4 h5 h6 h7 h8; rw [h0, h1, h2, h3, h4, h5, h6, h7, h8]
section
variable {H : Type} {enc : TypeId × Value → H} {W : World} {base : Nat} {spare : Nat → Bool} {held : Bool}
theorem open_dr (m : Nat) (cs : List Value) (x : DataW H × List MemPlace) (h : DataW.trod enc Try.prog W base spare held m 25 cs = some x) : ∃ a : Dr, cs = a.cells ∧ a.wf := by
  obtain ⟨a0, e0, w0⟩ := leaf_string (o := 0) (u := 9) h 6 (by rw [leavesDr]; simp) Try.underlying9
  obtain ⟨a1, e1, w1⟩ := leaf_string (o := 1) (u := 9) h 6 (by rw [leavesDr]; simp) Try.underlying9
  obtain ⟨a2, e2, w2⟩ := leaf_string (o := 2) (u := 9) h 6 (by rw [leavesDr]; simp) Try.underlying9
  obtain ⟨a3, e3, w3⟩ := leaf_string (o := 3) (u := 9) h 6 (by rw [leavesDr]; simp) Try.underlying9
  obtain ⟨a4, e4, w4⟩ := leaf_string (o := 4) (u := 9) h 6 (by rw [leavesDr]; simp) Try.underlying9
  obtain ⟨a5, e5, w5⟩ := leaf_int (o := 5) (u := 2) (k := .i64) h 6 (by rw [leavesDr]; simp) Try.underlying2
  obtain ⟨a6, e6, w6⟩ := leaf_int (o := 6) (u := 3) (k := .i64) h 6 (by rw [leavesDr]; simp) Try.underlying3
  obtain ⟨a7, e7, w7⟩ := leaf_int (o := 7) (u := 3) (k := .i64) h 6 (by rw [leavesDr]; simp) Try.underlying3
  obtain ⟨a8, e8, w8⟩ := leaf_int (o := 8) (u := 3) (k := .i64) h 6 (by rw [leavesDr]; simp) Try.underlying3
  obtain ⟨_, _, _, _, hlen, _⟩ := DataW.trod_struct Try.underlying25 h
  exact ⟨⟨a0, a1, a2, a3, a4, a5, a6, a7, a8⟩, listDr (hlen.trans cellsDr) e0 e1 e2 e3 e4 e5 e6 e7 e8, w0, w1, w2, w3, w4, i64_of_wf w5, i64_of_wf w6, i64_of_wf w7, i64_of_wf w8⟩
theorem open_dr_arg {v : Value} {d : DataW H} {p : List MemPlace} (hv : Value.okWide Try.prog W .any base 25 v) (h : DataW.Trod enc Try.prog W 0 spare held 25 v d p) : ∃ a : Dr, v = .agg #[.string a.num, .string a.drw, .string a.dre, .string a.pay, .string a.cur, .int .i64 a.amt, .int .i64 a.kind, .int .i64 a.days, .int .i64 a.fr] ∧ a.wf := by
  obtain ⟨cs, rfl, _⟩ := okWide_struct Try.underlying25 hv
  obtain ⟨m, hm⟩ := h
  obtain ⟨a, ha, wa⟩ := open_dr m _ _ hm
  refine ⟨a, ?_, wa⟩
  have : cs = #[.string a.num, .string a.drw, .string a.dre, .string a.pay, .string a.cur, .int .i64 a.amt, .int .i64 a.kind, .int .i64 a.days, .int .i64 a.fr] := by
    apply Array.toList_inj.1
    simpa [Value.cells, Dr.cells] using ha
  rw [this]
end
theorem leavesDe : leavesAt Try.prog 6 48 = [(0, 3), (1, 9), (2, 9), (3, 3)] := by kernel_rfl
theorem cellsDe : Try.prog.cellsOf 48 = 4 := by kernel_rfl
theorem listDe {cs : List Value} {c0 c1 c2 c3 : Value} (h : cs.length = 4) (h0 : cs[0]? = some c0) (h1 : cs[1]? = some c1) (h2 : cs[2]? = some c2) (h3 : cs[3]? = some c3) : cs = [c0, c1, c2, c3] := by
  match cs, h with
  | [x0, x1, x2, x3], _ => simp at h0 h1 h2 h3; rw [h0, h1, h2, h3]
section
variable {H : Type} {enc : TypeId × Value → H} {W : World} {base : Nat} {spare : Nat → Bool} {held : Bool}
theorem open_de (m : Nat) (cs : List Value) (x : DataW H × List MemPlace) (h : DataW.trod enc Try.prog W base spare held m 48 cs = some x) : ∃ a : De, cs = a.cells ∧ a.wf := by
  obtain ⟨a0, e0, w0⟩ := leaf_int (o := 0) (u := 3) (k := .i64) h 6 (by rw [leavesDe]; simp) Try.underlying3
  obtain ⟨a1, e1, w1⟩ := leaf_string (o := 1) (u := 9) h 6 (by rw [leavesDe]; simp) Try.underlying9
  obtain ⟨a2, e2, w2⟩ := leaf_string (o := 2) (u := 9) h 6 (by rw [leavesDe]; simp) Try.underlying9
  obtain ⟨a3, e3, w3⟩ := leaf_int (o := 3) (u := 3) (k := .i64) h 6 (by rw [leavesDe]; simp) Try.underlying3
  obtain ⟨_, _, _, _, hlen, _⟩ := DataW.trod_struct Try.underlying48 h
  exact ⟨⟨a0, a1, a2, a3⟩, listDe (hlen.trans cellsDe) e0 e1 e2 e3, i64_of_wf w0, w1, w2, i64_of_wf w3⟩
theorem open_de_arg {v : Value} {d : DataW H} {p : List MemPlace} (hv : Value.okWide Try.prog W .any base 48 v) (h : DataW.Trod enc Try.prog W 0 spare held 48 v d p) : ∃ a : De, v = .agg #[.int .i64 a.call, .string a.by_, .string a.to_, .int .i64 a.day] ∧ a.wf := by
  obtain ⟨cs, rfl, _⟩ := okWide_struct Try.underlying48 hv
  obtain ⟨m, hm⟩ := h
  obtain ⟨a, ha, wa⟩ := open_de m _ _ hm
  refine ⟨a, ?_, wa⟩
  have : cs = #[.int .i64 a.call, .string a.by_, .string a.to_, .int .i64 a.day] := by
    apply Array.toList_inj.1
    simpa [Value.cells, De.cells, deC] using ha
  rw [this]
end
section
variable {H : Type} {enc : TypeId × Value → H} {W : World} {base : Nat} {spare : Nat → Bool} {held : Bool}
theorem open_des_cell (m : Nat) (cs : List Value) (x : DataW H × List MemPlace) (h : DataW.trod enc Try.prog W base spare held m 42 cs = some x) :
    ∃ A n c xs, cs = [.slice A n c] ∧ n ≤ c ∧ c ≤ maxLen ∧ SliceOf W 4 De.cells A n xs ∧ ∀ y ∈ xs, De.wf y :=
  open_sliceOf De.cells De.wf Try.underlying42 cellsDe (by omega) open_de h
theorem open_des_arg {v : Value} {d : DataW H} {p : List MemPlace} (hv : Value.okWide Try.prog W .any base 42 v) (h : DataW.Trod enc Try.prog W 0 spare held 42 v d p) :
    ∃ A n c xs, v = .slice A n c ∧ n ≤ c ∧ c ≤ maxLen ∧ SliceOf W 4 De.cells A n xs ∧ ∀ y ∈ xs, De.wf y := by
  obtain ⟨a, n, c, rfl⟩ := okWide_slice Try.underlying42 hv
  obtain ⟨m, hm⟩ := h
  obtain ⟨A, l, c', xs, he, hl, hc, hs, hw⟩ := open_des_cell m _ _ hm
  simp [Value.cells] at he
  obtain ⟨rfl, rfl, rfl⟩ := he
  exact ⟨_, _, _, xs, rfl, hl, hc, hs, hw⟩
end
section
variable {H : Type} {enc : TypeId × Value → H} {W : World} {base : Nat} {spare : Nat → Bool} {held : Bool}
theorem open_txs_cell (m : Nat) (cs : List Value) (x : DataW H × List MemPlace) (h : DataW.trod enc Try.prog W base spare held m 26 cs = some x) :
    ∃ A n c xs, cs = [.slice A n c] ∧ n ≤ c ∧ c ≤ maxLen ∧ SliceOf W 1 (fun x : ByteArray => [.string x]) A n xs ∧ ∀ y ∈ xs, (fun x : ByteArray => x.size ≤ maxLen) y :=
  open_sliceOf (fun x : ByteArray => [.string x]) (fun x : ByteArray => x.size ≤ maxLen) Try.underlying26 (show Try.prog.cellsOf 9 = 1 by kernel_rfl) (by omega) (fun m cs x h => by obtain ⟨a, rfl, _, wa⟩ := DataW.trod_string Try.underlying9 h; exact ⟨a, rfl, wa⟩) h
theorem open_txs_arg {v : Value} {d : DataW H} {p : List MemPlace} (hv : Value.okWide Try.prog W .any base 26 v) (h : DataW.Trod enc Try.prog W 0 spare held 26 v d p) :
    ∃ A n c xs, v = .slice A n c ∧ n ≤ c ∧ c ≤ maxLen ∧ SliceOf W 1 (fun x : ByteArray => [.string x]) A n xs ∧ ∀ y ∈ xs, (fun x : ByteArray => x.size ≤ maxLen) y := by
  obtain ⟨a, n, c, rfl⟩ := okWide_slice Try.underlying26 hv
  obtain ⟨m, hm⟩ := h
  obtain ⟨A, l, c', xs, he, hl, hc, hs, hw⟩ := open_txs_cell m _ _ hm
  simp [Value.cells] at he
  obtain ⟨rfl, rfl, rfl⟩ := he
  exact ⟨_, _, _, xs, rfl, hl, hc, hs, hw⟩
end
end Go.Proofs.Yteannbphaodadaa
