/- A policy as an argument, opened. No condition. -/
import Derived.Test.YtldjohmdlggmeaaDoorPol
namespace Go.Proofs.YtldjohmdlggmeaaDoor
open Go.RowKit Go.Proofs.YtldjohmdlggmeaaDoor.kit
open Go.ChangeShapes Go.WideShapes Go.ChangeAt
set_option linter.unusedVariables false
theorem own : ownKnob Tryd.prog.godebug = none := by kernel_rfl
theorem laidOut : laidOutB Tryd.prog = true := by kernel_rfl
theorem leavesP : leavesAt Tryd.prog 6 24 = [(0, 9), (1, 9), (2, 9), (3, 2), (4, 2), (5, 22), (6, 3), (7, 3), (8, 3)] := by kernel_rfl
theorem cellsP : Tryd.prog.cellsOf 24 = 9 := by kernel_rfl
theorem cellsI : Tryd.prog.cellsOf 3 = 1 := by kernel_rfl
theorem listP {cs : List Value} {c0 c1 c2 c3 c4 c5 c6 c7 c8 : Value} (h : cs.length = 9) (h0 : cs[0]? = some c0) (h1 : cs[1]? = some c1) (h2 : cs[2]? = some c2) (h3 : cs[3]? = some c3) (h4 : cs[4]? = some c4) (h5 : cs[5]? = some c5) (h6 : cs[6]? = some c6) (h7 : cs[7]? = some c7) (h8 : cs[8]? = some c8) : cs = [c0, c1, c2, c3, c4, c5, c6, c7, c8] := by
  match cs, h with
  | [x0, x1, x2, x3, x4, x5, x6, x7, x8], _ => simp at h0 h1 h2 h3 h4 h5 h6 h7 h8; rw [h0, h1, h2, h3, h4, h5, h6, h7, h8]
section
variable {H : Type} {enc : TypeId × Value → H} {W : World} {base : Nat} {spare : Nat → Bool} {held : Bool}
theorem open_ints_cell (m : Nat) (cs : List Value) (x : DataW H × List MemPlace) (h : DataW.trod enc Tryd.prog W base spare held m 22 cs = some x) :
    ∃ A n c xs, cs = [.slice A n c] ∧ n ≤ c ∧ c ≤ maxLen ∧ SliceOf W 1 intC A n xs ∧ ∀ y ∈ xs, I64 y :=
  open_sliceOf intC I64 Tryd.underlying22 cellsI (by omega) (fun m cs x h => by obtain ⟨a, rfl, _, wa⟩ := DataW.trod_int Tryd.underlying3 h; exact ⟨a, rfl, i64_of_wf wa⟩) h
def polI (p : Pol) : Prop := I64 p.sum ∧ I64 p.own ∧ I64 p.first ∧ I64 p.last ∧ I64 p.share
theorem open_pol (m : Nat) (cs : List Value) (x : DataW H × List MemPlace) (h : DataW.trod enc Tryd.prog W base spare held m 24 cs = some x) : ∃ p : Pol, cs = (#[.string p.ins, .string p.fr, .string p.dst, .int .i64 p.sum, .int .i64 p.own, .slice p.cA p.cn p.cc, .int .i64 p.first, .int .i64 p.last, .int .i64 p.share] : Array Value).toList ∧ p.ok W ∧ polI p := by
  obtain ⟨a0, e0, w0⟩ := leaf_string (o := 0) (u := 9) h 6 (by rw [leavesP]; simp) Tryd.underlying9
  obtain ⟨a1, e1, w1⟩ := leaf_string (o := 1) (u := 9) h 6 (by rw [leavesP]; simp) Tryd.underlying9
  obtain ⟨a2, e2, w2⟩ := leaf_string (o := 2) (u := 9) h 6 (by rw [leavesP]; simp) Tryd.underlying9
  obtain ⟨a3, e3, w3⟩ := leaf_int (o := 3) (u := 2) (k := .i64) h 6 (by rw [leavesP]; simp) Tryd.underlying2
  obtain ⟨a4, e4, w4⟩ := leaf_int (o := 4) (u := 2) (k := .i64) h 6 (by rw [leavesP]; simp) Tryd.underlying2
  obtain ⟨mm, y, en⟩ := leaf_any (o := 5) (u := 22) h 6 (by rw [leavesP]; simp)
  obtain ⟨A, n, c, xs, h5, l5, k5, s5, _⟩ := open_ints_cell _ _ _ en
  obtain ⟨a6, e6, w6⟩ := leaf_int (o := 6) (u := 3) (k := .i64) h 6 (by rw [leavesP]; simp) Tryd.underlying3
  obtain ⟨a7, e7, w7⟩ := leaf_int (o := 7) (u := 3) (k := .i64) h 6 (by rw [leavesP]; simp) Tryd.underlying3
  obtain ⟨a8, e8, w8⟩ := leaf_int (o := 8) (u := 3) (k := .i64) h 6 (by rw [leavesP]; simp) Tryd.underlying3
  obtain ⟨_, _, _, _, hlen, _⟩ := DataW.trod_struct Tryd.underlying24 h
  exact ⟨⟨a0, a1, a2, a3, a4, A, n, c, a6, a7, a8, xs⟩, listP (hlen.trans cellsP) e0 e1 e2 e3 e4 (one_at h5) e6 e7 e8, ⟨w0, w1, w2, by show n ≤ maxLen; omega, l5, s5⟩, i64_of_wf w3, i64_of_wf w4, i64_of_wf w6, i64_of_wf w7, i64_of_wf w8⟩
theorem open_pol_arg {v : Value} {d : DataW H} {q : List MemPlace} (hv : Value.okWide Tryd.prog W .any base 24 v) (h : DataW.Trod enc Tryd.prog W 0 spare held 24 v d q) : ∃ p : Pol, v = .agg #[.string p.ins, .string p.fr, .string p.dst, .int .i64 p.sum, .int .i64 p.own, .slice p.cA p.cn p.cc, .int .i64 p.first, .int .i64 p.last, .int .i64 p.share] ∧ p.ok W ∧ polI p := by
  obtain ⟨cs, rfl, _⟩ := okWide_struct Tryd.underlying24 hv
  obtain ⟨m, hm⟩ := h
  obtain ⟨p, hp, wp, ip⟩ := open_pol m _ _ hm
  refine ⟨p, ?_, wp, ip⟩
  have : cs = #[.string p.ins, .string p.fr, .string p.dst, .int .i64 p.sum, .int .i64 p.own, .slice p.cA p.cn p.cc, .int .i64 p.first, .int .i64 p.last, .int .i64 p.share] := by
    apply Array.toList_inj.1
    simpa [Value.cells] using hp
  rw [this]
end
end Go.Proofs.YtldjohmdlggmeaaDoor
