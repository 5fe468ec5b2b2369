/- A calendar as an argument, opened. No condition. -/
import Derived.Test.YtlicmhgpldmliaaDoorCal
namespace Go.Proofs.YtlicmhgpldmliaaDoor.cal
open Go.RowKit Go.Proofs.YtlicmhgpldmliaaDoor.kit
open Go.ChangeShapes Go.WideShapes Go.ChangeAt
set_option linter.unusedVariables false
set_option maxRecDepth 100000
theorem own : ownKnob Tryd.prog.godebug = none := by kernel_rfl
theorem laidOut : laidOutB Tryd.prog = true := by kernel_rfl
theorem leavesC : leavesAt Tryd.prog 6 24 = [(0, 22), (1, 22)] := by kernel_rfl
theorem cellsC : Tryd.prog.cellsOf 24 = 2 := by kernel_rfl
theorem cellsI : Tryd.prog.cellsOf 3 = 1 := by kernel_rfl
theorem two {cs : List Value} {a b : Value} (h : cs.length = 2) (h0 : cs[0]? = some a) (h1 : cs[1]? = some b) : cs = [a, b] := by
  match cs, h with
  | [x, y], _ => simp at h0 h1; rw [h0, h1]
section
variable {H : Type} {enc : TypeId × Value → H} {W : World} {base : Nat} {spare : Nat → Bool} {held : Bool}
theorem open_ints_cell (m : Nat) (cs : List Value) (x : DataW H × List MemPlace) (h : DataW.trod enc Tryd.prog W base spare held m 22 cs = some x) :
    ∃ A n c xs, cs = [.slice A n c] ∧ n ≤ c ∧ c ≤ maxLen ∧ SliceOf W 1 intC A n xs ∧ ∀ y ∈ xs, I64 y :=
  open_sliceOf intC I64 Tryd.underlying22 cellsI (by omega) (fun m cs x h => by obtain ⟨a, rfl, _, wa⟩ := DataW.trod_int Tryd.underlying3 h; exact ⟨a, rfl, i64_of_wf wa⟩) h
theorem open_cal (m : Nat) (cs : List Value) (x : DataW H × List MemPlace) (h : DataW.trod enc Tryd.prog W base spare held m 24 cs = some x) :
    ∃ (c : Cal) (A1 : Option Addr) (n1 c1 : Nat) (A2 : Option Addr) (n2 c2 : Nat), cs = [.slice A1 n1 c1, .slice A2 n2 c2] ∧ SliceOf W 1 intC A1 n1 c.rest ∧ SliceOf W 1 intC A2 n2 c.hol ∧ n1 ≤ maxLen ∧ n2 ≤ maxLen := by
  obtain ⟨m1, y1, e1⟩ := leaf_any (o := 0) (u := 22) h 6 (by rw [leavesC]; simp)
  obtain ⟨m2, y2, e2⟩ := leaf_any (o := 1) (u := 22) h 6 (by rw [leavesC]; simp)
  obtain ⟨A1, n1, c1, xs, h1, l1, k1, s1, _⟩ := open_ints_cell _ _ _ e1
  obtain ⟨A2, n2, c2, ys, h2, l2, k2, s2, _⟩ := open_ints_cell _ _ _ e2
  obtain ⟨_, _, _, _, hlen, _⟩ := DataW.trod_struct Tryd.underlying24 h
  exact ⟨⟨xs, ys⟩, A1, n1, c1, A2, n2, c2, two (hlen.trans cellsC) (one_at h1) (one_at h2), s1, s2, by omega, by omega⟩
theorem open_cal_arg {v : Value} {d : DataW H} {p : List MemPlace} (hv : Value.okWide Tryd.prog W .any base 24 v) (h : DataW.Trod enc Tryd.prog W 0 spare held 24 v d p) :
    ∃ (c : Cal) (A1 : Option Addr) (n1 c1 : Nat) (A2 : Option Addr) (n2 c2 : Nat), v = .agg #[.slice A1 n1 c1, .slice A2 n2 c2] ∧ SliceOf W 1 intC A1 n1 c.rest ∧ SliceOf W 1 intC A2 n2 c.hol ∧ n1 ≤ maxLen ∧ n2 ≤ maxLen := by
  obtain ⟨cs, rfl, _⟩ := okWide_struct Tryd.underlying24 hv
  obtain ⟨m, hm⟩ := h
  obtain ⟨c, A1, n1, c1, A2, n2, c2, hc, r⟩ := open_cal m _ _ hm
  refine ⟨c, A1, n1, c1, A2, n2, c2, ?_, r⟩
  have : cs = #[.slice A1 n1 c1, .slice A2 n2 c2] := by
    apply Array.toList_inj.1
    simpa [Value.cells] using hc
  rw [this]
end
end Go.Proofs.YtlicmhgpldmliaaDoor.cal
