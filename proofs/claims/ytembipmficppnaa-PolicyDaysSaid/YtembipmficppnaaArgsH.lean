/- Hands as an argument, opened. No condition. -/
import Derived.Test.YtembipmficppnaaArgs
import Derived.Test.YtembipmficppnaaCovP
namespace Go.Proofs.Ytembipmficppnaa
open Go.RowKit Go.Proofs.Ytembipmficppnaa.kit
open Go.ChangeShapes Go.WideShapes Go.ChangeAt
set_option linter.unusedVariables false
theorem leavesH : leavesAt Try.prog 6 54 = [(0, 9), (1, 9), (2, 9), (3, 9), (4, 3)] := by kernel_rfl
theorem cellsH : Try.prog.cellsOf 54 = 5 := by kernel_rfl
theorem listH {cs : List Value} {c0 c1 c2 c3 c4 : Value} (h : cs.length = 5) (h0 : cs[0]? = some c0) (h1 : cs[1]? = some c1) (h2 : cs[2]? = some c2) (h3 : cs[3]? = some c3) (h4 : cs[4]? = some c4) : cs = [c0, c1, c2, c3, c4] := by
  match cs, h with
  | [x0, x1, x2, x3, x4], _ => simp at h0 h1 h2 h3 h4; rw [h0, h1, h2, h3, h4]
section
variable {H : Type} {enc : TypeId × Value → H} {W : World} {base : Nat} {spare : Nat → Bool} {held : Bool}
theorem open_hd (m : Nat) (cs : List Value) (x : DataW H × List MemPlace) (h : DataW.trod enc Try.prog W base spare held m 54 cs = some x) : ∃ a : Hd, cs = hdC a ∧ True := by
  obtain ⟨a0, e0, w0⟩ := leaf_string (o := 0) (u := 9) h 6 (by rw [leavesH]; simp) Try.underlying9
  obtain ⟨a1, e1, w1⟩ := leaf_string (o := 1) (u := 9) h 6 (by rw [leavesH]; simp) Try.underlying9
  obtain ⟨a2, e2, w2⟩ := leaf_string (o := 2) (u := 9) h 6 (by rw [leavesH]; simp) Try.underlying9
  obtain ⟨a3, e3, w3⟩ := leaf_string (o := 3) (u := 9) h 6 (by rw [leavesH]; simp) Try.underlying9
  obtain ⟨a4, e4, w4⟩ := leaf_int (o := 4) (u := 3) (k := .i64) h 6 (by rw [leavesH]; simp) Try.underlying3
  obtain ⟨_, _, _, _, hlen, _⟩ := DataW.trod_struct Try.underlying54 h
  exact ⟨⟨a0, a1, a2, a3, a4⟩, listH (hlen.trans cellsH) e0 e1 e2 e3 e4, trivial⟩
theorem open_hands_cell (m : Nat) (cs : List Value) (x : DataW H × List MemPlace) (h : DataW.trod enc Try.prog W base spare held m 35 cs = some x) :
    ∃ A n c xs, cs = [.slice A n c] ∧ n ≤ c ∧ c ≤ maxLen ∧ SliceOf W 5 hdC A n xs ∧ ∀ y ∈ xs, True :=
  open_sliceOf hdC (fun _ => True) Try.underlying35 cellsH (by omega) open_hd h
theorem open_hands_arg {v : Value} {d : DataW H} {p : List MemPlace} (hv : Value.okWide Try.prog W .any base 35 v) (h : DataW.Trod enc Try.prog W 0 spare held 35 v d p) :
    ∃ A n c xs, v = .slice A n c ∧ n ≤ c ∧ c ≤ maxLen ∧ SliceOf W 5 hdC A n xs := by
  obtain ⟨a, n, c, rfl⟩ := okWide_slice Try.underlying35 hv
  obtain ⟨m, hm⟩ := h
  obtain ⟨A, l, c', xs, he, hl, hc, hs, _⟩ := open_hands_cell m _ _ hm
  simp [Value.cells] at he
  obtain ⟨rfl, rfl, rfl⟩ := he
  exact ⟨_, _, _, xs, rfl, hl, hc, hs⟩
end
end Go.Proofs.Ytembipmficppnaa
