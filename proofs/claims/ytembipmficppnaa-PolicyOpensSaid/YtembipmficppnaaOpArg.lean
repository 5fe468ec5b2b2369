/- Draws as an argument, opened. No condition. -/
import Derived.Test.YtembipmficppnaaArgs
import Derived.Test.YtembipmficppnaaOpP
namespace Go.Proofs.Ytembipmficppnaa
open Go.RowKit Go.Proofs.Ytembipmficppnaa.kit
open Go.ChangeShapes Go.WideShapes Go.ChangeAt
set_option linter.unusedVariables false
theorem leavesD : leavesAt Try.prog 6 45 = [(0, 3), (1, 2)] := by kernel_rfl
theorem cellsD : Try.prog.cellsOf 45 = 2 := by kernel_rfl
theorem listD {cs : List Value} {c0 c1 : Value} (h : cs.length = 2) (h0 : cs[0]? = some c0) (h1 : cs[1]? = some c1) : cs = [c0, c1] := by
  match cs, h with
  | [x0, x1], _ => simp at h0 h1; rw [h0, h1]
section
variable {H : Type} {enc : TypeId × Value → H} {W : World} {base : Nat} {spare : Nat → Bool} {held : Bool}
theorem open_dr (m : Nat) (cs : List Value) (x : DataW H × List MemPlace) (h : DataW.trod enc Try.prog W base spare held m 45 cs = some x) : ∃ a : Dr, cs = drC a ∧ True := by
  obtain ⟨a0, e0, w0⟩ := leaf_int (o := 0) (u := 3) (k := .i64) h 6 (by rw [leavesD]; simp) Try.underlying3
  obtain ⟨a1, e1, w1⟩ := leaf_int (o := 1) (u := 2) (k := .i64) h 6 (by rw [leavesD]; simp) Try.underlying2
  obtain ⟨_, _, _, _, hlen, _⟩ := DataW.trod_struct Try.underlying45 h
  exact ⟨⟨a0, a1⟩, listD (hlen.trans cellsD) e0 e1, trivial⟩
theorem open_draws_cell (m : Nat) (cs : List Value) (x : DataW H × List MemPlace) (h : DataW.trod enc Try.prog W base spare held m 39 cs = some x) :
    ∃ A n c xs, cs = [.slice A n c] ∧ n ≤ c ∧ c ≤ maxLen ∧ SliceOf W 2 drC A n xs ∧ ∀ y ∈ xs, True :=
  open_sliceOf drC (fun _ => True) Try.underlying39 cellsD (by omega) open_dr h
theorem open_draws_arg {v : Value} {d : DataW H} {p : List MemPlace} (hv : Value.okWide Try.prog W .any base 39 v) (h : DataW.Trod enc Try.prog W 0 spare held 39 v d p) :
    ∃ A n c xs, v = .slice A n c ∧ n ≤ c ∧ c ≤ maxLen ∧ SliceOf W 2 drC A n xs := by
  obtain ⟨a, n, c, rfl⟩ := okWide_slice Try.underlying39 hv
  obtain ⟨m, hm⟩ := h
  obtain ⟨A, l, c', xs, he, hl, hc, hs, _⟩ := open_draws_cell m _ _ hm
  simp [Value.cells] at he
  obtain ⟨rfl, rfl, rfl⟩ := he
  exact ⟨_, _, _, xs, rfl, hl, hc, hs⟩
end
end Go.Proofs.Ytembipmficppnaa
