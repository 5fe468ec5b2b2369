/- Faults as an argument, opened. No condition. -/
import Derived.Test.YtfiflmgjcmmomaaFMap
import Derived.Test.YtfiflmgjcmmomaaCalArg
namespace Go.Proofs.Ytfiflmgjcmmomaa
open Go.RowKit Go.Proofs.Ytfiflmgjcmmomaa.kit Go.Proofs.Ytfiflmgjcmmomaa.cal
open Go.ChangeShapes Go.WideShapes Go.ChangeAt
set_option linter.unusedVariables false
theorem leavesF : leavesAt Try.prog 6 36 = [(0, 3), (1, 3), (2, 9), (3, 3)] := by kernel_rfl
theorem list4 {cs : List Value} {c0 c1 c2 c3 : Value} (h : cs.length = 4) (h0 : cs[0]? = some c0) (h1 : cs[1]? = some c1) (h2 : cs[2]? = some c2) (h3 : cs[3]? = some c3) : cs = [c0, c1, c2, c3] := by
  match cs, h with
  | [x0, x1, x2, x3], _ => simp at h0 h1 h2 h3; rw [h0, h1, h2, h3]
section
variable {H : Type} {enc : TypeId × Value → H} {W : World} {base : Nat} {spare : Nat → Bool} {held : Bool}
theorem open_fault (m : Nat) (cs : List Value) (x : DataW H × List MemPlace) (h : DataW.trod enc Try.prog W base spare held m 36 cs = some x) : ∃ a : Fa, cs = faC a ∧ faI a := by
  obtain ⟨a0, e0, w0⟩ := leaf_int (o := 0) (u := 3) (k := .i64) h 6 (by rw [leavesF]; simp) Try.underlying3
  obtain ⟨a1, e1, w1⟩ := leaf_int (o := 1) (u := 3) (k := .i64) h 6 (by rw [leavesF]; simp) Try.underlying3
  obtain ⟨a2, e2, w2⟩ := leaf_string (o := 2) (u := 9) h 6 (by rw [leavesF]; simp) Try.underlying9
  obtain ⟨a3, e3, w3⟩ := leaf_int (o := 3) (u := 3) (k := .i64) h 6 (by rw [leavesF]; simp) Try.underlying3
  obtain ⟨_, _, _, _, hlen, _⟩ := DataW.trod_struct Try.underlying36 h
  exact ⟨(a0, a1, a2, a3), list4 (hlen.trans faCells) e0 e1 e2 e3, i64_of_wf w0, i64_of_wf w1, w2, i64_of_wf w3⟩
theorem open_faults_arg {v : Value} {d : DataW H} {p : List MemPlace} (hv : Value.okWide Try.prog W .any base 32 v) (h : DataW.Trod enc Try.prog W 0 spare held 32 v d p) :
    ∃ A n c xs, v = .slice A n c ∧ n ≤ c ∧ c ≤ maxLen ∧ SliceOf W 4 faC A n xs ∧ ∀ y ∈ xs, faI y := by
  obtain ⟨a, n, c, rfl⟩ := okWide_slice Try.underlying32 hv
  obtain ⟨m, hm⟩ := h
  obtain ⟨A, l, c', xs, he, hl, hc, hs, hw⟩ := open_sliceOf faC faI Try.underlying32 faCells (by omega) open_fault hm
  simp [Value.cells] at he
  obtain ⟨rfl, rfl, rfl⟩ := he
  exact ⟨_, _, _, xs, rfl, hl, hc, hs, hw⟩
end
end Go.Proofs.Ytfiflmgjcmmomaa
