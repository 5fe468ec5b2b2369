/- The arguments, opened to typed values. No condition. -/
import Derived.Test.YtlicmhgpldmliaaArgs0
namespace Go.Proofs.Ytlicmhgpldmliaa
open Go.RowKit Go.Proofs.Ytlicmhgpldmliaa.kit
open Go.ChangeShapes Go.WideShapes Go.ChangeAt
set_option linter.unusedVariables false
set_option maxRecDepth 100000
theorem own : ownKnob Try.prog.godebug = none := by kernel_rfl
section
variable {H : Type} {enc : TypeId × Value → H} {W : World} {base : Nat} {spare : Nat → Bool} {held : Bool}
theorem open_u8ss_cell (m : Nat) (cs : List Value) (x : DataW H × List MemPlace) (h : DataW.trod enc Try.prog W base spare held m 71 cs = some x) :
    ∃ A n c xs, cs = [.slice A n c] ∧ n ≤ c ∧ c ≤ maxLen ∧ SliceOf W 1 u8C A n xs ∧ ∀ y ∈ xs, U8 y :=
  open_sliceOf u8C U8 Try.underlying71 (show Try.prog.cellsOf 5 = 1 by kernel_rfl) (by omega) (fun m cs x h => by obtain ⟨a, rfl, _, wa⟩ := DataW.trod_int Try.underlying5 h; exact ⟨a, rfl, u8_of_wf wa⟩) h
theorem open_u8ss_arg {v : Value} {d : DataW H} {p : List MemPlace} (hv : Value.okWide Try.prog W .any base 71 v) (h : DataW.Trod enc Try.prog W 0 spare held 71 v d p) :
    ∃ A n c xs, v = .slice A n c ∧ n ≤ c ∧ c ≤ maxLen ∧ SliceOf W 1 u8C A n xs ∧ ∀ y ∈ xs, U8 y := by
  obtain ⟨a, n, c, rfl⟩ := okWide_slice Try.underlying71 hv
  obtain ⟨m, hm⟩ := h
  obtain ⟨A, l, c', xs, he, hl, hc, hs, hw⟩ := open_u8ss_cell m _ _ hm
  simp [Value.cells] at he
  obtain ⟨rfl, rfl, rfl⟩ := he
  exact ⟨_, _, _, xs, rfl, hl, hc, hs, hw⟩
end
end Go.Proofs.Ytlicmhgpldmliaa
