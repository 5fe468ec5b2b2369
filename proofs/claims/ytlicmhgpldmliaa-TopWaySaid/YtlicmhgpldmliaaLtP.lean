/- Letters there and back: what the argument reads as. No condition. -/
import Derived.Test.YtlicmhgpldmliaaLtB
namespace Go.Proofs.Ytlicmhgpldmliaa.kit
open Go.RowKit
set_option linter.unusedVariables false
def U8 (n : Int) : Prop := 0 ≤ n ∧ n ≤ 255
theorem u8_of_wf {n : Int} (h : (Lit.int .u8 n).wf = true) : U8 n := by
  simp [Lit.wf, IntKind.min, IntKind.max, IntKind.signed, IntKind.bits] at h
  exact ⟨by omega, by omega⟩
structure Way where
  kd : Int
  nn : Int
def Way.cells (a : Way) : List Value := [.int .u8 a.kd, .int .u8 a.nn]
def Way.wf (a : Way) : Prop := U8 a.kd ∧ U8 a.nn
theorem way_len (a : Way) : a.cells.length = 2 := rfl
theorem way_at {w : World} {A : Option Addr} {n : Nat} {xs : List Way} (h : SliceOf w 2 Way.cells A n xs) {k : Nat} (hk : k < n) : ∃ b off x, A = some ⟨b, off, none⟩ ∧ xs[k]? = some x ∧ ∀ j v, x.cells[j]? = some v → w.cell? ⟨b, off + k * 2 + j, none⟩ = some v := by
  have hl := h.len
  obtain ⟨x, hxk⟩ : ∃ x, xs[k]? = some x := ⟨_, List.getElem?_eq_getElem (by omega)⟩
  obtain ⟨b, off, rfl, hb, hc⟩ := h.at_ (by omega)
  exact ⟨b, off, x, rfl, hxk, fun j v hv => by have := hc k _ hxk j v hv; rwa [← Nat.add_assoc] at this⟩
theorem laidOut : laidOutB Try.prog = true := by kernel_rfl
end Go.Proofs.Ytlicmhgpldmliaa.kit
