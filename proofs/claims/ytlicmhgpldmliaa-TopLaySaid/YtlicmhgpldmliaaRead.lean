/- The reference's count hour by hour, and whether stretches are long. No condition. -/
import Derived.Test.YtlicmhgpldmliaaMain
namespace Go.Proofs.Ytlicmhgpldmliaa
open Go.RowKit Go.Proofs.Ytlicmhgpldmliaa.kit
set_option linter.unusedVariables false

theorem elem_at {w wr : World} {b off n k : Nat} {xs : List Str} (hl : xs.length = n) (hb : b < w.heap.size)
    (hc : ∀ i x, xs[i]? = some x → ∀ j v, x.cells[j]? = some v → w.cell? ⟨b, off + (i * 3 + j), none⟩ = some v) (hbel : Below w.heap.size w wr) (hlt : k < n) :
    ∃ f t h, xs[k]? = some ⟨f, t, h⟩ ∧ b < wr.heap.size ∧ wr.cell? ⟨b, off + k * 3, none⟩ = some (.int .i64 f) ∧ wr.cell? ⟨b, off + k * 3 + 1, none⟩ = some (.int .i64 t) ∧ wr.cell? ⟨b, off + k * 3 + 2, none⟩ = some (.int .i64 h) := by
  obtain ⟨⟨f, t, h⟩, hx⟩ : ∃ x, xs[k]? = some x := ⟨_, List.getElem?_eq_getElem (by omega)⟩
  exact ⟨f, t, h, hx, Nat.lt_of_lt_of_le hb hbel.size, (hbel.cell hb).trans (hc k _ hx 0 _ rfl), (hbel.cell hb).trans (hc k _ hx 1 _ rfl), (hbel.cell hb).trans (hc k _ hx 2 _ rfl)⟩

theorem rused_step {k : Nat} {xs : List Str} {F at_ N all f t h : Int} (hx : xs[k]? = some ⟨f, t, h⟩) (hs : rused F at_ (xs.drop k) N = all) :
    rused F at_ (xs.drop (k + 1)) (hours F h ((min t at_ - f).toNat) N) = all := by
  obtain ⟨hk, hx⟩ := List.getElem?_eq_some_iff.1 hx
  rw [List.drop_eq_getElem_cons hk, hx, rused] at hs
  exact hs
theorem hours_step {F ha N all : Int} {c : Nat} (hc : 0 < c) (h : hours F ha c N = all) : hours F ha (c - 1) (if F ≤ N then N + 2 else N + ha) = all := by
  obtain ⟨d, rfl⟩ : ∃ d, c = d + 1 := ⟨c - 1, by omega⟩
  exact h

end Go.Proofs.Ytlicmhgpldmliaa
