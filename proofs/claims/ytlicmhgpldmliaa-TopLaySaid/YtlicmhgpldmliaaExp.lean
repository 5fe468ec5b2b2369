/- When the lay expires, by the program; whether stretches are long. No condition. -/
import Derived.Test.YtlicmhgpldmliaaRead
namespace Go.Proofs.Ytlicmhgpldmliaa
open Go.RowKit Go.Proofs.Ytlicmhgpldmliaa.kit
set_option linter.unusedVariables false

/-- The hour at which it expires. -/
def expF (F : Int) : Int → Int → List Str → Option Int
  | _, _, [] => none
  | left, used, x :: r =>
    if F ≤ used + (upto left (x.to - x.fr) x.ha * x.ha + 2 * ((x.to - x.fr) - upto left (x.to - x.fr) x.ha)) then some (x.fr + upto left (x.to - x.fr) x.ha)
    else expF F (left - upto left (x.to - x.fr) x.ha * x.ha) (used + (upto left (x.to - x.fr) x.ha * x.ha + 2 * ((x.to - x.fr) - upto left (x.to - x.fr) x.ha))) r
def optV : Option Int → Int × Bool
  | some h => (h, true)
  | none => (0, false)
def expV (l : Lay) (xs : List Str) : Int × Bool := if wr l xs = 0 then optV (expF (2 * l.free) (2 * l.free) 0 xs) else (0, false)

theorem exp_step {k : Nat} {xs : List Str} {F left used f t h : Int} {all : Option Int} (hx : xs[k]? = some ⟨f, t, h⟩) (hs : expF F left used (xs.drop k) = all) :
    (if F ≤ used + (upto left (t - f) h * h + 2 * ((t - f) - upto left (t - f) h)) then some (f + upto left (t - f) h)
    else expF F (left - upto left (t - f) h * h) (used + (upto left (t - f) h * h + 2 * ((t - f) - upto left (t - f) h))) (xs.drop (k + 1))) = all := by
  obtain ⟨hk, hx⟩ := List.getElem?_eq_some_iff.1 hx
  rw [List.drop_eq_getElem_cons hk, hx, expF] at hs
  exact hs

end Go.Proofs.Ytlicmhgpldmliaa
