/- Plain law: which loads fit, and their moments. No condition. -/
import Derived.Test.YteciegpfiipokaaOn
import Derived.Test.YteciegpfiipokaaMap
namespace Go.Proofs.Yteciegpfiipokaa
open Go.Proofs.Yteciegpfiipokaa.kit
set_option linter.unusedVariables false

def Load.sl (x : Load) : Sl := (x.b, x.r, x.t)
def okB (s : Ship) (seen : List Sl) (x : Load) : Bool := onS s.ba s.ro s.ti x.b x.r x.t && decide (1 ≤ x.we) && decide (x.we ≤ 1048576) && !seen.contains x.sl
def pre (s : Ship) : List Sl → List Load → Bool
  | _, [] => true
  | seen, x :: xs => okB s seen x && pre s (x.sl :: seen) xs
def fitB (s : Ship) (xs : List Load) : Bool := s.may && decide (xs.length ≤ 4096) && pre s [] xs
abbrev Mom := Int × Int × Int × Int
def addM (s : Ship) (m : Mom) (x : Load) : Mom := (m.1 + x.we * (2 * x.b - s.ba + 1), m.2.1 + x.we * (2 * x.r - s.ro + 1), m.2.2.1 + x.we * x.t, m.2.2.2 + x.we)
def momF (s : Ship) (xs : List Load) : Mom := xs.foldl (addM s) (0, 0, 0, 0)
def sumV (s : Ship) (xs : List Load) : Mom × Bool := if fitB s xs then (momF s xs, true) else ((0, 0, 0, 0), false)

theorem dims_of {s : Ship} (h : s.may = true) : 1 ≤ s.ba ∧ s.ba ≤ 32 ∧ 1 ≤ s.ro ∧ s.ro ≤ 32 ∧ 1 ≤ s.ti ∧ s.ti ≤ 32 := by
  simp [Ship.may, dims, inr] at h
  omega
theorem bounds_of {s : Ship} (h : s.may = true) : 0 ≤ s.tr ∧ s.tr ≤ 1048576 ∧ 0 ≤ s.li ∧ s.li ≤ 1048576 ∧ 0 ≤ s.up ∧ s.up ≤ 1048576 ∧ 0 ≤ s.mo ∧ s.mo ≤ 1048576 := by
  simp [Ship.may, bounds, inr] at h
  omega
theorem on_of {ba ro ti b r t : Int} (h : onS ba ro ti b r t = true) : 0 ≤ b ∧ b < ba ∧ 0 ≤ r ∧ r < ro ∧ 0 ≤ t ∧ t < ti := of_decide_eq_true h
theorem mul_bd {q w K : Int} (h1 : 1 ≤ w) (h2 : w ≤ 1048576) (h3 : -K ≤ q) (h4 : q ≤ K) (hK : 0 ≤ K) : -(1048576 * K) ≤ w * q ∧ w * q ≤ 1048576 * K := by
  have a1 : w * q ≤ w * K := Int.mul_le_mul_of_nonneg_left h4 (by omega)
  have a2 : w * K ≤ 1048576 * K := Int.mul_le_mul_of_nonneg_right h2 hK
  have a3 : w * (-K) ≤ w * q := Int.mul_le_mul_of_nonneg_left h3 (by omega)
  have a4 : w * (-K) = -(w * K) := Int.mul_neg _ _
  omega
theorem mul_bd0 {q w K : Int} (h1 : 1 ≤ w) (h2 : w ≤ 1048576) (h3 : 0 ≤ q) (h4 : q ≤ K) (hK : 0 ≤ K) : 0 ≤ w * q ∧ w * q ≤ 1048576 * K :=
  ⟨Int.mul_nonneg (by omega) h3, (mul_bd h1 h2 (by omega) h4 hK).2⟩

theorem pre_step {s : Ship} {seen : List Sl} {k : Nat} {xs : List Load} {x : Load} (hx : xs[k]? = some x) : pre s seen (xs.drop k) = (okB s seen x && pre s (x.sl :: seen) (xs.drop (k + 1))) := by
  obtain ⟨hk, hx⟩ := List.getElem?_eq_some_iff.1 hx
  rw [List.drop_eq_getElem_cons hk, hx, pre]
theorem mom_step {s : Ship} {m : Mom} {k : Nat} {xs : List Load} {x : Load} (hx : xs[k]? = some x) : (xs.drop k).foldl (addM s) m = (xs.drop (k + 1)).foldl (addM s) (addM s m x) := by
  obtain ⟨hk, hx⟩ := List.getElem?_eq_some_iff.1 hx
  rw [List.drop_eq_getElem_cons hk, hx, List.foldl_cons]
end Go.Proofs.Yteciegpfiipokaa
