/- Plain law: loads mirrored on the ship. No condition. -/
import Derived.Test.YteciegpfiipokaaSafe
namespace Go.Proofs.Yteciegpfiipokaa
open Go.Proofs.Yteciegpfiipokaa.kit
set_option linter.unusedVariables false

def mirX (s : Ship) (ac : Bool) (x : Load) : Load := if ac then ⟨x.b, s.ro - 1 - x.r, x.t, x.box, x.we, x.cl, x.po⟩ else ⟨s.ba - 1 - x.b, x.r, x.t, x.box, x.we, x.cl, x.po⟩
def slX (s : Ship) (ac : Bool) (p : Sl) : Sl := if ac then (p.1, s.ro - 1 - p.2.1, p.2.2) else (s.ba - 1 - p.1, p.2.1, p.2.2)
theorem sl_mir (s : Ship) (ac : Bool) (x : Load) : (mirX s ac x).sl = slX s ac x.sl := by cases ac <;> rfl
theorem slX_inj {s : Ship} {ac : Bool} {p q : Sl} (h : slX s ac p = slX s ac q) : p = q := by
  obtain ⟨a, b, c⟩ := p
  obtain ⟨a', b', c'⟩ := q
  cases ac <;> simp [slX] at h ⊢ <;> omega
theorem good_iff {s : Ship} {x : Load} : goodB s x = true ↔ 0 ≤ x.b ∧ x.b < s.ba ∧ 0 ≤ x.r ∧ x.r < s.ro ∧ 0 ≤ x.t ∧ x.t < s.ti ∧ 1 ≤ x.we ∧ x.we ≤ 1048576 := by
  unfold goodB onS
  simp only [Bool.and_eq_true, decide_eq_true_eq]
  omega
theorem nodup_map_sl {φ : Load → Load} {ψ : Sl → Sl} (h1 : ∀ x, (φ x).sl = ψ x.sl) (h2 : ∀ p q, ψ p = ψ q → p = q) {xs : List Load} (h : (xs.map Load.sl).Nodup) : ((xs.map φ).map Load.sl).Nodup := by
  unfold List.Nodup at *
  rw [List.pairwise_map] at h ⊢
  rw [List.pairwise_map]
  refine h.imp ?_
  intro a b hab he
  rw [h1, h1] at he
  exact hab (h2 _ _ he)
theorem fit_mir {s : Ship} {xs : List Load} (h : fitB s xs = true) (ac : Bool) : fitB s (xs.map (mirX s ac)) = true := by
  rw [fit_iff] at h ⊢
  obtain ⟨h1, h2, h3, h4⟩ := h
  refine ⟨h1, by rw [List.length_map]; exact h2, ?_, nodup_map_sl (sl_mir s ac) (fun p q => slX_inj) h4⟩
  intro x hx
  obtain ⟨y, hy, rfl⟩ := List.mem_map.1 hx
  have := good_iff.1 (h3 y hy)
  rw [good_iff]
  cases ac <;> simp only [mirX, if_true, Bool.false_eq_true, if_false] <;> omega
theorem sumBy_map (f : Load → Int) (φ : Load → Load) (xs : List Load) : sumBy f (xs.map φ) = sumBy (fun x => f (φ x)) xs := by simp [sumBy, Function.comp_def]
theorem sumBy_congr {f g : Load → Int} (h : ∀ x, f x = g x) (xs : List Load) : sumBy f xs = sumBy g xs := by rw [funext h]
theorem sumBy_neg (f : Load → Int) : ∀ (xs : List Load), sumBy (fun x => -f x) xs = -sumBy f xs
  | [] => rfl
  | x :: xs => by rw [sumBy_cons, sumBy_cons, sumBy_neg f xs]; omega
theorem mul_neg_eq {w q q' : Int} (h : q' = -q) : w * q' = -(w * q) := by rw [h, Int.mul_neg]
theorem mir_sums (s : Ship) (ac : Bool) (xs : List Load) : sumBy (fL s) (xs.map (mirX s ac)) = (if ac then sumBy (fL s) xs else -sumBy (fL s) xs) ∧ sumBy (fC s) (xs.map (mirX s ac)) = (if ac then -sumBy (fC s) xs else sumBy (fC s) xs) ∧
    sumBy fU (xs.map (mirX s ac)) = sumBy fU xs ∧ sumBy Load.we (xs.map (mirX s ac)) = sumBy Load.we xs := by
  simp only [sumBy_map]
  cases ac
  · refine ⟨?_, rfl, rfl, rfl⟩
    rw [← sumBy_neg]
    exact sumBy_congr (fun x => mul_neg_eq (by simp only [mirX, Bool.false_eq_true, if_false]; omega)) xs
  · refine ⟨rfl, ?_, rfl, rfl⟩
    rw [← sumBy_neg]
    exact sumBy_congr (fun x => mul_neg_eq (by simp only [mirX, if_true]; omega)) xs
theorem abs_neg (n : Int) : absF (-n) = absF n := by unfold absF; split <;> split <;> omega
theorem mir_margs (s : Ship) (ac : Bool) (xs : List Load) : margF s (xs.map (mirX s ac)) = margF s xs := by
  obtain ⟨h1, h2, h3, h4⟩ := mir_sums s ac xs
  unfold margF margOf
  rw [h1, h2, h3, h4]
  cases ac <;> simp [abs_neg]
end Go.Proofs.Yteciegpfiipokaa
