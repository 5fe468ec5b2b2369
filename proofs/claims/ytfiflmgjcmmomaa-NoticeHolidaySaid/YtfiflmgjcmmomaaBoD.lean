/- Two calendars together, in plain words. No condition. -/
import Derived.Test.YtfiflmgjcmmomaaBoP
namespace Go.Proofs.Ytfiflmgjcmmomaa.cal
open Go.RowKit Go.Proofs.Ytfiflmgjcmmomaa.kit
set_option linter.unusedVariables false

/-- The calendar, or none if it may not be. -/
def goodC (c : Cal) : Cal := if mayB c = true then c else ⟨[], []⟩
def bothV (a b : Cal) : Cal := ⟨mrg (goodC a).rest (goodC b).rest, mrg (goodC a).hol (goodC b).hol⟩
theorem rises_of {top : Int} : ∀ {l : List Int} {p : Int}, l.Pairwise (· < ·) → (∀ x ∈ l, p < x ∧ 0 ≤ x ∧ x ≤ top) → risesF top p l = true
  | [], _, _, _ => rfl
  | x :: l, p, hp, h => by
    have hp' := List.pairwise_cons.1 hp
    have hx := h x (List.mem_cons_self ..)
    rw [risesF, decide_eq_true hx, Bool.true_and]
    exact rises_of hp'.2 fun y hy => ⟨hp'.1 y hy, (h y (List.mem_cons_of_mem _ hy)).2⟩
theorem good_up (c : Cal) : (goodC c).rest.Pairwise (· < ·) ∧ (goodC c).hol.Pairwise (· < ·) ∧ (∀ x ∈ (goodC c).rest, -1 < x ∧ 0 ≤ x ∧ x ≤ 6) ∧ (∀ x ∈ (goodC c).hol, -1 < x ∧ 0 ≤ x ∧ x ≤ 1048576) := by
  unfold goodC
  by_cases h : mayB c = true
  · rw [if_pos h]
    have hm := may_iff h
    exact ⟨rises_sorted hm.2.2.1, rises_sorted hm.2.2.2, fun x hx => rises_in hm.2.2.1 x hx, fun x hx => rises_in hm.2.2.2 x hx⟩
  · rw [if_neg h]
    exact ⟨.nil, .nil, fun x hx => (by cases hx), fun x hx => (by cases hx)⟩
theorem good_rest (c : Cal) (d : Int) : restB c d = (has (goodC c).rest (d % 7) || has (goodC c).hol d) := by
  unfold goodC restB
  by_cases h : mayB c = true
  · rw [if_pos h, h, Bool.true_and]
  · rw [if_neg h, show mayB c = false by simpa using h]
    rfl
theorem has_mrg (a b : List Int) (q : Int) : has (mrg a b) q = (has a q || has b q) := by
  rw [Bool.eq_iff_iff, Bool.or_eq_true, has_iff, has_iff, has_iff, mrg_mem _ _ _ (Nat.le_refl _)]
theorem both_may {a b : Cal} (h1 : (mrg (goodC a).rest (goodC b).rest).length ≤ 4096) (h2 : (mrg (goodC a).hol (goodC b).hol).length ≤ 4096) : mayB (bothV a b) = true := by
  have ga := good_up a
  have gb := good_up b
  unfold mayB bothV
  simp only []
  rw [decide_eq_true h1, decide_eq_true h2, rises_of (mrg_up _ _ _ (Nat.le_refl _) ga.1 gb.1), rises_of (mrg_up _ _ _ (Nat.le_refl _) ga.2.1 gb.2.1)]
  · rfl
  · intro x hx
    rcases (mrg_mem _ _ _ (Nat.le_refl _) x).1 hx with h | h
    · exact ga.2.2.2 x h
    · exact gb.2.2.2 x h
  · intro x hx
    rcases (mrg_mem _ _ _ (Nat.le_refl _) x).1 hx with h | h
    · exact ga.2.2.1 x h
    · exact gb.2.2.1 x h
/-- By both together a day rests just if it rests by one of them. -/
theorem both_rests {a b : Cal} (h1 : (mrg (goodC a).rest (goodC b).rest).length ≤ 4096) (h2 : (mrg (goodC a).hol (goodC b).hol).length ≤ 4096) (d : Int) : restB (bothV a b) d = (restB a d || restB b d) := by
  rw [good_rest a, good_rest b]
  have hm := both_may h1 h2
  unfold restB
  rw [hm, Bool.true_and]
  unfold bothV
  simp only []
  rw [has_mrg, has_mrg]
  cases has (goodC a).rest (d % 7) <;> cases has (goodC b).rest (d % 7) <;> cases has (goodC a).hol d <;> cases has (goodC b).hol d <;> rfl
theorem mrg_comm {a b : List Int} (ha : a.Pairwise (· < ·)) (hb : b.Pairwise (· < ·)) : mrg a b = mrg b a :=
  strict_ext (mrg_up _ _ _ (Nat.le_refl _) ha hb) (mrg_up _ _ _ (Nat.le_refl _) hb ha) fun z => by
    rw [mrg_mem _ _ _ (Nat.le_refl _), mrg_mem _ _ _ (Nat.le_refl _), or_comm]
theorem both_comm (a b : Cal) : bothV a b = bothV b a := by
  have ga := good_up a
  have gb := good_up b
  unfold bothV
  rw [mrg_comm ga.1 gb.1, mrg_comm ga.2.1 gb.2.1]
end Go.Proofs.Ytfiflmgjcmmomaa.cal
