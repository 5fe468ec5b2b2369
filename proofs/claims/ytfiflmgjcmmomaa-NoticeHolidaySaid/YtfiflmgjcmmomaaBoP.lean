/- Two rising lists together, each number once, in plain words. No condition. -/
import Derived.Test.YtfiflmgjcmmomaaCalI
import Derived.Lib.SlicesCompact
namespace Go.Proofs.Ytfiflmgjcmmomaa.cal
open Go.RowKit Go.Proofs.Ytfiflmgjcmmomaa.kit
set_option linter.unusedVariables false

/-- Rising numbers of both, each once. -/
def mrg : List Int → List Int → List Int
  | [], b => b
  | x :: a, [] => x :: a
  | x :: a, y :: b => if x ≤ y then (if x = y then x :: mrg a b else x :: mrg a (y :: b)) else y :: mrg (x :: a) b
  termination_by a b => a.length + b.length
theorem mrg_nil (b : List Int) : mrg [] b = b := by rw [mrg]
theorem mrg_nil2 (a : List Int) : mrg a [] = a := by cases a <;> rw [mrg]
theorem mrg_lt {x y : Int} {a b : List Int} (h : x < y) : mrg (x :: a) (y :: b) = x :: mrg a (y :: b) := by rw [mrg, if_pos (by omega), if_neg (by omega)]
theorem mrg_eq {x : Int} {a b : List Int} : mrg (x :: a) (x :: b) = x :: mrg a b := by rw [mrg, if_pos (Int.le_refl _), if_pos rfl]
theorem mrg_gt {x y : Int} {a b : List Int} (h : y < x) : mrg (x :: a) (y :: b) = y :: mrg (x :: a) b := by rw [mrg, if_neg (by omega)]
theorem mrg_mem : ∀ (n : Nat) (a b : List Int), a.length + b.length ≤ n → ∀ z, z ∈ mrg a b ↔ z ∈ a ∨ z ∈ b
  | n, [], b, _, z => by rw [mrg_nil]; simp
  | n, x :: a, [], _, z => by rw [mrg_nil2]; simp
  | 0, x :: a, y :: b, h, z => by simp at h
  | n + 1, x :: a, y :: b, h, z => by
    simp only [List.length_cons] at h
    rcases Int.lt_trichotomy x y with h1 | h1 | h1
    · rw [mrg_lt h1, List.mem_cons, mrg_mem n a (y :: b) (by simp only [List.length_cons]; omega), List.mem_cons, List.mem_cons, or_assoc]
    · subst h1
      rw [mrg_eq, List.mem_cons, mrg_mem n a b (by omega), List.mem_cons, List.mem_cons]
      constructor
      · rintro (h | h | h)
        · exact .inl (.inl h)
        · exact .inl (.inr h)
        · exact .inr (.inr h)
      · rintro ((h | h) | (h | h))
        · exact .inl h
        · exact .inr (.inl h)
        · exact .inl h
        · exact .inr (.inr h)
    · rw [mrg_gt h1, List.mem_cons, mrg_mem n (x :: a) b (by simp only [List.length_cons]; omega), List.mem_cons, List.mem_cons]
      constructor
      · rintro (h | (h | h) | h)
        · exact .inr (.inl h)
        · exact .inl (.inl h)
        · exact .inl (.inr h)
        · exact .inr (.inr h)
      · rintro ((h | h) | (h | h))
        · exact .inr (.inl (.inl h))
        · exact .inr (.inl (.inr h))
        · exact .inl h
        · exact .inr (.inr h)
theorem mrg_up : ∀ (n : Nat) (a b : List Int), a.length + b.length ≤ n → a.Pairwise (· < ·) → b.Pairwise (· < ·) → (mrg a b).Pairwise (· < ·)
  | n, [], b, _, _, hb => by rw [mrg_nil]; exact hb
  | n, x :: a, [], _, ha, _ => by rw [mrg_nil2]; exact ha
  | 0, x :: a, y :: b, h, _, _ => by simp at h
  | n + 1, x :: a, y :: b, h, ha, hb => by
    simp only [List.length_cons] at h
    have ha' := List.pairwise_cons.1 ha
    have hb' := List.pairwise_cons.1 hb
    rcases Int.lt_trichotomy x y with h1 | h1 | h1
    · rw [mrg_lt h1]
      refine List.pairwise_cons.2 ⟨fun z hz => ?_, mrg_up n a (y :: b) (by simp only [List.length_cons]; omega) ha'.2 hb⟩
      rcases (mrg_mem _ _ _ (Nat.le_refl _) z).1 hz with h2 | h2
      · exact ha'.1 z h2
      · rcases List.mem_cons.1 h2 with h3 | h3
        · omega
        · have := hb'.1 z h3; omega
    · subst h1
      rw [mrg_eq]
      refine List.pairwise_cons.2 ⟨fun z hz => ?_, mrg_up n a b (by omega) ha'.2 hb'.2⟩
      rcases (mrg_mem _ _ _ (Nat.le_refl _) z).1 hz with h2 | h2
      · exact ha'.1 z h2
      · exact hb'.1 z h2
    · rw [mrg_gt h1]
      refine List.pairwise_cons.2 ⟨fun z hz => ?_, mrg_up n (x :: a) b (by simp only [List.length_cons]; omega) ha hb'.2⟩
      rcases (mrg_mem _ _ _ (Nat.le_refl _) z).1 hz with h2 | h2
      · rcases List.mem_cons.1 h2 with h3 | h3
        · omega
        · have := ha'.1 z h3; omega
      · exact hb'.1 z h2
theorem strict_ext : ∀ {a b : List Int}, a.Pairwise (· < ·) → b.Pairwise (· < ·) → (∀ z, z ∈ a ↔ z ∈ b) → a = b
  | [], [], _, _, _ => rfl
  | [], y :: b, _, _, h => by have := (h y).2 (List.mem_cons_self ..); cases this
  | x :: a, [], _, _, h => by have := (h x).1 (List.mem_cons_self ..); cases this
  | x :: a, y :: b, ha, hb, h => by
    have ha' := List.pairwise_cons.1 ha
    have hb' := List.pairwise_cons.1 hb
    have hxy : x = y := by
      rcases List.mem_cons.1 ((h x).1 (List.mem_cons_self ..)) with h1 | h1
      · exact h1
      · have h2 := hb'.1 x h1
        rcases List.mem_cons.1 ((h y).2 (List.mem_cons_self ..)) with h3 | h3
        · exact h3.symm
        · have := ha'.1 y h3; omega
    subst hxy
    congr 1
    refine strict_ext ha'.2 hb'.2 fun z => ?_
    constructor
    · intro hz
      have h1 := ha'.1 z hz
      rcases List.mem_cons.1 ((h z).1 (List.mem_cons_of_mem _ hz)) with h2 | h2
      · omega
      · exact h2
    · intro hz
      have h1 := hb'.1 z hz
      rcases List.mem_cons.1 ((h z).2 (List.mem_cons_of_mem _ hz)) with h2 | h2
      · omega
      · exact h2
section
variable {zs : List Int} (hs : zs.Pairwise (· ≤ ·))
include hs
theorem at_le {i j : Nat} (hij : i ≤ j) (hj : j < zs.length) : zs[i]'(by omega) ≤ zs[j] := by
  rcases Nat.lt_or_ge i j with h | h
  · exact List.pairwise_iff_getElem.1 hs i j (by omega) hj h
  · have : i = j := by omega
    subst this; exact Int.le_refl _
theorem compact_up : (Lib.compact zs).Pairwise (· < ·) := by
  unfold Lib.compact Lib.compactUpTo
  rw [List.pairwise_map]
  have h1 : ((List.range zs.length).filter (Lib.keeps zs.toArray)).Pairwise (· < ·) := List.Pairwise.filter _ (List.pairwise_lt_range)
  refine List.Pairwise.imp_of_mem ?_ h1
  intro i j hi hj hij
  have hjn : j < zs.length := by simpa using (List.mem_filter.1 hj).1
  have hk := (List.mem_filter.1 hj).2
  have hin : i < zs.length := by omega
  have hne : zs[j] ≠ zs[j - 1] := by
    intro he
    rw [Lib.keeps_neg (by omega)] at hk
    · cases hk
    · rw [getElem!_pos _ _ (by simpa using hjn), getElem!_pos _ _ (by simp; omega)]
      simpa using he
  have h2 := at_le hs (i := i) (j := j - 1) (by omega) (by omega)
  have h3 := at_le hs (i := j - 1) (j := j) (by omega) hjn
  rw [getElem!_pos _ _ (by simpa using hin), getElem!_pos _ _ (by simpa using hjn)]
  simp only [List.getElem_toArray]
  omega
omit hs in
theorem first_at (x : Int) : ∀ j, (hj : j < zs.length) → zs[j] = x → ∃ i, ∃ hi : i < zs.length, zs[i] = x ∧ Lib.keeps zs.toArray i = true
  | 0, hj, he => ⟨0, hj, he, Lib.keeps_lt_one _ 0 (by omega)⟩
  | j + 1, hj, he => by
    by_cases h : zs[j]'(by omega) = x
    · exact first_at x j (by omega) h
    · refine ⟨j + 1, hj, he, Lib.keeps_pos ?_⟩
      rw [getElem!_pos _ _ (by simpa using hj), getElem!_pos _ _ (by simp; omega)]
      simp only [List.getElem_toArray, Nat.add_sub_cancel]
      intro h2
      exact h (h2 ▸ he)
omit hs in
theorem compact_mem (x : Int) : x ∈ Lib.compact zs ↔ x ∈ zs := by
  unfold Lib.compact Lib.compactUpTo
  simp only [List.mem_map, List.mem_filter, List.mem_range]
  constructor
  · rintro ⟨i, ⟨hi, _⟩, rfl⟩
    rw [getElem!_pos _ _ (by simpa using hi)]
    simp
  · intro hx
    obtain ⟨j, hj, he⟩ := List.getElem_of_mem hx
    obtain ⟨i, hi, h1, h2⟩ := first_at x j hj he
    refine ⟨i, ⟨hi, h2⟩, ?_⟩
    rw [getElem!_pos _ _ (by simpa using hi)]
    simpa using h1
end
/-- Joined, sorted, each once: that is both together. -/
theorem sorted_mrg {a b : List Int} (ha : a.Pairwise (· < ·)) (hb : b.Pairwise (· < ·)) : Lib.compact ((a ++ b).mergeSort fun x y => decide (x ≤ y)) = mrg a b := by
  have hs : ((a ++ b).mergeSort fun x y => decide (x ≤ y)).Pairwise (· ≤ ·) := by
    have h := List.pairwise_mergeSort (le := fun (x y : Int) => decide (x ≤ y)) (fun x y z h1 h2 => by simp at h1 h2 ⊢; omega) (fun x y => by simp; omega) (a ++ b)
    exact h.imp (fun h => by simpa using h)
  refine strict_ext (compact_up hs) (mrg_up _ _ _ (Nat.le_refl _) ha hb) fun z => ?_
  rw [compact_mem, List.mem_mergeSort, List.mem_append, mrg_mem _ _ _ (Nat.le_refl _)]
end Go.Proofs.Ytfiflmgjcmmomaa.cal
