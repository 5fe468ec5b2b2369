/- Draws on a policy, in plain words. No condition. -/
import Derived.Test.YtembipmficppnaaPol
namespace Go.Proofs.Ytembipmficppnaa.kit
open Go.RowKit
set_option linter.unusedVariables false

structure Dr where
  day : Int
  am : Int
def drC (x : Dr) : List Value := [.int .i64 x.day, .int .i64 x.am]
theorem drC_len (x : Dr) : (drC x).length = 2 := rfl
/-- Draws that may be, none ahead of day d. -/
def drawsF : Int → List Dr → Bool
  | _, [] => true
  | d, x :: xs => decide (1 ≤ x.am ∧ x.am ≤ 1099511627776 ∧ 0 ≤ x.day ∧ x.day ≤ 1048576 ∧ d ≤ x.day) && drawsF x.day xs
theorem draws_step {k : Nat} {xs : List Dr} {d : Int} {x : Dr} (hx : xs[k]? = some x) : drawsF d (xs.drop k) = (decide (1 ≤ x.am ∧ x.am ≤ 1099511627776 ∧ 0 ≤ x.day ∧ x.day ≤ 1048576 ∧ d ≤ x.day) && drawsF x.day (xs.drop (k + 1))) := by
  obtain ⟨hk, hx⟩ := List.getElem?_eq_some_iff.1 hx
  rw [List.drop_eq_getElem_cons hk, hx, drawsF]
def prevD (xs : List Dr) (k : Nat) : Int := if k = 0 then -1 else ((xs[k - 1]?).map Dr.day).getD 0
theorem prevD_succ {xs : List Dr} {k : Nat} {x : Dr} (hx : xs[k]? = some x) : prevD xs (k + 1) = x.day := by
  unfold prevD
  rw [if_neg (by omega), Nat.add_sub_cancel, hx]; rfl
def lateB (p : Pol) (x : Dr) : Bool := decide (x.day < p.first) || decide (p.last < x.day)
def tot (xs : List Dr) : Int := (xs.map Dr.am).sum
theorem tot_take {xs : List Dr} {k : Nat} {x : Dr} (hx : xs[k]? = some x) : tot (xs.take (k + 1)) = tot (xs.take k) + x.am := by
  unfold tot
  rw [List.take_add_one, hx, List.map_append, List.sum_append]
  simp
theorem draws_in : ∀ {xs : List Dr} {d : Int}, drawsF d xs = true → ∀ x ∈ xs, 1 ≤ x.am ∧ x.am ≤ 1099511627776 ∧ 0 ≤ x.day ∧ x.day ≤ 1048576
  | [], _, _, x, hx => by simp at hx
  | y :: ys, d, h, x, hx => by
    simp only [drawsF, Bool.and_eq_true, decide_eq_true_eq] at h
    rcases List.mem_cons.1 hx with rfl | hx
    · exact ⟨h.1.1, h.1.2.1, h.1.2.2.1, h.1.2.2.2.1⟩
    · exact draws_in h.2 x hx
theorem draws_take : ∀ {xs : List Dr} {d : Int} (k : Nat), drawsF d xs = true → drawsF d (xs.take k) = true
  | _, _, 0, _ => rfl
  | [], _, _ + 1, _ => rfl
  | y :: ys, d, k + 1, h => by
    simp only [drawsF, Bool.and_eq_true, List.take_succ_cons] at h ⊢
    exact ⟨h.1, draws_take k h.2⟩
theorem tot_mono : ∀ {xs : List Dr} (k : Nat), (∀ x ∈ xs, 1 ≤ x.am) → tot (xs.take k) ≤ tot xs ∧ 0 ≤ tot xs
  | [], k, _ => by simp [tot]
  | y :: ys, 0, h => by
    have h1 := h y (by simp)
    have h2 := tot_mono (xs := ys) 0 (fun x hx => h x (by simp [hx]))
    have e : tot (y :: ys) = y.am + tot ys := by simp [tot]
    have e0 : tot ((y :: ys).take 0) = 0 := rfl
    omega
  | y :: ys, k + 1, h => by
    have h1 := h y (by simp)
    have h2 := tot_mono (xs := ys) k (fun x hx => h x (by simp [hx]))
    have e : tot (y :: ys) = y.am + tot ys := by simp [tot]
    have e1 : tot ((y :: ys).take (k + 1)) = y.am + tot (ys.take k) := by simp [tot]
    omega
/-- What is left, and the error. -/
def openV (p : Pol) (xs : List Dr) : Int × Int :=
  if (mayP p && drawsF (-1) xs) = true then (if xs.any (lateB p) = true then (0, 11) else if p.sum < tot xs then (0, 10) else (p.sum - tot xs, 0)) else (0, 1)
theorem open_ok {p : Pol} {xs : List Dr} (h : (openV p xs).2 = 0) : mayP p = true ∧ drawsF (-1) xs = true ∧ xs.any (lateB p) = false ∧ tot xs ≤ p.sum ∧ openV p xs = (p.sum - tot xs, 0) := by
  unfold openV at h ⊢
  by_cases h1 : (mayP p && drawsF (-1) xs) = true
  · rw [if_pos h1] at h ⊢
    simp only [Bool.and_eq_true] at h1
    by_cases h2 : xs.any (lateB p) = true
    · rw [if_pos h2] at h; simp at h
    · rw [if_neg h2] at h ⊢
      by_cases h3 : p.sum < tot xs
      · rw [if_pos h3] at h; simp at h
      · rw [if_neg h3]
        exact ⟨h1.1, h1.2, by simpa using h2, by omega, rfl⟩
  · rw [if_neg h1] at h; simp at h
/-- Of fewer draws no less is left. -/
theorem open_take {p : Pol} {xs : List Dr} (k : Nat) (h : (openV p xs).2 = 0) : openV p (xs.take k) = (p.sum - tot (xs.take k), 0) ∧ tot (xs.take k) ≤ tot xs := by
  obtain ⟨h1, h2, h3, h4, _⟩ := open_ok h
  have hm := tot_mono (xs := xs) k (fun x hx => (draws_in h2 x hx).1)
  have h5 := draws_take k h2
  have h6 : (xs.take k).any (lateB p) = false := by
    rw [List.any_eq_false] at h3 ⊢
    exact fun x hx => h3 x (List.mem_of_mem_take hx)
  refine ⟨?_, hm.1⟩
  unfold openV
  rw [if_pos (by rw [h1, h5]; rfl), if_neg (by rw [h6]; simp), if_neg (by omega)]
end Go.Proofs.Ytembipmficppnaa.kit
