/- Plain law: loads that fit, as a list; moments as sums. No condition. -/
import Derived.Test.YteciegpfiipokaaRMom
namespace Go.Proofs.Yteciegpfiipokaa
open Go.Proofs.Yteciegpfiipokaa.kit
set_option linter.unusedVariables false

/-- A load that may stand somewhere on the ship. -/
def goodB (s : Ship) (x : Load) : Bool := onS s.ba s.ro s.ti x.b x.r x.t && decide (1 ≤ x.we) && decide (x.we ≤ 1048576)
theorem pre_iff (s : Ship) : ∀ (xs : List Load) (seen : List Sl), pre s seen xs = true ↔ (∀ x ∈ xs, goodB s x = true) ∧ (xs.map Load.sl).Nodup ∧ ∀ x ∈ xs, x.sl ∉ seen
  | [], seen => by simp [pre]
  | y :: ys, seen => by
    have ih := pre_iff s ys (y.sl :: seen)
    rw [pre, Bool.and_eq_true, ih]
    have e : okB s seen y = (goodB s y && !seen.contains y.sl) := by unfold okB goodB; rfl
    rw [e]
    simp only [Bool.and_eq_true, Bool.not_eq_true', List.mem_cons, List.map_cons, List.nodup_cons, List.mem_map, not_exists, not_and, forall_eq_or_imp]
    constructor
    · rintro ⟨⟨h1, h2⟩, h3, h4, h5⟩
      refine ⟨⟨h1, h3⟩, ⟨fun x hx hq => (h5 x hx) (.inl hq), h4⟩, ?_, fun x hx hq => (h5 x hx) (.inr hq)⟩
      intro hm
      rw [List.contains_iff_mem.2 hm] at h2
      cases h2
    · rintro ⟨⟨h1, h2⟩, ⟨h3, h4⟩, h5, h6⟩
      refine ⟨⟨h1, ?_⟩, h2, h4, ?_⟩
      · rw [Bool.eq_false_iff]; intro hc; exact h5 (List.contains_iff_mem.1 hc)
      · intro x hx hq
        rcases hq with hq | hq
        · exact h3 x hx hq
        · exact h6 x hx hq
theorem fit_iff (s : Ship) (xs : List Load) : fitB s xs = true ↔ s.may = true ∧ xs.length ≤ 4096 ∧ (∀ x ∈ xs, goodB s x = true) ∧ (xs.map Load.sl).Nodup := by
  unfold fitB
  rw [Bool.and_eq_true, Bool.and_eq_true, decide_eq_true_eq, pre_iff]
  simp [and_assoc]

def fL (s : Ship) (x : Load) : Int := x.we * (2 * x.b - s.ba + 1)
def fC (s : Ship) (x : Load) : Int := x.we * (2 * x.r - s.ro + 1)
def fU (x : Load) : Int := x.we * x.t
def sumBy (f : Load → Int) (xs : List Load) : Int := (xs.map f).sum
theorem sumBy_nil (f : Load → Int) : sumBy f [] = 0 := rfl
theorem sumBy_cons (f : Load → Int) (x : Load) (xs : List Load) : sumBy f (x :: xs) = f x + sumBy f xs := by simp [sumBy]
theorem sumBy_append (f : Load → Int) (xs ys : List Load) : sumBy f (xs ++ ys) = sumBy f xs + sumBy f ys := by simp [sumBy]
theorem mom_fold (s : Ship) : ∀ (xs : List Load) (m : Mom), xs.foldl (addM s) m = (m.1 + sumBy (fL s) xs, m.2.1 + sumBy (fC s) xs, m.2.2.1 + sumBy fU xs, m.2.2.2 + sumBy Load.we xs)
  | [], m => by simp [sumBy_nil]
  | x :: xs, m => by
    rw [List.foldl_cons, mom_fold s xs]
    simp only [sumBy_cons, addM, fL, fC, fU]
    ext <;> simp only <;> omega
theorem mom_sum (s : Ship) (xs : List Load) : momF s xs = (sumBy (fL s) xs, sumBy (fC s) xs, sumBy fU xs, sumBy Load.we xs) := by
  unfold momF
  rw [mom_fold]
  simp
theorem sumBy_bd (f : Load → Int) (lo hi : Int) : ∀ (xs : List Load), (∀ x ∈ xs, lo ≤ f x ∧ f x ≤ hi) → lo * xs.length ≤ sumBy f xs ∧ sumBy f xs ≤ hi * xs.length
  | [], _ => by simp [sumBy_nil]
  | x :: xs, h => by
    have h1 := h x (by simp)
    have h2 := sumBy_bd f lo hi xs (fun y hy => h y (by simp [hy]))
    rw [sumBy_cons, List.length_cons]
    have e1 : lo * ((xs.length + 1 : Nat) : Int) = lo * xs.length + lo := by rw [Int.natCast_add, Int.mul_add]; simp
    have e2 : hi * ((xs.length + 1 : Nat) : Int) = hi * xs.length + hi := by rw [Int.natCast_add, Int.mul_add]; simp
    omega
/-- How far the moments of loads that fit may go. -/
theorem mom_bd {s : Ship} {xs : List Load} (h : fitB s xs = true) :
    -32505856 * xs.length ≤ sumBy (fL s) xs ∧ sumBy (fL s) xs ≤ 32505856 * xs.length ∧ -32505856 * xs.length ≤ sumBy (fC s) xs ∧ sumBy (fC s) xs ≤ 32505856 * xs.length ∧
    0 ≤ sumBy fU xs ∧ sumBy fU xs ≤ 32505856 * xs.length ∧ xs.length ≤ sumBy Load.we xs ∧ sumBy Load.we xs ≤ 1048576 * xs.length := by
  obtain ⟨hmay, _, hpre⟩ := fit_may h
  have hi := pre_in hmay hpre
  obtain ⟨d0, d1, d2, d3, d4, d5⟩ := dims_of hmay
  have b1 := sumBy_bd (fL s) (-32505856) 32505856 xs (fun x hx => by
    obtain ⟨o0, o1, o2, o3, o4, o5, o6, o7⟩ := hi x hx
    have := mul_bd (q := 2 * x.b - s.ba + 1) (K := 31) o6 o7 (by omega) (by omega) (by omega)
    unfold fL; omega)
  have b2 := sumBy_bd (fC s) (-32505856) 32505856 xs (fun x hx => by
    obtain ⟨o0, o1, o2, o3, o4, o5, o6, o7⟩ := hi x hx
    have := mul_bd (q := 2 * x.r - s.ro + 1) (K := 31) o6 o7 (by omega) (by omega) (by omega)
    unfold fC; omega)
  have b3 := sumBy_bd fU 0 32505856 xs (fun x hx => by
    obtain ⟨o0, o1, o2, o3, o4, o5, o6, o7⟩ := hi x hx
    have := mul_bd0 (q := x.t) (K := 31) o6 o7 o4 (by omega) (by omega)
    unfold fU; omega)
  have b4 := sumBy_bd Load.we 1 1048576 xs (fun x hx => by
    obtain ⟨o0, o1, o2, o3, o4, o5, o6, o7⟩ := hi x hx
    exact ⟨o6, o7⟩)
  omega
theorem sum_fit {s : Ship} {xs : List Load} (h : fitB s xs = true) : sumV s xs = ((sumBy (fL s) xs, sumBy (fC s) xs, sumBy fU xs, sumBy Load.we xs), true) := by
  unfold sumV
  rw [if_pos h, mom_sum]
theorem sum_not {s : Ship} {xs : List Load} (h : fitB s xs = false) : sumV s xs = ((0, 0, 0, 0), false) := by
  unfold sumV
  rw [h]; rfl
theorem fit_sub {s : Ship} {xs ys : List Load} (h : fitB s xs = true) (hs : ys.Sublist xs) : fitB s ys = true := by
  rw [fit_iff] at h ⊢
  obtain ⟨h1, h2, h3, h4⟩ := h
  exact ⟨h1, Nat.le_trans hs.length_le h2, fun x hx => h3 x (hs.subset hx), h4.sublist (hs.map _)⟩
theorem fit_perm {s : Ship} {xs ys : List Load} (h : fitB s xs = true) (hs : ys.Perm xs) : fitB s ys = true := by
  rw [fit_iff] at h ⊢
  obtain ⟨h1, h2, h3, h4⟩ := h
  exact ⟨h1, by rw [hs.length_eq]; exact h2, fun x hx => h3 x (hs.mem_iff.1 hx), ((hs.map _).nodup_iff).2 h4⟩
end Go.Proofs.Yteciegpfiipokaa
