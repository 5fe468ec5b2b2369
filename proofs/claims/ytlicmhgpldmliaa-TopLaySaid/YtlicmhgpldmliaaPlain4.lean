/- The plain laws of who is on demurrage, and of more free hours. No condition. -/
import Derived.Test.YtlicmhgpldmliaaPlain3
import Derived.Test.YtlicmhgpldmliaaMoney
namespace Go.Proofs.Ytlicmhgpldmliaa
open Go.Proofs.Ytlicmhgpldmliaa.kit
set_option linter.unusedVariables false

theorem rused_over {F : Int} (top : Int) : ∀ (x : Str) (r : List Str) (n : Int), Good (x :: r) → lastOf x r ≤ top → F ≤ n → rused F top (x :: r) n = n + 2 * (lastOf x r - x.fr)
  | x, [], n, hg, ht, h => by
    obtain ⟨a, b, c, d, e⟩ := hg.1
    simp only [lastOf] at ht
    have e1 : min x.to top = x.to := by omega
    simp only [rused, lastOf, e1]
    rw [hours_over F x.ha _ n h]
    omega
  | x, y :: r, n, hg, ht, h => by
    obtain ⟨a, b, c, d, e⟩ := hg.1
    have h1 := good_last y r hg.2.2
    have h2 := hg.2.1 y rfl
    have h4 := hg.2.2.1
    obtain ⟨_, _, _⟩ := h4
    simp only [lastOf] at ht
    have e1 : min x.to top = x.to := by omega
    rw [rused, e1, hours_over F x.ha _ n h, rused_over top y r _ hg.2.2 ht (by omega)]
    simp only [lastOf]
    omega
theorem rused_rest {F : Int} (top v : Int) : ∀ (x : Str) (r : List Str) (n : Int), Good (x :: r) → lastOf x r ≤ top → x.fr ≤ v → v ≤ lastOf x r → F ≤ rused F v (x :: r) n →
    rused F top (x :: r) n = rused F v (x :: r) n + 2 * (lastOf x r - v)
  | x, r, n, hg, ht, h1, h2, h3 => by
    obtain ⟨a, b, c, d, e⟩ := hg.1
    have hl := good_last x r hg
    rcases Int.le_total v x.to with hv | hv
    · rw [rused_in F v n x r hg hv] at h3 ⊢
      rw [rused_past F top n x r (by omega)]
      have e1 : (x.to - x.fr).toNat = (v - x.fr).toNat + (x.to - v).toNat := by omega
      rw [e1, hours_add, hours_over F x.ha _ _ h3]
      cases r with
      | nil => simp only [rused, lastOf]; omega
      | cons y r =>
        have h5 := hg.2.1 y rfl
        rw [rused_over top y r _ hg.2.2 ht (by omega)]
        simp only [lastOf]
        omega
    · cases r with
      | nil =>
        simp only [lastOf] at h2 ht ⊢
        have e1 : v = x.to := by omega
        subst e1
        rw [rused_in F _ n x [] hg (Int.le_refl _)]
        have e2 : min x.to top = x.to := by omega
        simp only [rused, e2]
        omega
      | cons y r =>
        have h5 := hg.2.1 y rfl
        rw [rused_past F v n x _ hv] at h3 ⊢
        rw [rused_past F top n x _ (by omega)]
        exact rused_rest top v y r _ hg.2.2 ht (by omega) h2 h3

theorem expF_zero (x : Str) (r : List Str) : expF 0 0 0 (x :: r) = some x.fr ∨ ¬ x.right := by
  by_cases h : x.right
  · left
    obtain ⟨a, b, c, d, e⟩ := h
    have e1 : upto 0 (x.to - x.fr) x.ha = 0 := by simp [upto]
    rw [expF, e1, if_pos (by omega)]
    simp
  · exact .inr h

/-- What LayStays asks of a lay that expires. -/
theorem stays_some {F : Int} (hF : 0 ≤ F) (x : Str) (r : List Str) (hg : Good (x :: r)) {v : Int} (h : expF F F 0 (x :: r) = some v) :
    x.fr ≤ v ∧ v ≤ lastOf x r ∧ F ≤ usesF F (cutA v (x :: r)) ∧ usesF F (x :: r) - usesF F (cutA v (x :: r)) = 2 * (lastOf x r - v) ∧ ∀ at_, x.fr ≤ at_ → at_ < v → usesF F (cutA at_ (x :: r)) < F := by
  have hr := good_right _ hg
  have hl := good_last x r hg
  have hu := rused_uses 1048576 (x :: r) F 0 (fun y hy => ⟨hr y hy, (hr y hy).2.2.1⟩) (at_start hF)
  have hc : ∀ a, usesF F (cutA a (x :: r)) = rused F a (x :: r) 0 := fun a => (usesF_cut hF a _ hr).1
  have key : x.fr ≤ v ∧ v ≤ lastOf x r ∧ F ≤ rused F v (x :: r) 0 ∧ ∀ at_, x.fr ≤ at_ → at_ < v → rused F at_ (x :: r) 0 < F := by
    rcases Int.lt_or_eq_of_le hF with h0 | h0
    · obtain ⟨a, b, c, d⟩ := expF_some x r F 0 v hg h0 (by omega) h
      exact ⟨a, b, c, fun at_ _ h2 => d at_ h2⟩
    · subst h0
      rcases expF_zero x r with e | e
      · rw [e] at h; cases h
        obtain ⟨a, b, c, d, e⟩ := hg.1
        exact ⟨Int.le_refl _, by omega, by rw [rused_ahead 0 x.fr _ 0 hg (fun y hy => by simp at hy; subst hy; omega)]; omega, fun at_ h1 h2 => by omega⟩
      · exact absurd hg.1 e
  obtain ⟨a, b, c, d⟩ := key
  refine ⟨a, b, by rw [hc]; exact c, ?_, fun at_ h1 h2 => by rw [hc]; exact d at_ h1 h2⟩
  rw [hc]
  have := rused_rest 1048576 v x r 0 hg hl.2 a b c
  omega
theorem stays_none {F : Int} (hF : 0 ≤ F) (x : Str) (r : List Str) (hg : Good (x :: r)) (h : expF F F 0 (x :: r) = none) : usesF F (x :: r) < F := by
  have hr := good_right _ hg
  have hu := rused_uses 1048576 (x :: r) F 0 (fun y hy => ⟨hr y hy, (hr y hy).2.2.1⟩) (at_start hF)
  rcases Int.lt_or_eq_of_le hF with h0 | h0
  · have := expF_none (x :: r) F 0 hg h0 (by omega) h 1048576
    omega
  · subst h0
    rcases expF_zero x r with e | e
    · rw [e] at h; cases h
    · exact absurd hg.1 e

/-! ### more free hours -/
theorem hours_wide {F G ha : Int} (hFG : F ≤ G) (h2 : ha ≤ 2) : ∀ (c : Nat) (n m : Int), n ≤ m → hours G ha c n ≤ hours F ha c m
  | 0, n, m, h => h
  | c + 1, n, m, h => by
    rw [hours, hours]
    exact hours_wide hFG h2 c _ _ (by split <;> split <;> omega)
theorem rused_wide {F G : Int} (hFG : F ≤ G) (h : Int) : ∀ (xs : List Str) (n m : Int), (∀ x ∈ xs, x.right) → n ≤ m → rused G h xs n ≤ rused F h xs m
  | [], n, m, _, hnm => hnm
  | x :: r, n, m, hx, hnm => by
    obtain ⟨a, b, c, d, e⟩ := hx x (by simp)
    rw [rused, rused]
    exact rused_wide hFG h r _ _ (fun y hy => hx y (by simp [hy])) (hours_wide hFG e _ n m hnm)
theorem usesF_wide {F G : Int} (hF : 0 ≤ F) (hFG : F ≤ G) (xs : List Str) (hr : ∀ x ∈ xs, x.right) : usesF G xs ≤ usesF F xs := by
  have h1 := rused_uses 1048576 xs F 0 (fun y hy => ⟨hr y hy, (hr y hy).2.2.1⟩) (at_start hF)
  have h2 := rused_uses 1048576 xs G 0 (fun y hy => ⟨hr y hy, (hr y hy).2.2.1⟩) (at_start (F := G) (by omega))
  have h3 := rused_wide hFG 1048576 xs 0 0 hr (Int.le_refl _)
  omega
theorem expF_wide {F G : Int} (hF : 0 ≤ F) (hFG : F ≤ G) (x : Str) (r : List Str) (hg : Good (x :: r)) {k : Int} (hk : expF G G 0 (x :: r) = some k) : ∃ h, expF F F 0 (x :: r) = some h ∧ h ≤ k := by
  have hr := good_right _ hg
  obtain ⟨k1, k2, k3, k4, k5⟩ := stays_some (F := G) (by omega) x r hg hk
  rw [(usesF_cut (F := G) (by omega) k _ hr).1] at k3
  have h3 := rused_wide hFG k (x :: r) 0 0 hr (Int.le_refl _)
  rcases Int.lt_or_eq_of_le hF with h0 | h0
  · cases he : expF F F 0 (x :: r) with
    | none =>
      have := expF_none (x :: r) F 0 hg h0 (by omega) he k
      omega
    | some h =>
      obtain ⟨a, b, c, d⟩ := expF_some x r F 0 h hg h0 (by omega) he
      refine ⟨h, rfl, ?_⟩
      by_cases hh : h ≤ k
      · exact hh
      · have := d k (by omega); omega
  · subst h0
    rcases expF_zero x r with e | e
    · exact ⟨x.fr, e, k1⟩
    · exact absurd hg.1 e

/-! ### an hour more -/
theorem lastOf_append : ∀ (x : Str) (r : List Str) (y : Str), lastOf x (r ++ [y]) = y.to
  | x, [], y => rfl
  | x, z :: r, y => by simpa [lastOf] using lastOf_append z r y
theorem good_append : ∀ (x : Str) (r : List Str) (y : Str), Good (x :: r) → y.right → y.fr = lastOf x r → Good (x :: r ++ [y])
  | x, [], y, hg, hy, hf => ⟨hg.1, by intro z hz; simp at hz; subst hz; exact hf, hy, by simp, trivial⟩
  | x, z :: r, y, hg, hy, hf => ⟨hg.1, by intro u hu; exact hg.2.1 u (by simpa using hu), good_append z r y hg.2.2 hy hf⟩
theorem chk_append : ∀ (x : Str) (r : List Str) (y : Str) (i : Nat) (p : Int), Good (x :: r) → (0 < i → x.fr = p) → y.fr = lastOf x r → y.bad = true → i + r.length + 1 < 4096 → (chk i p (x :: r ++ [y])).2 = 1
  | x, r, y, i, p, hg, hp, hf, hy, hl => by
    obtain ⟨a, b, c, d, e⟩ := hg.1
    have hb : ¬ x.bad = true := by simp [Str.bad]; omega
    rw [List.cons_append, chk, if_neg (by omega), if_neg hb, if_neg (fun h => h.2 (hp h.1))]
    cases r with
    | nil => rw [List.nil_append, chk, if_neg (by simp at hl; omega), if_pos hy]
    | cons z r => exact chk_append z r y (i + 1) x.to hg.2.2 (fun _ => hg.2.1 z rfl) hf hy (by simp at hl; omega)
theorem rused_append (F h : Int) (y : Str) : ∀ (xs : List Str) (n : Int), rused F h (xs ++ [y]) n = hours F y.ha ((min y.to h - y.fr).toNat) (rused F h xs n)
  | [], n => rfl
  | x :: r, n => by rw [List.cons_append, rused, rused, rused_append F h y r]
theorem usesF_more {F : Int} (hF : 0 ≤ F) (xs : List Str) (y : Str) (hr : ∀ x ∈ xs, x.right) (hy : y.right) (h1 : y.to = y.fr + 1) : usesF F xs ≤ usesF F (xs ++ [y]) ∧ usesF F (xs ++ [y]) ≤ usesF F xs + 2 := by
  have k1 := rused_uses 1048576 xs F 0 (fun y hy => ⟨hr y hy, (hr y hy).2.2.1⟩) (at_start hF)
  have hr' : ∀ x ∈ xs ++ [y], x.right := fun x hx => by
    rcases List.mem_append.1 hx with hx | hx
    · exact hr x hx
    · simp at hx; subst hx; exact hy
  have k2 := rused_uses 1048576 (xs ++ [y]) F 0 (fun y hy => ⟨hr' y hy, (hr' y hy).2.2.1⟩) (at_start hF)
  obtain ⟨a, b, c, d, e⟩ := hy
  rw [rused_append] at k2
  have e1 : (min y.to 1048576 - y.fr).toNat = 1 := by omega
  rw [e1, hours, hours] at k2
  split at k2 <;> omega
theorem sum_more (l : Lay) (hl : l.may = true) {U V : Int} (h0 : 0 ≤ U) (h : U ≤ V) (hV : V ≤ 2097152) : sumOf l U ≤ sumOf l V := by
  have hf : 0 ≤ l.free ∧ l.free ≤ 1048576 ∧ 0 ≤ l.late ∧ l.late ≤ 1099511627776 ∧ 0 ≤ l.soon ∧ l.soon ≤ 1099511627776 := by simp [Lay.may] at hl; omega
  obtain ⟨f0, f1, f2, f3, f4, f5⟩ := hf
  unfold sumOf
  by_cases h1 : 2 * l.free < U
  · rw [if_pos h1, if_pos (by omega)]
    have := Int.mul_le_mul_of_nonneg_left (show U - 2 * l.free ≤ V - 2 * l.free by omega) f2
    omega
  · rw [if_neg h1]
    have p1 := Int.mul_nonneg f4 (show 0 ≤ -(U - 2 * l.free) by omega)
    by_cases h2 : 2 * l.free < V
    · rw [if_pos h2]
      have p2 := Int.mul_nonneg f2 (show 0 ≤ V - 2 * l.free by omega)
      omega
    · rw [if_neg h2]
      have := Int.mul_le_mul_of_nonneg_left (show -(V - 2 * l.free) ≤ -(U - 2 * l.free) by omega) f4
      omega
theorem money_more (l : Lay) (hl : l.may = true) {U V : Int} (h0 : 0 ≤ U) (h : U ≤ V) (hV : V ≤ 2097152) : (moneyOf l U).2 ≠ 0 ∨ (moneyOf l V).2 ≠ 0 ∨ (moneyOf l U).1 ≤ (moneyOf l V).1 := by
  have := sum_more l hl h0 h hV
  unfold moneyOf
  split
  · left; simp
  · split
    · right; left; simp
    · right; right; exact this
end Go.Proofs.Ytlicmhgpldmliaa
