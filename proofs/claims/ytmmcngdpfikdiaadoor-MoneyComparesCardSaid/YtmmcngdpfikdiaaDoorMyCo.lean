/- Fractions held against one another, in plain words. No condition. -/
import Derived.Test.YtmmcngdpfikdiaaDoorMyScale
namespace Go.Proofs.YtmmcngdpfikdiaaDoor.kit
open Go.RowKit Go.PlainAid
set_option linter.unusedVariables false

/-- a over b against c over d. -/
def cmpN (a b c d : Nat) : Int := if a * d < c * b then -1 else if a * d = c * b then 0 else 1
theorem cmpN_lt {a b c d : Nat} (h : a * d < c * b) : cmpN a b c d = -1 := by unfold cmpN; rw [if_pos h]
theorem cmpN_eq {a b c d : Nat} (h : a * d = c * b) : cmpN a b c d = 0 := by unfold cmpN; rw [if_neg (by omega), if_pos h]
theorem cmpN_gt {a b c d : Nat} (h : c * b < a * d) : cmpN a b c d = 1 := by unfold cmpN; rw [if_neg (by omega), if_neg (by omega)]
theorem cmpN_rev (a b c d : Nat) : cmpN c d a b = -cmpN a b c d := by
  rcases Nat.lt_trichotomy (a * d) (c * b) with h | h | h
  · rw [cmpN_lt h, cmpN_gt h]; rfl
  · rw [cmpN_eq h, cmpN_eq h.symm]; rfl
  · rw [cmpN_gt h, cmpN_lt h]
theorem cmpN_self (a b : Nat) : cmpN a b a b = 0 := cmpN_eq rfl
section
variable {a b c d e f : Nat}
theorem cmpN_le : cmpN a b c d ≤ 0 ↔ a * d ≤ c * b := by
  rcases Nat.lt_trichotomy (a * d) (c * b) with h | h | h
  · rw [cmpN_lt h]; omega
  · rw [cmpN_eq h]; omega
  · rw [cmpN_gt h]; omega
theorem cmpN_neg : cmpN a b c d < 0 ↔ a * d < c * b := by
  rcases Nat.lt_trichotomy (a * d) (c * b) with h | h | h
  · rw [cmpN_lt h]; omega
  · rw [cmpN_eq h]; omega
  · rw [cmpN_gt h]; omega
/-- What isn't above what isn't above a third isn't above that; less, if one of them is less. -/
theorem le_trans3 (hb : 0 < b) (hd : 0 < d) (hf : 0 < f) (h1 : a * d ≤ c * b) (h2 : c * f ≤ e * d) : a * f ≤ e * b := by
  have h3 : a * d * f ≤ c * b * f := Nat.mul_le_mul_right f h1
  have h4 : c * f * b ≤ e * d * b := Nat.mul_le_mul_right b h2
  have e1 : a * d * f = (a * f) * d := by rw [Nat.mul_assoc, Nat.mul_comm d f, Nat.mul_assoc]
  have e2 : c * b * f = c * f * b := by rw [Nat.mul_assoc, Nat.mul_comm b f, Nat.mul_assoc]
  have e3 : e * d * b = (e * b) * d := by rw [Nat.mul_assoc, Nat.mul_comm d b, Nat.mul_assoc]
  exact Nat.le_of_mul_le_mul_right (show a * f * d ≤ e * b * d by omega) hd
theorem lt_trans3 (hb : 0 < b) (hd : 0 < d) (hf : 0 < f) (h1 : a * d ≤ c * b) (h2 : c * f ≤ e * d) (h : a * d < c * b ∨ c * f < e * d) : a * f < e * b := by
  have e1 : a * d * f = (a * f) * d := by rw [Nat.mul_assoc, Nat.mul_comm d f, Nat.mul_assoc]
  have e2 : c * b * f = c * f * b := by rw [Nat.mul_assoc, Nat.mul_comm b f, Nat.mul_assoc]
  have e3 : e * d * b = (e * b) * d := by rw [Nat.mul_assoc, Nat.mul_comm d b, Nat.mul_assoc]
  have key : a * f * d < e * b * d := by
    rcases h with h | h
    · have h3 : a * d * f < c * b * f := Nat.mul_lt_mul_of_pos_right h hf
      have h4 : c * f * b ≤ e * d * b := Nat.mul_le_mul_right b h2
      omega
    · have h3 : a * d * f ≤ c * b * f := Nat.mul_le_mul_right f h1
      have h4 : c * f * b < e * d * b := Nat.mul_lt_mul_of_pos_right h hb
      omega
  exact Nat.lt_of_mul_lt_mul_right key
theorem cmp_orders (hb : 0 < b) (hd : 0 < d) (hf : 0 < f) : ¬ (cmpN a b c d ≤ 0 ∧ cmpN c d e f ≤ 0 ∧ (0 < cmpN a b e f ∨ cmpN a b e f = 0 ∧ (cmpN a b c d < 0 ∨ cmpN c d e f < 0))) := by
  rintro ⟨h1, h2, h3⟩
  rw [cmpN_le] at h1 h2
  have h4 := le_trans3 hb hd hf h1 h2
  rcases h3 with h3 | ⟨h3, h5⟩
  · have := cmpN_le.2 h4; omega
  · rw [cmpN_neg, cmpN_neg] at h5
    have := cmpN_neg.2 (lt_trans3 hb hd hf h1 h2 h5)
    omega
/-! whole parts, then what is left turned over -/
theorem whole_lt (hb : 0 < b) (hd : 0 < d) (h : a / b < c / d) : cmpN a b c d = -1 := by
  apply cmpN_lt
  have h1 : a < (a / b + 1) * b := by rw [Nat.add_mul, Nat.one_mul, Nat.mul_comm]; have := Nat.div_add_mod a b; have := Nat.mod_lt a hb; omega
  have h2 : c / d * d ≤ c := Nat.div_mul_le_self c d
  have h3 : (a / b + 1) * d ≤ c := Nat.le_trans (Nat.mul_le_mul_right d h) h2
  have h4 : a * d < (a / b + 1) * b * d := Nat.mul_lt_mul_of_pos_right h1 hd
  have h5 : (a / b + 1) * d * b ≤ c * b := Nat.mul_le_mul_right b h3
  have e : (a / b + 1) * b * d = (a / b + 1) * d * b := by rw [Nat.mul_assoc, Nat.mul_comm b d, Nat.mul_assoc]
  omega
theorem whole_gt (hb : 0 < b) (hd : 0 < d) (h : c / d < a / b) : cmpN a b c d = 1 := by
  rw [cmpN_rev c d a b, whole_lt hd hb h]; rfl
theorem whole_same (h : a / b = c / d) : cmpN a b c d = cmpN (a % b) b (c % d) d := by
  have h1 := Nat.div_add_mod a b
  have h2 := Nat.div_add_mod c d
  obtain ⟨q, hq⟩ : ∃ q, a / b = q := ⟨_, rfl⟩
  rw [hq] at h1 h
  rw [← h] at h2
  obtain ⟨r, hr⟩ : ∃ q, a % b = q := ⟨_, rfl⟩
  obtain ⟨s, hs⟩ : ∃ q, c % d = q := ⟨_, rfl⟩
  rw [hr] at h1 ⊢
  rw [hs] at h2 ⊢
  have e1 : a * d = b * q * d + r * d := by rw [← h1, Nat.add_mul]
  have e2 : c * b = d * q * b + s * b := by rw [← h2, Nat.add_mul]
  have e3 : b * q * d = d * q * b := by rw [Nat.mul_comm b q, Nat.mul_assoc, Nat.mul_comm b d, ← Nat.mul_assoc, Nat.mul_comm q d]
  rcases Nat.lt_trichotomy (r * d) (s * b) with h | h | h
  · rw [cmpN_lt h, cmpN_lt (by omega)]
  · rw [cmpN_eq h, cmpN_eq (by omega)]
  · rw [cmpN_gt h, cmpN_gt (by omega)]
theorem rest_00 (h : a / b = c / d) (h1 : a % b = 0) (h2 : c % d = 0) : cmpN a b c d = 0 := by
  rw [whole_same h, h1, h2]; apply cmpN_eq; omega
theorem rest_0 (hb : 0 < b) (h : a / b = c / d) (h1 : a % b = 0) (h2 : 0 < c % d) : cmpN a b c d = -1 := by
  rw [whole_same h, h1]; apply cmpN_lt; rw [Nat.zero_mul]; exact Nat.mul_pos h2 hb
theorem rest_1 (hd : 0 < d) (h : a / b = c / d) (h1 : 0 < a % b) (h2 : c % d = 0) : cmpN a b c d = 1 := by
  rw [whole_same h, h2]; apply cmpN_gt; rw [Nat.zero_mul]; exact Nat.mul_pos h1 hd
theorem turned (h : a / b = c / d) : cmpN a b c d = -cmpN b (a % b) d (c % d) := by
  rw [whole_same h, ← cmpN_rev]
  unfold cmpN
  rw [Nat.mul_comm (a % b) d, Nat.mul_comm (c % d) b]
end
/-! the fraction that counts, and what two come to -/
def wN (n d : Int) : Nat := if ratB n d = true then n.toNat else 0
def wD (n d : Int) : Nat := if ratB n d = true then d.toNat else 1
theorem wD_pos (n d : Int) : 0 < wD n d := by
  unfold wD
  by_cases h : ratB n d = true
  · rw [if_pos h]; unfold ratB at h; simp at h; omega
  · rw [if_neg h]; omega
def cmpV (n d n' d' : Int) : Int := cmpN (wN n d) (wD n d) (wN n' d') (wD n' d')
theorem cmpV_rev (n d n' d' : Int) : cmpV n' d' n d = -cmpV n d n' d' := cmpN_rev _ _ _ _
/-! the greatest number that divides both -/
def redV (n d : Int) : (Int × Int) × Bool := if ratB n d = true then (((n.toNat / Nat.gcd n.toNat d.toNat : Nat), (d.toNat / Nat.gcd n.toNat d.toNat : Nat)), true) else ((0, 0), false)
theorem red_cmp {n d n' d' : Int} (h : (redV n d).2 = true) : cmpV (redV n d).1.1 (redV n d).1.2 n' d' = cmpV n d n' d' := by
  have hr : ratB n d = true := by
    cases e : ratB n d
    · unfold redV at h; rw [if_neg (by rw [e]; simp)] at h; cases h
    · rfl
  have hnd : 0 ≤ n ∧ 1 ≤ d := by unfold ratB at hr; simpa using hr
  unfold redV
  rw [if_pos hr]
  simp only []
  obtain ⟨N, rfl⟩ : ∃ N : Nat, n = N := ⟨n.toNat, by omega⟩
  obtain ⟨D, rfl⟩ : ∃ N : Nat, d = N := ⟨d.toNat, by omega⟩
  simp only [Int.toNat_natCast]
  have hg : 0 < Nat.gcd N D := Nat.gcd_pos_of_pos_right _ (by omega)
  have h1 := Nat.div_mul_cancel (Nat.gcd_dvd_left N D)
  have h2 := Nat.div_mul_cancel (Nat.gcd_dvd_right N D)
  obtain ⟨x, hx⟩ : ∃ x, N / Nat.gcd N D = x := ⟨_, rfl⟩
  obtain ⟨y, hy⟩ : ∃ x, D / Nat.gcd N D = x := ⟨_, rfl⟩
  rw [hx] at h1 ⊢
  rw [hy] at h2 ⊢
  generalize Nat.gcd N D = g at *
  have hy1 : 0 < y := by
    rcases Nat.eq_zero_or_pos y with h0 | h0
    · subst h0; rw [Nat.zero_mul] at h2; omega
    · exact h0
  have hr2 : ratB (x : Int) (y : Int) = true := by unfold ratB; simp; omega
  unfold cmpV wN wD
  rw [if_pos hr, if_pos hr, if_pos hr2, if_pos hr2]
  simp only [Int.toNat_natCast]
  generalize (if ratB n' d' = true then n'.toNat else 0) = p
  generalize (if ratB n' d' = true then d'.toNat else 1) = q
  have e1 : N * q = x * q * g := by rw [← h1, Nat.mul_assoc, Nat.mul_comm g q, Nat.mul_assoc]
  have e2 : p * D = p * y * g := by rw [← h2, Nat.mul_assoc]
  rcases Nat.lt_trichotomy (x * q) (p * y) with h | h | h
  · rw [cmpN_lt h, cmpN_lt (by rw [e1, e2]; exact Nat.mul_lt_mul_of_pos_right h hg)]
  · rw [cmpN_eq h, cmpN_eq (by rw [e1, e2, h])]
  · rw [cmpN_gt h, cmpN_gt (by rw [e1, e2]; exact Nat.mul_lt_mul_of_pos_right h hg)]
end Go.Proofs.YtmmcngdpfikdiaaDoor.kit
