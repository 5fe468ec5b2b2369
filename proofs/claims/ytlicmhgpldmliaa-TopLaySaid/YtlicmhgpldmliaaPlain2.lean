/- The plain law of the hour at which a lay expires, and bounds on what is used. No condition. -/
import Derived.Test.YtlicmhgpldmliaaExp
namespace Go.Proofs.Ytlicmhgpldmliaa
open Go.Proofs.Ytlicmhgpldmliaa.kit
set_option linter.unusedVariables false

/-- Right stretches, one behind the other. -/
def Good : List Str → Prop
  | [] => True
  | x :: r => x.right ∧ (∀ y, r.head? = some y → y.fr = x.to) ∧ Good r
theorem good_of : ∀ (x : Str) (r : List Str), (∀ y ∈ x :: r, y.right) → Chain x.to r → Good (x :: r)
  | x, [], h, _ => ⟨h x (by simp), by simp, trivial⟩
  | x, y :: r, h, hc => ⟨h x (by simp), by intro z hz; simp at hz; subst hz; exact hc.1, good_of y r (fun z hz => h z (by simp [hz])) hc.2⟩
theorem good_chk {xs : List Str} (h : (chk 0 0 xs).2 = 0) : Good xs := by
  obtain ⟨h1, _, _, h4⟩ := chk_ok xs 0 0 h
  cases xs with
  | nil => trivial
  | cons x r => exact good_of x r h1 h4.2

def lastOf : Str → List Str → Int
  | x, [] => x.to
  | _, y :: r => lastOf y r
theorem good_last : ∀ (x : Str) (r : List Str), Good (x :: r) → x.to ≤ lastOf x r ∧ lastOf x r ≤ 1048576
  | x, [], h => ⟨Int.le_refl _, h.1.2.2.1⟩
  | x, y :: r, h => by
    have h1 := good_last y r h.2.2
    have h2 := h.2.1 y rfl
    have h3 := h.2.2.1
    obtain ⟨_, h5, _⟩ := h3
    simp only [lastOf]
    omega
theorem usesF_le : ∀ (x : Str) (r : List Str) (left : Int), Good (x :: r) → usesF left (x :: r) ≤ 2 * (lastOf x r - x.fr)
  | x, [], left, h => by
    obtain ⟨⟨a, b, c, d, e⟩, _⟩ := h
    have h1 := upto_bd left (x.to - x.fr) x.ha (by omega) d e
    have h2 : upto left (x.to - x.fr) x.ha * x.ha ≤ 2 * upto left (x.to - x.fr) x.ha := by
      rcases (show x.ha = 0 ∨ x.ha = 1 ∨ x.ha = 2 by omega) with e | e | e <;> rw [e] <;> rw [e] at h1 <;> omega
    simp only [usesF, lastOf]
    omega
  | x, y :: r, left, h => by
    have h0 := usesF_le y r (left - upto left (x.to - x.fr) x.ha * x.ha) h.2.2
    have h3 := h.2.1 y rfl
    obtain ⟨⟨a, b, c, d, e⟩, _⟩ := h
    have h1 := upto_bd left (x.to - x.fr) x.ha (by omega) d e
    have h2 : upto left (x.to - x.fr) x.ha * x.ha ≤ 2 * upto left (x.to - x.fr) x.ha := by
      rcases (show x.ha = 0 ∨ x.ha = 1 ∨ x.ha = 2 by omega) with e | e | e <;> rw [e] <;> rw [e] at h1 <;> omega
    rw [usesF, lastOf]
    omega
theorem usesF_top {xs : List Str} (h : (chk 0 0 xs).2 = 0) (left : Int) : 0 ≤ usesF left xs ∧ usesF left xs ≤ 2097152 := by
  refine ⟨usesF_bd xs left (chk_ok xs 0 0 h).1, ?_⟩
  have hg := good_chk h
  cases xs with
  | nil => simp [usesF]
  | cons x r =>
    have h1 := usesF_le x r left hg
    have h2 := good_last x r hg
    obtain ⟨a, _⟩ := hg.1
    omega

/-! ### expiry -/
theorem rused_ahead (F h : Int) : ∀ (xs : List Str) (n : Int), Good xs → (∀ x, xs.head? = some x → h ≤ x.fr) → rused F h xs n = n
  | [], n, _, _ => rfl
  | x :: r, n, hg, hh => by
    have h1 := hh x rfl
    obtain ⟨a, b, c⟩ := hg.1
    have e : (min x.to h - x.fr).toNat = 0 := by omega
    rw [rused, e, hours]
    exact rused_ahead F h r n hg.2.2 (fun y hy => by have := hg.2.1 y hy; omega)
theorem rused_in (F h n : Int) (x : Str) (r : List Str) (hg : Good (x :: r)) (h1 : h ≤ x.to) : rused F h (x :: r) n = hours F x.ha (h - x.fr).toNat n := by
  have e : min x.to h = h := by omega
  rw [rused, e]
  exact rused_ahead F h r _ hg.2.2 (fun y hy => by have := hg.2.1 y hy; omega)
theorem rused_past (F h n : Int) (x : Str) (r : List Str) (h1 : x.to ≤ h) : rused F h (x :: r) n = rused F h r (hours F x.ha (x.to - x.fr).toNat n) := by
  have e : min x.to h = x.to := by omega
  rw [rused, e]
theorem hours_mono (F ha : Int) (h2 : 0 ≤ ha) : ∀ (c d : Nat) (n : Int), c ≤ d → hours F ha c n ≤ hours F ha d n
  | 0, 0, n, _ => Int.le_refl _
  | 0, d + 1, n, _ => by
    have h0 := hours_mono F ha h2 0 d (if F ≤ n then n + 2 else n + ha) (by omega)
    rw [hours] at h0
    rw [hours, hours]
    split at h0 <;> split <;> omega
  | c + 1, 0, n, h => by omega
  | c + 1, d + 1, n, h => by rw [hours, hours]; exact hours_mono F ha h2 c d _ (by omega)

theorem expF_none {F : Int} : ∀ (xs : List Str) (left n : Int), Good xs → 0 < left → n = F - left → expF F left n xs = none → ∀ h, rused F h xs n < F
  | [], left, n, _, h0, h1, _, h => by simp [rused]; omega
  | x :: r, left, n, hg, h0, h1, he, h => by
    obtain ⟨a, b, c, d, e⟩ := hg.1
    obtain ⟨k1, k2⟩ := hours_upto (F := F) (left := left) (n := n) (.inl ⟨h0, h1⟩) (x.to - x.fr).toNat x.ha d e
    have hc : (((x.to - x.fr).toNat : Nat) : Int) = x.to - x.fr := by omega
    rw [hc] at k1 k2
    rw [expF] at he
    split at he
    · cases he
    · rename_i hF
      have hF' : ¬ F ≤ hours F x.ha (x.to - x.fr).toNat n := by rw [k1]; omega
      rcases k2 with ⟨k3, k4⟩ | ⟨_, k4⟩
      · have ih := expF_none r _ _ hg.2.2 k3 k4 (by rw [← he]; congr 1; omega)
        rcases Int.le_total h x.to with hh | hh
        · rw [rused_in F h n x r hg hh]
          have := hours_mono F x.ha d (h - x.fr).toNat (x.to - x.fr).toNat n (by omega)
          omega
        · rw [rused_past F h n x r hh, k1]
          exact ih h
      · omega

theorem expF_some {F : Int} : ∀ (x : Str) (r : List Str) (left n v : Int), Good (x :: r) → 0 < left → n = F - left → expF F left n (x :: r) = some v →
    x.fr ≤ v ∧ v ≤ lastOf x r ∧ F ≤ rused F v (x :: r) n ∧ ∀ h, h < v → rused F h (x :: r) n < F
  | x, r, left, n, v, hg, h0, h1, he => by
    have hlast := good_last x r hg
    obtain ⟨a, b, c, d, e⟩ := hg.1
    have ub := upto_bd left (x.to - x.fr) x.ha (by omega) d e
    obtain ⟨k1, k2⟩ := hours_upto (F := F) (left := left) (n := n) (.inl ⟨h0, h1⟩) (x.to - x.fr).toNat x.ha d e
    have hc : (((x.to - x.fr).toNat : Nat) : Int) = x.to - x.fr := by omega
    rw [hc] at k1 k2
    rw [expF] at he
    split at he
    · rename_i hF
      injection he with he
      subst he
      refine ⟨by omega, by omega, ?_, fun h hh => ?_⟩
      · rw [rused_in F _ n x r hg (by omega)]
        have e1 : x.fr + upto left (x.to - x.fr) x.ha - x.fr = upto left (x.to - x.fr) x.ha := by omega
        rw [e1]
        unfold upto at hF ub ⊢
        rw [if_neg (by omega)] at hF ub ⊢
        rcases (show x.ha = 0 ∨ x.ha = 1 ∨ x.ha = 2 by omega) with e2 | e2 | e2
        · rw [e2] at hF; simp at hF; omega
        · rw [e2] at hF ub ⊢
          simp at hF ub ⊢
          rw [hours_one F _ n (by omega)]
          split <;> omega
        · rw [e2] at hF ub ⊢
          simp only [Int.reduceLT, if_true] at hF ub ⊢
          rw [hours_two]
          omega
      · rw [rused_in F h n x r hg (by omega)]
        unfold upto at hF ub hh
        rw [if_neg (by omega)] at hF ub hh
        rcases (show x.ha = 0 ∨ x.ha = 1 ∨ x.ha = 2 by omega) with e2 | e2 | e2
        · rw [e2] at hF; simp at hF; omega
        · rw [e2] at hF ub hh ⊢
          simp at hF ub hh ⊢
          rw [hours_one F _ n (by omega)]
          split <;> omega
        · rw [e2] at hF ub hh ⊢
          simp only [Int.reduceLT, if_true] at hF ub hh ⊢
          rw [hours_two]
          omega
    · rename_i hF
      cases r with
      | nil => simp [expF] at he
      | cons y r =>
        rcases k2 with ⟨k3, k4⟩ | ⟨_, k4⟩
        · obtain ⟨j1, j2, j3, j4⟩ := expF_some y r _ _ v hg.2.2 k3 k4 (by rw [← he]; congr 1; omega)
          have hy := hg.2.1 y rfl
          refine ⟨by omega, j2, ?_, fun h hh => ?_⟩
          · rw [rused_past F v n x _ (by omega), k1]
            exact j3
          · rcases Int.le_total h x.to with h5 | h5
            · rw [rused_in F h n x _ hg h5]
              have := hours_mono F x.ha d (h - x.fr).toNat (x.to - x.fr).toNat n (by omega)
              omega
            · rw [rused_past F h n x _ h5, k1]
              exact j4 h hh
        · omega

/-- The reference's search. -/
def rexp (F : Int) (xs : List Str) : Nat → Int → Option Int
  | 0, _ => none
  | c + 1, h => if F ≤ rused F h xs 0 then some h else rexp F xs c (h + 1)
theorem rexp_none {F : Int} {xs : List Str} (hn : ∀ h, rused F h xs 0 < F) : ∀ (c : Nat) (h : Int), rexp F xs c h = none
  | 0, _ => rfl
  | c + 1, h => by rw [rexp, if_neg (by have := hn h; omega)]; exact rexp_none hn c _
theorem rexp_some {F : Int} {xs : List Str} {v : Int} (h1 : F ≤ rused F v xs 0) (h2 : ∀ h, h < v → rused F h xs 0 < F) : ∀ (c : Nat) (h : Int), h ≤ v → v < h + c → rexp F xs c h = some v
  | 0, h, _, _ => by omega
  | c + 1, h, h3, h4 => by
    rw [rexp]
    by_cases e : h = v
    · subst e; rw [if_pos h1]
    · rw [if_neg (by have := h2 h (by omega); omega)]
      exact rexp_some h1 h2 c _ (by omega) (by omega)
theorem rexp_exp {F : Int} (hF : 0 ≤ F) (x : Str) (r : List Str) (hg : Good (x :: r)) : rexp F (x :: r) (lastOf x r - x.fr + 1).toNat x.fr = expF F F 0 (x :: r) := by
  have hlast := good_last x r hg
  obtain ⟨a, b, c, d, e⟩ := hg.1
  rcases Int.lt_or_eq_of_le hF with h0 | h0
  · cases he : expF F F 0 (x :: r) with
    | none => exact rexp_none (expF_none (x :: r) F 0 hg h0 (by omega) he) _ _
    | some v =>
      obtain ⟨j1, j2, j3, j4⟩ := expF_some x r F 0 v hg h0 (by omega) he
      exact rexp_some j3 j4 _ _ j1 (by omega)
  · subst h0
    obtain ⟨m, hm⟩ : ∃ m, (lastOf x r - x.fr + 1).toNat = m + 1 := ⟨(lastOf x r - x.fr).toNat, by omega⟩
    have e1 : upto 0 (x.to - x.fr) x.ha = 0 := by simp [upto]
    rw [hm, rexp, rused_in 0 x.fr 0 x r hg (by omega)]
    have e2 : (x.fr - x.fr).toNat = 0 := by omega
    rw [e2, hours, if_pos (Int.le_refl _), expF, e1, if_pos (by omega)]
    simp
end Go.Proofs.Ytlicmhgpldmliaa
