/- The plain laws of a cut: right stretches that are cut use the same, and are right. No condition. -/
import Derived.Test.YtlicmhgpldmliaaPlain2
import Derived.Test.YtlicmhgpldmliaaCut
namespace Go.Proofs.Ytlicmhgpldmliaa
open Go.Proofs.Ytlicmhgpldmliaa.kit
set_option linter.unusedVariables false

theorem cutA_cons (at_ : Int) (x : Str) (r : List Str) : cutA at_ (x :: r) = pieceA at_ x ++ cutA at_ r := by simp [cutA]
theorem cutB_cons (at_ : Int) (x : Str) (r : List Str) : cutB at_ (x :: r) = pieceB at_ x ++ cutB at_ r := by simp [cutB]
theorem cutA_right (at_ : Int) : ∀ (xs : List Str), (∀ x ∈ xs, x.right) → ∀ y ∈ cutA at_ xs, y.right
  | [], _, y, hy => by simp [cutA] at hy
  | x :: r, h, y, hy => by
    rw [cutA_cons] at hy
    rcases List.mem_append.1 hy with hy | hy
    · obtain ⟨a, b, c, d, e⟩ := h x (by simp)
      unfold pieceA at hy
      split at hy
      · rename_i h1
        simp at hy; subst hy
        exact ⟨a, h1.1, by simp only; omega, d, e⟩
      · split at hy
        · simp at hy; subst hy; exact ⟨a, b, c, d, e⟩
        · simp at hy
    · exact cutA_right at_ r (fun z hz => h z (by simp [hz])) y hy

/-- What the hours ahead use. -/
theorem rused_cut {F : Int} (at_ : Int) : ∀ (xs : List Str) (left n : Int), (∀ x ∈ xs, x.right) → At F left n → rused F at_ xs n = n + usesF left (cutA at_ xs)
  | [], left, n, _, _ => by simp [rused, cutA, usesF]
  | x :: r, left, n, hx, h => by
    obtain ⟨a, b, c, d, e⟩ := hx x (by simp)
    have hr : ∀ y ∈ r, y.right := fun y hy => hx y (by simp [hy])
    rw [rused, cutA_cons]
    unfold pieceA
    by_cases h1 : x.fr < at_ ∧ at_ < x.to
    · rw [if_pos h1]
      have hc : ((min x.to at_ - x.fr).toNat : Int) = at_ - x.fr := by omega
      obtain ⟨k1, k2⟩ := hours_upto h (min x.to at_ - x.fr).toNat x.ha d e
      rw [k1, rused_cut at_ r _ _ hr k2, List.singleton_append, usesF, hc]
      simp only
      omega
    · rw [if_neg h1]
      by_cases h2 : x.fr < at_
      · rw [if_pos h2]
        have hc : ((min x.to at_ - x.fr).toNat : Int) = x.to - x.fr := by omega
        obtain ⟨k1, k2⟩ := hours_upto h (min x.to at_ - x.fr).toNat x.ha d e
        rw [k1, rused_cut at_ r _ _ hr k2, List.singleton_append, usesF, hc]
        omega
      · rw [if_neg h2]
        have hc : (min x.to at_ - x.fr).toNat = 0 := by omega
        rw [hc, hours, rused_cut at_ r _ _ hr h, List.nil_append]

theorem hours_le {F ha : Int} (h2 : ha ≤ 2) : ∀ (c : Nat) (n m : Int), n ≤ m → hours F ha c n ≤ hours F ha c m
  | 0, n, m, h => h
  | c + 1, n, m, h => by
    rw [hours, hours]
    exact hours_le h2 c _ _ (by split <;> split <;> omega)
theorem rused_le {F : Int} (h top : Int) (hht : h ≤ top) : ∀ (xs : List Str) (n m : Int), (∀ x ∈ xs, x.right) → n ≤ m → rused F h xs n ≤ rused F top xs m
  | [], n, m, _, hnm => hnm
  | x :: r, n, m, hx, hnm => by
    obtain ⟨a, b, c, d, e⟩ := hx x (by simp)
    rw [rused, rused]
    refine rused_le h top hht r _ _ (fun y hy => hx y (by simp [hy])) ?_
    exact Int.le_trans (hours_mono F x.ha d _ _ n (by omega)) (hours_le e _ n m hnm)
theorem usesF_cut {F : Int} (hF : 0 ≤ F) (at_ : Int) (xs : List Str) (hx : ∀ x ∈ xs, x.right) : usesF F (cutA at_ xs) = rused F at_ xs 0 ∧ 0 ≤ usesF F (cutA at_ xs) ∧ usesF F (cutA at_ xs) ≤ usesF F xs := by
  have h1 := rused_cut at_ xs F 0 hx (at_start hF)
  have h2 := rused_uses 1048576 xs F 0 (fun x h => ⟨hx x h, (hx x h).2.2.1⟩) (at_start hF)
  have h3 : rused F at_ xs 0 ≤ rused F (max at_ 1048576) xs 0 := rused_le at_ (max at_ 1048576) (by omega) xs 0 0 hx (Int.le_refl _)
  have h4 := rused_uses (max at_ 1048576) xs F 0 (fun x h => ⟨hx x h, by have := (hx x h).2.2.1; omega⟩) (at_start hF)
  have h5 := usesF_bd (cutA at_ xs) F (cutA_right at_ xs hx)
  refine ⟨by omega, h5, by omega⟩

/-! ### put together again -/
theorem cut_behind (at_ : Int) : ∀ (xs : List Str), Good xs → (∀ x, xs.head? = some x → at_ ≤ x.fr) → cutA at_ xs = [] ∧ cutB at_ xs = xs
  | [], _, _ => ⟨rfl, rfl⟩
  | x :: r, hg, hh => by
    have h1 := hh x rfl
    obtain ⟨a, b, c, d, e⟩ := hg.1
    obtain ⟨k1, k2⟩ := cut_behind at_ r hg.2.2 (fun y hy => by have := hg.2.1 y hy; omega)
    rw [cutA_cons, cutB_cons, k1, k2]
    unfold pieceA pieceB
    rw [if_neg (by omega), if_neg (by omega), if_neg (by omega), if_neg (by omega)]
    exact ⟨rfl, rfl⟩
def joined (at_ : Int) (xs : List Str) : List Str := cutA at_ xs ++ cutB at_ xs
theorem joined_cons (at_ : Int) (x : Str) (r : List Str) (hg : Good (x :: r)) :
    joined at_ (x :: r) = if x.fr < at_ ∧ at_ < x.to then ⟨x.fr, at_, x.ha⟩ :: ⟨at_, x.to, x.ha⟩ :: r else if x.fr < at_ then x :: joined at_ r else x :: r := by
  obtain ⟨a, b, c, d, e⟩ := hg.1
  unfold joined
  rw [cutA_cons, cutB_cons]
  unfold pieceA pieceB
  by_cases h1 : x.fr < at_ ∧ at_ < x.to
  · obtain ⟨k1, k2⟩ := cut_behind at_ r hg.2.2 (fun y hy => by have := hg.2.1 y hy; omega)
    rw [if_pos h1, if_pos h1, if_pos h1, k1, k2]
    rfl
  · rw [if_neg h1, if_neg h1, if_neg h1]
    by_cases h2 : x.fr < at_
    · rw [if_pos h2, if_pos h2, if_pos h2]
      rfl
    · obtain ⟨k1, k2⟩ := cut_behind at_ r hg.2.2 (fun y hy => by have := hg.2.1 y hy; omega)
      rw [if_neg h2, if_neg h2, if_neg h2, k1, k2]
      rfl
theorem joined_good (at_ : Int) : ∀ (xs : List Str), Good xs → Good (joined at_ xs) ∧ (joined at_ xs).head?.map Str.fr = xs.head?.map Str.fr ∧ (joined at_ xs).length ≤ xs.length + 1
  | [], _ => ⟨trivial, rfl, by simp [joined, cutA, cutB]⟩
  | x :: r, hg => by
    obtain ⟨a, b, c, d, e⟩ := hg.1
    rw [joined_cons at_ x r hg]
    by_cases h1 : x.fr < at_ ∧ at_ < x.to
    · rw [if_pos h1]
      refine ⟨⟨⟨a, h1.1, by simp only; omega, d, e⟩, fun y hy => ?_, ⟨by simp only; omega, h1.2, c, d, e⟩, hg.2.1, hg.2.2⟩, rfl, by simp⟩
      simp at hy; subst hy; rfl
    · rw [if_neg h1]
      by_cases h2 : x.fr < at_
      · rw [if_pos h2]
        obtain ⟨k1, k2, k3⟩ := joined_good at_ r hg.2.2
        refine ⟨⟨hg.1, fun y hy => ?_, k1⟩, rfl, by simp; omega⟩
        rw [hy] at k2
        cases hr : r.head? with
        | none => rw [hr] at k2; cases k2
        | some z =>
          rw [hr] at k2
          have := hg.2.1 z hr
          simp at k2
          omega
      · rw [if_neg h2]
        exact ⟨hg, rfl, by simp⟩
theorem chk_good : ∀ (xs : List Str) (i : Nat) (p : Int), Good xs → (0 < i → ∀ x, xs.head? = some x → x.fr = p) → i + xs.length ≤ 4096 → chk i p xs = ((i : Int) + xs.length, 0)
  | [], i, p, _, _, _ => by simp [chk]
  | x :: r, i, p, hg, hp, hl => by
    obtain ⟨a, b, c, d, e⟩ := hg.1
    have hb : ¬ x.bad = true := by simp [Str.bad]; omega
    simp only [List.length_cons] at hl
    rw [chk, if_neg (by omega), if_neg hb, if_neg (fun h => h.2 (hp h.1 x rfl)), chk_good r (i + 1) x.to hg.2.2 (fun _ y hy => hg.2.1 y hy) (by omega)]
    simp; omega
theorem hours_add (F ha : Int) : ∀ (a b : Nat) (n : Int), hours F ha (a + b) n = hours F ha b (hours F ha a n)
  | 0, b, n => by rw [Nat.zero_add]; rfl
  | a + 1, b, n => by rw [Nat.succ_add, hours, hours, hours_add F ha a b]
theorem rused_joined (F at_ : Int) : ∀ (xs : List Str) (n : Int), Good xs → rused F 1048576 (joined at_ xs) n = rused F 1048576 xs n
  | [], n, _ => rfl
  | x :: r, n, hg => by
    obtain ⟨a, b, c, d, e⟩ := hg.1
    rw [joined_cons at_ x r hg]
    by_cases h1 : x.fr < at_ ∧ at_ < x.to
    · rw [if_pos h1, rused, rused, rused, ← hours_add]
      congr 2
      simp only
      omega
    · rw [if_neg h1]
      by_cases h2 : x.fr < at_
      · rw [if_pos h2, rused, rused, rused_joined F at_ r _ hg.2.2]
      · rw [if_neg h2]
theorem good_right : ∀ (xs : List Str), Good xs → ∀ x ∈ xs, x.right
  | [], _, x, hx => by simp at hx
  | y :: r, hg, x, hx => by
    rcases List.mem_cons.1 hx with rfl | hx
    · exact hg.1
    · exact good_right r hg.2.2 x hx
theorem usesF_joined {F : Int} (hF : 0 ≤ F) (at_ : Int) (xs : List Str) (hg : Good xs) : usesF F (joined at_ xs) = usesF F xs := by
  have h1 := rused_uses 1048576 xs F 0 (fun x h => ⟨good_right xs hg x h, (good_right xs hg x h).2.2.1⟩) (at_start hF)
  have hj := (joined_good at_ xs hg).1
  have h2 := rused_uses 1048576 (joined at_ xs) F 0 (fun x h => ⟨good_right _ hj x h, (good_right _ hj x h).2.2.1⟩) (at_start hF)
  have h3 := rused_joined F at_ xs 0 hg
  omega
end Go.Proofs.Ytlicmhgpldmliaa
