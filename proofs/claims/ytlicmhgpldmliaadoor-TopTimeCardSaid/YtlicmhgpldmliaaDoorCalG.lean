/- Plain law: how many days are worked on, counted by weeks and by days. No condition. -/
import Derived.Test.YtlicmhgpldmliaaDoorCal
namespace Go.Proofs.YtlicmhgpldmliaaDoor.cal
open Go.Proofs.YtlicmhgpldmliaaDoor.kit
set_option linter.unusedVariables false

/-- The weeks' part: of the first i weekdays. -/
def wkF (f : Int → Bool) (day : Int) : Nat → Int
  | 0 => 0
  | i + 1 => wkF f day i + (if f i then 0 else (day + 6 - i) / 7)
/-- The holidays' part. -/
def hsF (f : Int → Bool) (day : Int) : List Int → Int
  | [] => 0
  | x :: xs => (if x < day then (if f (x % 7) then 0 else 1) else 0) + hsF f day xs
def upToF (f : Int → Bool) (xs : List Int) (day : Int) : Int := wkF f day 7 - hsF f day xs
theorem wk_bd (f : Int → Bool) (day : Int) (h : 0 ≤ day ∧ day ≤ 1048577) : ∀ i : Nat, i ≤ 7 → 0 ≤ wkF f day i ∧ wkF f day i ≤ i * 150000
  | 0, _ => by simp [wkF]
  | i + 1, hi => by
    have := wk_bd f day h i (by omega)
    rw [wkF]
    split <;> omega
theorem hs_bd (f : Int → Bool) (day : Int) : ∀ xs : List Int, 0 ≤ hsF f day xs ∧ hsF f day xs ≤ xs.length
  | [] => by simp [hsF]
  | x :: xs => by
    have := hs_bd f day xs
    rw [hsF, List.length_cons]
    split <;> (try split) <;> omega
theorem hs_none (f : Int → Bool) (day : Int) : ∀ xs : List Int, (∀ x ∈ xs, day ≤ x) → hsF f day xs = 0
  | [], _ => rfl
  | x :: xs, h => by
    rw [hsF, if_neg (by have := h x (by simp); omega), hs_none f day xs (fun y hy => h y (by simp [hy]))]; rfl
theorem hs_step {f : Int → Bool} {day : Int} {k : Nat} {xs : List Int} {x : Int} (hx : xs[k]? = some x) : hsF f day (xs.drop k) = (if x < day then (if f (x % 7) then 0 else 1) else 0) + hsF f day (xs.drop (k + 1)) := by
  obtain ⟨hk, hx⟩ := List.getElem?_eq_some_iff.1 hx
  rw [List.drop_eq_getElem_cons hk, hx, hsF]
theorem quo_step (k i : Int) (h0 : 0 ≤ k) (h1 : 0 ≤ i) (h2 : i ≤ 6) : (k + 1 + 6 - i) / 7 = (k + 6 - i) / 7 + (if k % 7 = i then 1 else 0) := by
  split <;> omega
theorem wk_part (f : Int → Bool) (k : Nat) : ∀ n : Nat, n ≤ 7 → wkF f ((k : Int) + 1) n = wkF f k n + (if (k : Int) % 7 < n then (if f ((k : Int) % 7) then 0 else 1) else 0)
  | 0, _ => by
    rw [wkF, wkF, if_neg (show ¬ (k : Int) % 7 < ((0 : Nat) : Int) by omega)]; rfl
  | n + 1, hn => by
    rw [wkF, wkF, wk_part f k n (by omega), quo_step k n (by omega) (by omega) (by omega)]
    by_cases e : (k : Int) % 7 = n
    · rw [if_neg (show ¬ (k : Int) % 7 < (n : Int) by omega), if_pos e, if_pos (show (k : Int) % 7 < ((n + 1 : Nat) : Int) by omega), e]
      cases f (n : Int) <;> simp <;> omega
    · by_cases l : (k : Int) % 7 < n
      · rw [if_pos l, if_neg e, if_pos (show (k : Int) % 7 < ((n + 1 : Nat) : Int) by omega)]
        cases f (n : Int) <;> simp <;> omega
      · rw [if_neg l, if_neg e, if_neg (show ¬ (k : Int) % 7 < ((n + 1 : Nat) : Int) by omega)]
        cases f (n : Int) <;> simp
theorem wk_succ (f : Int → Bool) (k : Nat) : wkF f ((k : Int) + 1) 7 = wkF f k 7 + (if f ((k : Int) % 7) then 0 else 1) := by
  rw [wk_part f k 7 (by omega), if_pos (show (k : Int) % 7 < ((7 : Nat) : Int) by omega)]
theorem hs_succ (f : Int → Bool) (k : Int) : ∀ {xs : List Int}, xs.Pairwise (· < ·) → hsF f (k + 1) xs = hsF f k xs + (if has xs k = true ∧ f (k % 7) = false then 1 else 0)
  | [], _ => by simp [hsF, has]
  | x :: xs, h => by
    obtain ⟨h1, h2⟩ := List.pairwise_cons.1 h
    rw [hsF, hsF]
    by_cases e : x = k
    · subst e
      have hz : hsF f (x + 1) xs = 0 := hs_none f _ xs (fun y hy => by have := h1 y hy; omega)
      have hz' : hsF f x xs = 0 := hs_none f _ xs (fun y hy => by have := h1 y hy; omega)
      have hh : has (x :: xs) x = true := by rw [has_iff]; simp
      rw [hz, hz', if_pos (show x < x + 1 by omega), if_neg (show ¬ x < x by omega), hh]
      cases f (x % 7) <;> simp
    · have hh : has (x :: xs) k = has xs k := by
        rw [Bool.eq_iff_iff, has_iff, has_iff, List.mem_cons]
        constructor
        · rintro (h | h)
          · exact absurd h.symm e
          · exact h
        · exact .inr
      rw [hs_succ f k h2, hh]
      by_cases hl : x < k
      · rw [if_pos (show x < k + 1 by omega), if_pos hl]; omega
      · rw [if_neg (show ¬ x < k + 1 by omega), if_neg hl]; omega
/-- Counted by weeks and holidays, and day by day: the same. -/
theorem upTo_cnt {c : Cal} {f : Int → Bool} {xs : List Int} (hs : xs.Pairwise (· < ·)) (hp : ∀ x ∈ xs, 0 ≤ x) (hi : ∀ d, (f (d % 7) || has xs d) = restB c d) : ∀ k : Nat, upToF f xs k = cntF c 0 k
  | 0 => by
    have h0 := hs_none f 0 xs hp
    unfold upToF
    rw [show ((0 : Nat) : Int) = 0 from rfl, h0]
    simp [wkF, cntF]
  | k + 1 => by
    have ih := upTo_cnt hs hp hi k
    unfold upToF at *
    have e : ((k + 1 : Nat) : Int) = (k : Int) + 1 := by omega
    rw [e, wk_succ, hs_succ f k hs, cntF, ← ih, Int.zero_add, ← hi k]
    cases f ((k : Int) % 7) <;> cases has xs (k : Int) <;> simp <;> omega
theorem cnt_split (c : Cal) (a : Int) (i : Nat) : ∀ j : Nat, cntF c a (i + j) = cntF c a i + cntF c (a + i) j
  | 0 => by simp [cntF]
  | j + 1 => by
    rw [← Nat.add_assoc, cntF, cntF, cnt_split c a i j]
    have : a + ((i + j : Nat) : Int) = a + (i : Int) + (j : Int) := by omega
    rw [this]; omega
theorem cnt_bd (c : Cal) (a : Int) : ∀ k : Nat, 0 ≤ cntF c a k ∧ cntF c a k ≤ k
  | 0 => by simp [cntF]
  | k + 1 => by
    have := cnt_bd c a k
    rw [cntF]
    split <;> omega
def betweenV (c : Cal) (a b : Int) : Int := cntF c (max a 0) (min b 1048577 - max a 0).toNat
end Go.Proofs.YtlicmhgpldmliaaDoor.cal
