/- A mark with two neighbours changed about, or with one sign changed, in plain words. No condition. -/
import Derived.Test.YtjemmddgeejffaaDoorMkF
namespace Go.Proofs.YtjemmddgeejffaaDoor.kit
open Go.RowKit Go.PlainAid
set_option linter.unusedVariables false

theorem sum10 (s : ByteArray) : sumN s 10 = (bt s 0 - 96) + 2 * (bt s 1 - 96) + 3 * (bt s 2 - 96) + 4 * (bt s 3 - 96) + 5 * (bt s 4 - 48) + 6 * (bt s 5 - 48) + 7 * (bt s 6 - 48) + 8 * (bt s 7 - 48) + 9 * (bt s 8 - 48) + 10 * (bt s 9 - 48) := by
  rw [sumN_succ, sumN_succ, sumN_succ, sumN_succ, sumN_succ, sumN_succ, sumN_succ, sumN_succ, sumN_succ, sumN_succ]
  simp only [sumN, vAt]
  simp
  omega
structure RightF (s : ByteArray) : Prop where
  size : s.size = 12
  l0 : 97 ≤ bt s 0 ∧ bt s 0 ≤ 122
  l1 : 97 ≤ bt s 1 ∧ bt s 1 ≤ 122
  l2 : 97 ≤ bt s 2 ∧ bt s 2 ≤ 122
  l3 : 97 ≤ bt s 3 ∧ bt s 3 ≤ 122
  d4 : 48 ≤ bt s 4 ∧ bt s 4 ≤ 57
  d5 : 48 ≤ bt s 5 ∧ bt s 5 ≤ 57
  d6 : 48 ≤ bt s 6 ∧ bt s 6 ≤ 57
  d7 : 48 ≤ bt s 7 ∧ bt s 7 ≤ 57
  d8 : 48 ≤ bt s 8 ∧ bt s 8 ≤ 57
  d9 : 48 ≤ bt s 9 ∧ bt s 9 ≤ 57
  d10 : 48 ≤ bt s 10 ∧ bt s 10 ≤ 57
  d11 : 48 ≤ bt s 11 ∧ bt s 11 ≤ 57
  sum : ((bt s 0 - 96) + 2 * (bt s 1 - 96) + 3 * (bt s 2 - 96) + 4 * (bt s 3 - 96) + 5 * (bt s 4 - 48) + 6 * (bt s 5 - 48) + 7 * (bt s 6 - 48) + 8 * (bt s 7 - 48) + 9 * (bt s 8 - 48) + 10 * (bt s 9 - 48)) % 97 = 10 * (bt s 10 - 48) + (bt s 11 - 48)
theorem right_f {s : ByteArray} (h : rightB s = true) : RightF s := by
  unfold rightB at h
  simp only [Bool.and_eq_true, decide_eq_true_eq] at h
  obtain ⟨h12, hh, h10, h11, hs⟩ := h
  have g : ∀ i, i < 4 → 97 ≤ bt s i ∧ bt s i ≤ 122 := fun i hi => by
    have := headF_at hh i (by omega)
    unfold okAt at this
    rw [if_pos hi] at this
    exact letB_iff.1 this
  have d : ∀ i, 4 ≤ i → i < 10 → 48 ≤ bt s i ∧ bt s i ≤ 57 := fun i hi h => by
    have := headF_at hh i (by omega)
    unfold okAt at this
    rw [if_neg (by omega)] at this
    exact digB_iff.1 this
  rw [sum10] at hs
  exact ⟨h12, g 0 (by omega), g 1 (by omega), g 2 (by omega), g 3 (by omega), d 4 (by omega) (by omega), d 5 (by omega) (by omega), d 6 (by omega) (by omega), d 7 (by omega) (by omega), d 8 (by omega) (by omega), d 9 (by omega) (by omega), digB_iff.1 h10, digB_iff.1 h11, hs⟩
/-- Two neighbours changed about. -/
def swapV (s : ByteArray) (k : Nat) : ByteArray := s.extract 0 k ++ (⟨#[UInt8.ofNat (bt s (k + 1)).toNat, UInt8.ofNat (bt s k).toNat]⟩ : ByteArray) ++ s.extract (k + 2) s.size
theorem bt_two (c d : Int) (hc : 0 ≤ c ∧ c ≤ 255) (hd : 0 ≤ d ∧ d ≤ 255) : bt ⟨#[UInt8.ofNat c.toNat, UInt8.ofNat d.toNat]⟩ 0 = c ∧ bt ⟨#[UInt8.ofNat c.toNat, UInt8.ofNat d.toNat]⟩ 1 = d := by
  rw [bt_list, bt_list]
  simp
  omega
theorem bt_one (c : Int) (hc : 0 ≤ c ∧ c ≤ 255) : bt ⟨#[UInt8.ofNat c.toNat]⟩ 0 = c := by
  rw [bt_list]
  simp
  omega
section
variable {s : ByteArray} {k : Nat}
theorem swap_size (hz : s.size = 12) (hk : k ≤ 10) : (swapV s k).size = 12 := by
  unfold swapV
  rw [size_app, size_app, ByteArray.size_extract, ByteArray.size_extract]
  show _ + 2 + _ = 12
  omega
theorem swap_bt (hz : s.size = 12) (hk : k ≤ 10) (i : Nat) (hi : i < 12) : bt (swapV s k) i = bt s (if i = k then k + 1 else if i = k + 1 then k else i) := by
  have z1 : (s.extract 0 k).size = k := by rw [ByteArray.size_extract]; omega
  have z2 : (⟨#[UInt8.ofNat (bt s (k + 1)).toNat, UInt8.ofNat (bt s k).toNat]⟩ : ByteArray).size = 2 := rfl
  have h2 := bt_two (bt s (k + 1)) (bt s k) ⟨bt_nonneg _ _, bt_le _ _⟩ ⟨bt_nonneg _ _, bt_le _ _⟩
  unfold swapV
  rw [bt_app, size_app, z1, z2]
  by_cases h1 : i < k + 2
  · rw [if_pos h1, bt_app, z1]
    by_cases h3 : i < k
    · rw [if_pos h3, bt_ext _ _ _ _ (by omega) (by omega), if_neg (by omega), if_neg (by omega), Nat.zero_add]
    · rw [if_neg h3]
      by_cases h4 : i = k
      · rw [if_pos h4, h4, Nat.sub_self]; exact h2.1
      · rw [if_neg h4, if_pos (by omega), show i - k = 1 by omega]; exact h2.2
  · rw [if_neg h1, bt_ext _ _ _ _ (by omega) (by omega), if_neg (by omega), if_neg (by omega)]
    congr 1
    omega
theorem swap_same (hz : s.size = 12) (hk : k ≤ 10) : swapV s k = s ↔ bt s k = bt s (k + 1) := by
  constructor
  · intro h
    have := swap_bt hz hk k (by omega)
    rw [h, if_pos rfl] at this
    exact this
  · intro h
    refine bt_inj (by rw [swap_size hz hk, hz]) (fun i hi => ?_)
    rw [swap_size hz hk] at hi
    rw [swap_bt hz hk i hi]
    by_cases h1 : i = k
    · rw [if_pos h1, h1, h]
    · rw [if_neg h1]
      by_cases h2 : i = k + 1
      · rw [if_pos h2, h2, h]
      · rw [if_neg h2]
set_option maxHeartbeats 3200000 in
theorem swap_right (hr : rightB s = true) (hk : k ≤ 10) : rightB (swapV s k) = decide (s = swapV s k) := by
  have F := right_f hr
  have hz := F.size
  by_cases he : swapV s k = s
  · rw [he, hr]; simp
  · have hne : ¬ bt s k = bt s (k + 1) := fun h => he ((swap_same hz hk).2 h)
    have hne2 : ¬ s = swapV s k := fun h => he h.symm
    rw [decide_eq_false hne2]
    cases e : rightB (swapV s k)
    · rfl
    · exfalso
      have G := right_f e
      have b := fun i (hi : i < 12) => swap_bt hz hk i hi
      obtain ⟨_, f0, f1, f2, f3, f4, f5, f6, f7, f8, f9, f10, f11, fs⟩ := F
      obtain ⟨_, g0, g1, g2, g3, g4, g5, g6, g7, g8, g9, g10, g11, gs⟩ := G
      rw [b 0 (by omega)] at g0 gs
      rw [b 1 (by omega)] at g1 gs
      rw [b 2 (by omega)] at g2 gs
      rw [b 3 (by omega)] at g3 gs
      rw [b 4 (by omega)] at g4 gs
      rw [b 5 (by omega)] at g5 gs
      rw [b 6 (by omega)] at g6 gs
      rw [b 7 (by omega)] at g7 gs
      rw [b 8 (by omega)] at g8 gs
      rw [b 9 (by omega)] at g9 gs
      rw [b 10 (by omega)] at g10 gs
      rw [b 11 (by omega)] at g11 gs
      clear b
      have hk' : k = 0 ∨ k = 1 ∨ k = 2 ∨ k = 3 ∨ k = 4 ∨ k = 5 ∨ k = 6 ∨ k = 7 ∨ k = 8 ∨ k = 9 ∨ k = 10 := by omega
      rcases hk' with rfl | rfl | rfl | rfl | rfl | rfl | rfl | rfl | rfl | rfl | rfl <;>
        simp at g0 g1 g2 g3 g4 g5 g6 g7 g8 g9 g10 g11 gs hne <;> omega
/-- One sign changed. -/
def oneV (s : ByteArray) (k : Nat) (x : Int) : ByteArray := s.extract 0 k ++ (⟨#[UInt8.ofNat x.toNat]⟩ : ByteArray) ++ s.extract (k + 1) s.size
theorem one_size {x : Int} (hz : s.size = 12) (hk : k ≤ 11) : (oneV s k x).size = 12 := by
  unfold oneV
  rw [size_app, size_app, ByteArray.size_extract, ByteArray.size_extract]
  show _ + 1 + _ = 12
  omega
theorem one_bt {x : Int} (hx : 0 ≤ x ∧ x ≤ 255) (hz : s.size = 12) (hk : k ≤ 11) (i : Nat) (hi : i < 12) : bt (oneV s k x) i = if i = k then x else bt s i := by
  have z1 : (s.extract 0 k).size = k := by rw [ByteArray.size_extract]; omega
  have z2 : (⟨#[UInt8.ofNat x.toNat]⟩ : ByteArray).size = 1 := rfl
  unfold oneV
  rw [bt_app, size_app, z1, z2]
  by_cases h1 : i < k + 1
  · rw [if_pos h1, bt_app, z1]
    by_cases h3 : i < k
    · rw [if_pos h3, bt_ext _ _ _ _ (by omega) (by omega), if_neg (by omega), Nat.zero_add]
    · rw [if_neg h3, if_pos (by omega), show i - k = 0 by omega]; exact bt_one x hx
  · rw [if_neg h1, bt_ext _ _ _ _ (by omega) (by omega), if_neg (by omega)]
    congr 1
    omega
set_option maxHeartbeats 3200000 in
theorem one_wrong {x : Int} (hr : rightB s = true) (hx : 0 ≤ x ∧ x ≤ 255) (hk : k ≤ 11) (hne : ¬ bt s k = x) : rightB (oneV s k x) = false := by
  have F := right_f hr
  have hz := F.size
  cases e : rightB (oneV s k x)
  · rfl
  · exfalso
    have G := right_f e
    have b := fun i (hi : i < 12) => one_bt hx hz hk i hi
    obtain ⟨_, f0, f1, f2, f3, f4, f5, f6, f7, f8, f9, f10, f11, fs⟩ := F
    obtain ⟨_, g0, g1, g2, g3, g4, g5, g6, g7, g8, g9, g10, g11, gs⟩ := G
    rw [b 0 (by omega)] at g0 gs
    rw [b 1 (by omega)] at g1 gs
    rw [b 2 (by omega)] at g2 gs
    rw [b 3 (by omega)] at g3 gs
    rw [b 4 (by omega)] at g4 gs
    rw [b 5 (by omega)] at g5 gs
    rw [b 6 (by omega)] at g6 gs
    rw [b 7 (by omega)] at g7 gs
    rw [b 8 (by omega)] at g8 gs
    rw [b 9 (by omega)] at g9 gs
    rw [b 10 (by omega)] at g10 gs
    rw [b 11 (by omega)] at g11 gs
    clear b
    have hk' : k = 0 ∨ k = 1 ∨ k = 2 ∨ k = 3 ∨ k = 4 ∨ k = 5 ∨ k = 6 ∨ k = 7 ∨ k = 8 ∨ k = 9 ∨ k = 10 ∨ k = 11 := by omega
    rcases hk' with rfl | rfl | rfl | rfl | rfl | rfl | rfl | rfl | rfl | rfl | rfl | rfl <;>
      simp at g0 g1 g2 g3 g4 g5 g6 g7 g8 g9 g10 g11 gs hne <;> omega
end
end Go.Proofs.YtjemmddgeejffaaDoor.kit
