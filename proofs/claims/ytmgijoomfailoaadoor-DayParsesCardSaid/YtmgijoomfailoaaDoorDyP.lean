/- The day of a text, in plain words. No condition. -/
import Derived.Test.YtmgijoomfailoaaDoorDyE
namespace Go.Proofs.YtmgijoomfailoaaDoor.cal
open Go.RowKit Go.Proofs.YtmgijoomfailoaaDoor.kit Go.PlainAid
set_option linter.unusedVariables false

def dgF (t : ByteArray) : Nat → Bool
  | 0 => true
  | k + 1 => dgF t k && decide (48 ≤ bt t k ∧ bt t k ≤ 57)
def vF (t : ByteArray) : Nat → Int
  | 0 => 0
  | k + 1 => vF t k * 10 + (bt t k - 48)
theorem dgF_at {t : ByteArray} : ∀ {k : Nat}, dgF t k = true → ∀ i, i < k → 48 ≤ bt t i ∧ bt t i ≤ 57
  | 0, _, i, h => by omega
  | k + 1, h, i, hi => by
    simp only [dgF, Bool.and_eq_true, decide_eq_true_eq] at h
    rcases Nat.lt_or_ge i k with h1 | h1
    · exact dgF_at h.1 i h1
    · have : i = k := by omega
      subst this; exact h.2
theorem dgF_bad {t : ByteArray} {k n : Nat} (hk : k < n) (h : ¬ (48 ≤ bt t k ∧ bt t k ≤ 57)) : dgF t n = false := by
  cases e : dgF t n
  · rfl
  · exact absurd (dgF_at e k hk) h
theorem dgF_all {t : ByteArray} : ∀ {k : Nat}, (∀ i, i < k → 48 ≤ bt t i ∧ bt t i ≤ 57) → dgF t k = true
  | 0, _ => rfl
  | k + 1, h => by
    simp only [dgF, Bool.and_eq_true, decide_eq_true_eq]
    exact ⟨dgF_all fun i hi => h i (by omega), h k (by omega)⟩
theorem vF_bd {t : ByteArray} : ∀ {k : Nat}, dgF t k = true → 0 ≤ vF t k ∧ vF t k < ((10 ^ k : Nat) : Int)
  | 0, _ => by simp [vF]
  | k + 1, h => by
    simp only [dgF, Bool.and_eq_true, decide_eq_true_eq] at h
    have ih := vF_bd h.1
    have h1 := h.2
    rw [vF, Nat.pow_succ]
    omega
/-- The digits give the number's text. -/
theorem vF_digs {t : ByteArray} : ∀ {k : Nat}, dgF t k = true → k ≤ t.size → digsW k (vF t k).toNat = t.data.toList.take k
  | 0, _, _ => by simp [digsW]
  | k + 1, h, hk => by
    have h' := h
    simp only [dgF, Bool.and_eq_true, decide_eq_true_eq] at h
    have hb := vF_bd h.1
    have ih := vF_digs h.1 (by omega)
    have hl := len_list t
    have h1 := h.2
    have e : (vF t (k + 1)).toNat = (vF t k).toNat * 10 + (bt t k - 48).toNat := by rw [vF]; omega
    have hlt : k < t.data.toList.length := by omega
    rw [List.take_succ_eq_append_getElem hlt, digsW, e, show ((vF t k).toNat * 10 + (bt t k - 48).toNat) / 10 = (vF t k).toNat by omega, show ((vF t k).toNat * 10 + (bt t k - 48).toNat) % 10 = (bt t k - 48).toNat by omega, ih]
    congr 2
    apply UInt8.toNat_inj.1
    have hbt : bt t k = ((t.data.toList[k]).toNat : Int) := by rw [bt_list, List.getD_eq_getElem?_getD, List.getElem?_eq_getElem hlt]; rfl
    rw [UInt8.toNat_ofNat']
    omega
theorem vF_text {t : ByteArray} {k : Nat} (h : dgF t k = true) (hk : t.size = k) : bstr (digsW k (vF t k).toNat) = t := by
  apply list_inj
  rw [data_bstr, vF_digs h (by omega), List.take_of_length_le (by rw [len_list]; omega)]
theorem digs_dg {k n : Nat} : ∀ j, j ≤ k → dgF (bstr (digsW k n)) j = true := fun j hj => dgF_all fun i hi => by
  rw [bt_digs k n i (by omega)]
  omega
theorem vF_app {s t : ByteArray} : ∀ {k : Nat}, (∀ i, i < k → bt s i = bt t i) → vF s k = vF t k
  | 0, _ => rfl
  | k + 1, h => by rw [vF, vF, vF_app (fun i hi => h i (by omega)), h k (by omega)]
theorem digs_v (k n : Nat) : ∀ j, j ≤ k → vF (bstr (digsW k n)) j = ((n / 10 ^ (k - j) % 10 ^ j : Nat) : Int)
  | 0, _ => by simp [vF, Nat.mod_one]
  | j + 1, hj => by
    rw [vF, digs_v k n j (by omega), bt_digs k n j (by omega)]
    have e1 : k - j = (k - (j + 1)) + 1 := by omega
    have e2 : k - 1 - j = k - (j + 1) := by omega
    rw [e2, e1, Nat.pow_succ, ← Nat.div_div_eq_div_mul, Nat.pow_succ']
    generalize n / 10 ^ (k - (j + 1)) = q
    have h := Nat.mod_mul (x := q) (a := 10) (b := 10 ^ j)
    rw [h]
    generalize 10 ^ j = p
    omega
theorem digs_val {k n : Nat} (h : n < 10 ^ k) : vF (bstr (digsW k n)) k = (n : Int) := by
  rw [digs_v k n k (Nat.le_refl _), Nat.sub_self, Nat.pow_zero, Nat.div_one, Nat.mod_eq_of_lt h]
/-! a day's text -/
def formB (s : ByteArray) : Bool := decide (s.size = 10) && decide (bt s 4 = 45) && decide (bt s 7 = 45) && dgF (s.extract 0 4) 4 && dgF (s.extract 5 7) 2 && dgF (s.extract 8 10) 2
def yS (s : ByteArray) : Nat := (vF (s.extract 0 4) 4).toNat
def mS (s : ByteArray) : Nat := (vF (s.extract 5 7) 2).toNat
def oS (s : ByteArray) : Nat := (vF (s.extract 8 10) 2).toNat
def inB (y m o : Nat) : Bool := decide (2000 ≤ y ∧ 1 ≤ m ∧ m ≤ 12 ∧ 1 ≤ o ∧ o ≤ lenM y m) && decide (dayV y m o ≤ 1048576)
def parseD (s : ByteArray) : Int × Int :=
  if formB s = true then (if inB (yS s) (mS s) (oS s) = true then ((dayV (yS s) (mS s) (oS s) : Int), 0) else (0, 3)) else (0, 2)
theorem form_iff {s : ByteArray} : formB s = true ↔ s.size = 10 ∧ bt s 4 = 45 ∧ bt s 7 = 45 ∧ dgF (s.extract 0 4) 4 = true ∧ dgF (s.extract 5 7) 2 = true ∧ dgF (s.extract 8 10) 2 = true := by
  unfold formB; simp [and_assoc]
theorem textL_len (y m o : Nat) : (bstr (textL y m o)).size = 10 := by rw [size_bstr]; simp [textL, digsW_len]
theorem text_parts (y m o : Nat) : (bstr (textL y m o)).extract 0 4 = bstr (digsW 4 y) ∧ (bstr (textL y m o)).extract 5 7 = bstr (digsW 2 m) ∧ (bstr (textL y m o)).extract 8 10 = bstr (digsW 2 o) := by
  have h4 := digsW_len 4 y
  have h2 := digsW_len 2 m
  have h1 := digsW_len 2 o
  refine ⟨list_inj ?_, list_inj ?_, list_inj ?_⟩
  · rw [Lib.extract_data, data_bstr, data_bstr]
    unfold textL
    rw [List.drop_zero, List.take_left' h4]
  · rw [Lib.extract_data, data_bstr, data_bstr]
    unfold textL
    rw [show digsW 4 y ++ 45 :: (digsW 2 m ++ 45 :: digsW 2 o) = (digsW 4 y ++ [45]) ++ (digsW 2 m ++ 45 :: digsW 2 o) by simp, List.drop_left' (by simp [h4]), List.take_left' (by omega)]
  · rw [Lib.extract_data, data_bstr, data_bstr]
    unfold textL
    rw [show digsW 4 y ++ 45 :: (digsW 2 m ++ 45 :: digsW 2 o) = (digsW 4 y ++ [45] ++ digsW 2 m ++ [45]) ++ digsW 2 o by simp, List.drop_left' (by simp [h4, h2]), List.take_of_length_le (by omega)]
theorem text_dash (y m o : Nat) : bt (bstr (textL y m o)) 4 = 45 ∧ bt (bstr (textL y m o)) 7 = 45 := by
  have h4 := digsW_len 4 y
  have h2 := digsW_len 2 m
  constructor
  · rw [bt_bstr, List.getD_eq_getElem?_getD]
    unfold textL
    rw [List.getElem?_append_right (by omega), h4]
    rfl
  · rw [bt_bstr, List.getD_eq_getElem?_getD]
    unfold textL
    rw [show digsW 4 y ++ 45 :: (digsW 2 m ++ 45 :: digsW 2 o) = (digsW 4 y ++ [45] ++ digsW 2 m) ++ 45 :: digsW 2 o by simp, List.getElem?_append_right (by simp [h4, h2])]
    simp [h4, h2]
/-- A day's text is parsed as that day. -/
theorem parse_text {d y m o : Nat} (h : IsMon d y m o) (hd : d ≤ 1048576) : parseD (bstr (textL y m o)) = ((d : Int), 0) := by
  have hy := h.year hd
  have hm := h.m2
  have ho : o ≤ 31 := by have := h.o2; have := lenM_bd y m; omega
  obtain ⟨p1, p2, p3⟩ := text_parts y m o
  have hf : formB (bstr (textL y m o)) = true := by
    rw [form_iff, p1, p2, p3]
    exact ⟨textL_len _ _ _, (text_dash y m o).1, (text_dash y m o).2, digs_dg _ (by omega), digs_dg _ (by omega), digs_dg _ (by omega)⟩
  have ey : yS (bstr (textL y m o)) = y := by unfold yS; rw [p1, digs_val (by omega)]; omega
  have em : mS (bstr (textL y m o)) = m := by unfold mS; rw [p2, digs_val (by omega)]; omega
  have eo : oS (bstr (textL y m o)) = o := by unfold oS; rw [p3, digs_val (by omega)]; omega
  have hv : dayV y m o = d := by have := h.sum; have := h.o1; unfold dayV; omega
  unfold parseD
  rw [if_pos hf, ey, em, eo, hv, if_pos (by unfold inB; rw [hv, decide_eq_true hd, decide_eq_true ⟨h.y1, h.m1, h.m2, h.o1, h.o2⟩]; rfl)]
set_option maxHeartbeats 1600000 in
/-- What is parsed is that day's text. -/
theorem parse_back {s : ByteArray} {n : Int} (h : parseD s = (n, 0)) : ∃ d y m o, IsMon d y m o ∧ d ≤ 1048576 ∧ n = (d : Int) ∧ bstr (textL y m o) = s := by
  unfold parseD at h
  by_cases hf : formB s = true
  rotate_left
  · rw [if_neg hf] at h; exact absurd (show (2 : Int) = 0 from congrArg Prod.snd h) (by decide)
  rw [if_pos hf] at h
  by_cases hi : inB (yS s) (mS s) (oS s) = true
  rotate_left
  · rw [if_neg hi] at h; exact absurd (show (3 : Int) = 0 from congrArg Prod.snd h) (by decide)
  rw [if_pos hi] at h
  obtain ⟨f1, f2, f3, f4, f5, f6⟩ := form_iff.1 hf
  unfold inB at hi
  simp only [Bool.and_eq_true, decide_eq_true_eq] at hi
  obtain ⟨⟨i1, i2, i3, i4, i5⟩, i6⟩ := hi
  refine ⟨_, yS s, mS s, oS s, dayV_mon _ _ _ i1 i2 i3 i4 i5, i6, (congrArg Prod.fst h).symm, ?_⟩
  have t1 : bstr (digsW 4 (yS s)) = s.extract 0 4 := vF_text f4 (by rw [ByteArray.size_extract]; omega)
  have t2 : bstr (digsW 2 (mS s)) = s.extract 5 7 := vF_text f5 (by rw [ByteArray.size_extract]; omega)
  have t3 : bstr (digsW 2 (oS s)) = s.extract 8 10 := vF_text f6 (by rw [ByteArray.size_extract]; omega)
  rw [← text_cat, t1, t2, t3]
  have z4 : (s.extract 0 4).size = 4 := by rw [ByteArray.size_extract]; omega
  have z2 : (s.extract 5 7).size = 2 := by rw [ByteArray.size_extract]; omega
  have z1 : (s.extract 8 10).size = 2 := by rw [ByteArray.size_extract]; omega
  have zd : (⟨#[45]⟩ : ByteArray).size = 1 := rfl
  have bd : ∀ j, j = 0 → bt (⟨#[45]⟩ : ByteArray) j = 45 := by rintro _ rfl; decide
  apply bt_inj
  · simp only [size_app, z4, z2, z1, zd, f1]
  · intro i hi
    simp only [size_app, z4, z2, z1, zd] at hi
    simp only [bt_app, size_app, z4, z2, zd]
    by_cases c1 : i < 4
    · rw [if_pos (by omega), if_pos (by omega), if_pos (by omega), if_pos c1, bt_ext s 0 4 i (by omega) (by omega)]
      congr 1; omega
    · by_cases c2 : i = 4
      · subst c2
        rw [if_pos (by omega), if_pos (by omega), if_pos (by omega), if_neg (by omega), f2]
        exact bd _ (by omega)
      · by_cases c3 : i < 7
        · rw [if_pos (by omega), if_pos (by omega), if_neg (by omega), bt_ext s 5 7 _ (by omega) (by omega)]
          congr 1; omega
        · by_cases c4 : i = 7
          · subst c4
            rw [if_pos (by omega), if_neg (by omega), f3]
            exact bd _ (by omega)
          · rw [if_neg (by omega), bt_ext s 8 10 _ (by omega) (by omega)]
            congr 1; omega
end Go.Proofs.YtmgijoomfailoaaDoor.cal
