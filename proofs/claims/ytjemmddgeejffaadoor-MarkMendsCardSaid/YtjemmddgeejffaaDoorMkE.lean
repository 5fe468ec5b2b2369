/- What is made is right, and tells its owner and number; the examples. Condition: the table of powers of ten. -/
import Derived.Test.YtjemmddgeejffaaDoorMkD
import Derived.Test.YtjemmddgeejffaaDoorNameA
import Derived.Test.YtjemmddgeejffaaDoorNameB
namespace Go.Proofs.YtjemmddgeejffaaDoor.kit
open Go.RowKit Go.PlainAid
set_option linter.unusedVariables false

theorem headF_congr {s t : ByteArray} : ∀ {k : Nat}, (∀ i, i < k → bt s i = bt t i) → headF s k = headF t k
  | 0, _ => rfl
  | k + 1, h => by
    have h1 := headF_congr (s := s) (t := t) (k := k) (fun i hi => h i (by omega))
    unfold headF okAt
    rw [h1, h k (by omega)]
theorem sumN_congr {s t : ByteArray} : ∀ {k : Nat}, (∀ i, i < k → bt s i = bt t i) → sumN s k = sumN t k
  | 0, _ => rfl
  | k + 1, h => by
    have h1 := sumN_congr (s := s) (t := t) (k := k) (fun i hi => h i (by omega))
    rw [sumN_succ, sumN_succ, h1]
    unfold vAt
    rw [h k (by omega)]
section
variable {o : ByteArray} {n : Nat}
theorem own_size (ho : ownB o = true) : o.size = 4 := by unfold ownB at ho; simp at ho; exact ho.1
theorem own_let (ho : ownB o = true) : ∀ i, i < 4 → letB (bt o i) = true := by unfold ownB at ho; simp at ho; exact letF_at ho.2
theorem headS_lo (ho : o.size = 4) {i : Nat} (h : i < 4) : bt (headS o n) i = bt o i := by unfold headS; rw [bt_app, if_pos (by omega)]
theorem headS_hi (ho : o.size = 4) (hn : n ≤ 999999) {i : Nat} (h4 : 4 ≤ i) (h : i < 10) : bt (headS o n) i = 48 + ((n / 10 ^ (9 - i) % 10 : Nat) : Int) := by
  unfold headS
  rw [bt_app, if_neg (by omega), padW_eq 6 n (by omega) (by omega), bt_digs 6 n _ (by omega), show 6 - 1 - (i - o.size) = 9 - i by omega]
theorem headS_head (ho : ownB o = true) (hn : n ≤ 999999) : headF (headS o n) 10 = true := headF_of (fun i hi => by
  unfold okAt
  by_cases h4i : i < 4
  · rw [if_pos h4i, headS_lo (own_size ho) h4i]; exact own_let ho i h4i
  · rw [if_neg h4i, headS_hi (own_size ho) hn (by omega) hi]; apply digB_iff.2; omega)
theorem headS_sum (ho : ownB o = true) (hn : n ≤ 999999) : sumV (headS o n) = sumN (headS o n) 10 % 97 := by
  have h1 := headS_head ho hn
  have h2 := headS_size (own_size ho) hn
  unfold sumV headB
  rw [h1, if_pos (by rw [decide_eq_true (by omega)]; rfl)]
theorem mk_size (ho : ownB o = true) (hn : n ≤ 999999) : (makeV o n).size = 12 := by
  have h := headS_sum ho hn
  unfold makeV
  rw [size_app, headS_size (own_size ho) hn, size_bstr, padW_len 2 _ (by omega) (by omega)]
theorem mk_lo (ho : ownB o = true) (hn : n ≤ 999999) {i : Nat} (h : i < 10) : bt (makeV o n) i = bt (headS o n) i := by
  unfold makeV; rw [bt_app, if_pos (by rw [headS_size (own_size ho) hn]; exact h)]
theorem mk_ten (ho : ownB o = true) (hn : n ≤ 999999) : bt (makeV o n) 10 = 48 + (sumN (headS o n) 10 % 97) / 10 ∧ bt (makeV o n) 11 = 48 + (sumN (headS o n) 10 % 97) % 10 := by
  have h := headS_sum ho hn
  have h2 := headS_size (own_size ho) hn
  obtain ⟨q, hq⟩ : ∃ q : Nat, sumV (headS o n) = (q : Int) := ⟨(sumV (headS o n)).toNat, by omega⟩
  have e : (sumV (headS o n)).toNat = q := by omega
  unfold makeV
  rw [bt_app, bt_app, if_neg (by omega), if_neg (by omega), e, padW_eq 2 q (by omega) (by omega), bt_digs 2 q _ (by omega), bt_digs 2 q _ (by omega), h2, ← h, hq]
  simp
  omega
theorem mk_right (ho : ownB o = true) (hn : n ≤ 999999) : rightB (makeV o n) = true := by
  have h := mk_ten ho hn
  have e1 := headF_congr (s := makeV o n) (t := headS o n) (k := 10) (fun i hi => mk_lo ho hn hi)
  have e2 := sumN_congr (s := makeV o n) (t := headS o n) (k := 10) (fun i hi => mk_lo ho hn hi)
  unfold rightB
  rw [e1, e2, headS_head ho hn, mk_size ho hn, h.1, h.2]
  generalize sumN (headS o n) 10 = S
  have d1 : digB (48 + S % 97 / 10) = true := digB_iff.2 (by omega)
  have d2 : digB (48 + S % 97 % 10) = true := digB_iff.2 (by omega)
  rw [d1, d2, decide_eq_true rfl, decide_eq_true (show S % 97 = 10 * (48 + S % 97 / 10 - 48) + (48 + S % 97 % 10 - 48) by omega)]
  rfl
theorem mk_digit (ho : ownB o = true) (hn : n ≤ 999999) {i : Nat} (h4 : 4 ≤ i) (h : i < 10) : bt (makeV o n) i = 48 + ((n / 10 ^ (9 - i) % 10 : Nat) : Int) := by
  rw [mk_lo ho hn h, headS_hi (own_size ho) hn h4 h]
theorem mk_num (ho : ownB o = true) (hn : n ≤ 999999) : numN (makeV o n) 6 = n := by
  have h4 := mk_digit ho hn (i := 4) (by omega) (by omega)
  have h5 := mk_digit ho hn (i := 5) (by omega) (by omega)
  have h6 := mk_digit ho hn (i := 6) (by omega) (by omega)
  have h7 := mk_digit ho hn (i := 7) (by omega) (by omega)
  have h8 := mk_digit ho hn (i := 8) (by omega) (by omega)
  have h9 := mk_digit ho hn (i := 9) (by omega) (by omega)
  simp only [Nat.reduceSub, Nat.reducePow, Nat.div_one] at h4 h5 h6 h7 h8 h9
  rw [numN_succ, numN_succ, numN_succ, numN_succ, numN_succ, numN_succ, h4, h5, h6, h7, h8, h9]
  unfold numN
  omega
theorem mk_owner (ho : ownB o = true) (hn : n ≤ 999999) : (makeV o n).extract 0 4 = o := by
  have hs := own_size ho
  have hz := mk_size ho hn
  apply bt_inj
  · rw [ByteArray.size_extract]; omega
  · intro i hi
    rw [ByteArray.size_extract] at hi
    rw [bt_ext _ _ _ _ (by omega) (by omega), Nat.zero_add, mk_lo ho hn (by omega), headS_lo hs (by omega)]
theorem allok_bt {s : ByteArray} (h : ∀ i, i < s.size → letB (bt s i) = true ∨ digB (bt s i) = true ∨ bt s i = 45) : allok s.data.toList = true := by
  unfold allok
  rw [List.all_eq_true]
  intro c hc
  obtain ⟨i, hi, rfl⟩ := List.getElem_of_mem hc
  rw [len_list] at hi
  have h1 := h i hi
  have e : bt s i = (s.data.toList[i].toNat : Int) := by rw [bt_list, List.getD_eq_getElem?_getD, List.getElem?_eq_getElem (by rw [len_list]; exact hi)]; rfl
  rw [e] at h1
  unfold okc
  rw [letB_iff, digB_iff] at h1
  exact decide_eq_true h1
theorem mk_name (ho : ownB o = true) (hn : n ≤ 999999) : nameB (makeV o n).data.toList = true := by
  have hz := mk_size ho hn
  have h := mk_ten ho hn
  unfold nameB
  rw [len_list, hz, allok_bt]
  · rfl
  · intro i hi
    rw [hz] at hi
    by_cases h4 : i < 4
    · left; rw [mk_lo ho hn (by omega), headS_lo (own_size ho) h4]; exact own_let ho i h4
    · by_cases h10 : i < 10
      · right; left; rw [mk_digit ho hn (by omega) h10]; apply digB_iff.2; omega
      · right; left
        have : i = 10 ∨ i = 11 := by omega
        rcases this with rfl | rfl
        · rw [h.1]; apply digB_iff.2; omega
        · rw [h.2]; apply digB_iff.2; omega
/-- One mark is another one just if owner and number are. -/
theorem mk_inj {o' : ByteArray} {n' : Nat} (ho : ownB o = true) (hn : n ≤ 999999) (ho' : ownB o' = true) (hn' : n' ≤ 999999) (h : makeV o n = makeV o' n') : o = o' ∧ n = n' := by
  have h1 := mk_owner ho hn
  have h2 := mk_num ho hn
  rw [h] at h1 h2
  rw [mk_owner ho' hn'] at h1
  rw [mk_num ho' hn'] at h2
  exact ⟨h1.symm, by omega⟩
end
/-! ### the examples -/
def oA : ByteArray := ⟨#[97, 97, 97, 97]⟩
theorem own_A : ownB ⟨#[97, 97, 97, 97]⟩ = true := by decide +kernel
theorem head_A : headS ⟨#[97, 97, 97, 97]⟩ 1 = ⟨#[97, 97, 97, 97, 48, 48, 48, 48, 48, 49]⟩ := by
  unfold headS
  rw [padW_eq 6 1 (by omega) (by omega)]
  decide +kernel
theorem sum_A : sumV ⟨#[97, 97, 97, 97, 48, 48, 48, 48, 48, 49]⟩ = 20 := by decide +kernel
theorem make_A : makeE ⟨#[97, 97, 97, 97]⟩ 1 = (⟨#[97, 97, 97, 97, 48, 48, 48, 48, 48, 49, 50, 48]⟩, 0) := by
  unfold makeE
  rw [own_A, if_pos rfl, if_pos (by omega)]
  unfold makeV
  rw [show (1 : Int).toNat = 1 from rfl, head_A, sum_A, padW_eq 2 _ (by decide) (by omega)]
  decide +kernel
theorem right_A : rightB ⟨#[97, 97, 97, 97, 48, 48, 48, 48, 48, 49, 50, 48]⟩ = true := by decide +kernel
theorem name_A : nameB (⟨#[97, 45, 49]⟩ : ByteArray).data.toList = true := by decide +kernel
set_option maxHeartbeats 1600000 in
theorem awake_any (w : World) (ht : PowTab w) : Calls Tryd.prog 11 #[] w fun e w' => e = .returned (.bool true) ∧ Below w.heap.size w w' := by
  have HM := Lib.hid (make_any ⟨#[97, 97, 97, 97]⟩ 1 w (by decide) ht)
  rw [make_A] at HM
  have HS := Lib.hid (fun w => sum_any ⟨#[97, 97, 97, 97, 48, 48, 48, 48, 48, 49]⟩ w (by decide))
  rw [sum_A] at HS
  have HR := Lib.hid (fun w => right_any ⟨#[97, 97, 97, 97, 48, 48, 48, 48, 48, 49, 50, 48]⟩ w (by decide))
  rw [right_A] at HR
  have HN := Lib.hid (fun w => name_any ⟨#[97, 45, 49]⟩ w (by decide))
  rw [name_A] at HN
  clear ht
  go_enter Tryd.func11, Tryd.ntmps11
  go_wp2_with fail
  refine HM.out.mono ?_
  rintro e w1 ⟨rfl, hb1⟩
  have HB1 := Lib.hid hb1
  clear hb1
  go_wp2_with fail
  refine (HS.out _).mono ?_
  rintro e w2 ⟨rfl, rfl⟩
  go_wp2_with fail
  refine (HR.out _).mono ?_
  rintro e w3 ⟨rfl, hb3⟩
  have HB3 := Lib.hid (HB1.out.trans (hb3.mono HB1.out.size))
  clear hb3
  go_wp2_with fail
  refine (HN.out _).mono ?_
  rintro e w4 ⟨rfl, rfl⟩
  go_wp2_with fail
  go_ret
  exact ⟨rfl, HB3.out⟩
end Go.Proofs.YtjemmddgeejffaaDoor.kit
