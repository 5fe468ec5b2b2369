/- The mark of an owner and a number: the program. Condition: the table of powers of ten. -/
import Derived.Test.YtjemmddgeejffaaDoorMkC
namespace Go.Proofs.YtjemmddgeejffaaDoor.kit
open Go.RowKit Go.PlainAid
set_option linter.unusedVariables false

def letF (s : ByteArray) : Nat → Bool
  | 0 => true
  | k + 1 => letF s k && letB (bt s k)
def ownB (s : ByteArray) : Bool := decide (s.size = 4) && letF s 4
theorem letF_at {s : ByteArray} : ∀ {k : Nat}, letF s k = true → ∀ i, i < k → letB (bt s i) = true
  | 0, _, i, h => by omega
  | k + 1, h, i, hi => by
    simp only [letF, Bool.and_eq_true] at h
    rcases Nat.lt_or_ge i k with h1 | h1
    · exact letF_at h.1 i h1
    · have : i = k := by omega
      subst this; exact h.2
theorem letF_bad {s : ByteArray} {k n : Nat} (hk : k < n) (h : letB (bt s k) = false) : letF s n = false := by
  cases e : letF s n
  · rfl
  · rw [letF_at e k hk] at h; cases h
def headS (o : ByteArray) (n : Nat) : ByteArray := o ++ bstr (padW 6 n)
def makeV (o : ByteArray) (n : Nat) : ByteArray := headS o n ++ bstr (padW 2 (sumV (headS o n)).toNat)
def makeE (o : ByteArray) (n : Int) : ByteArray × Int :=
  if ownB o = true then (if 0 ≤ n ∧ n ≤ 999999 then (makeV o n.toNat, 0) else (⟨#[]⟩, 3)) else (⟨#[]⟩, 1)
theorem size_app (a b : ByteArray) : (a ++ b).size = a.size + b.size := ByteArray.size_append
theorem padW_len (k n : Nat) (h : n < 10 ^ k) (hk : 1 ≤ k) : (padW k n).length = k := by rw [padW_eq k n h hk, digsW_len]
theorem headS_size {o : ByteArray} {n : Nat} (ho : o.size = 4) (hn : n ≤ 999999) : (headS o n).size = 10 := by
  unfold headS
  rw [size_app, size_bstr, padW_len 6 n (by omega) (by omega), ho]
theorem ret_sp {r : ByteArray × Int} {a : ByteArray} {b : Int} {k : IntKind} (h : r = (a, b)) : Ending.returned (.tuple #[.string a, .int k b]) = .returned (.tuple #[.string r.1, .int k r.2]) := by rw [h]
/-! ### bytes of sums and parts -/
theorem bt_app (a b : ByteArray) (i : Nat) : bt (a ++ b) i = if i < a.size then bt a i else bt b (i - a.size) := by
  rw [bt_list, bt_list, bt_list]
  have e : (a ++ b).data.toList = a.data.toList ++ b.data.toList := by rw [ByteArray.data_append]; simp
  rw [e, List.getD_eq_getElem?_getD, List.getElem?_append, len_list]
  by_cases h : i < a.size
  · rw [if_pos h, if_pos h, List.getD_eq_getElem?_getD]
  · rw [if_neg h, if_neg h, List.getD_eq_getElem?_getD]
theorem bt_ext (s : ByteArray) (a b i : Nat) (hb : b ≤ s.size) (h : a + i < b) : bt (s.extract a b) i = bt s (a + i) := by
  rw [bt_list, bt_list, Lib.extract_data, List.getD_eq_getElem?_getD, List.getD_eq_getElem?_getD, List.getElem?_take, if_pos (by omega), List.getElem?_drop]
theorem bt_inj {a b : ByteArray} (hs : a.size = b.size) (h : ∀ i, i < a.size → bt a i = bt b i) : a = b := by
  apply ByteArray.ext
  apply Array.toList_inj.1
  have ha := len_list a
  have hb := len_list b
  apply List.ext_getElem (by omega)
  intro i h1 h2
  have h3 := h i (by omega)
  rw [bt_list, bt_list, List.getD_eq_getElem?_getD, List.getD_eq_getElem?_getD, List.getElem?_eq_getElem h1, List.getElem?_eq_getElem h2] at h3
  apply UInt8.toNat_inj.1
  simp only [Option.getD_some] at h3
  omega
theorem bt_digs : ∀ (k n i : Nat), i < k → bt (bstr (digsW k n)) i = 48 + ((n / 10 ^ (k - 1 - i) % 10 : Nat) : Int)
  | 0, _, i, h => by omega
  | k + 1, n, i, h => by
    rw [bt_bstr, digsW]
    rcases Nat.lt_or_ge i k with h1 | h1
    · have h2 := bt_digs k (n / 10) i h1
      rw [bt_bstr] at h2
      rw [List.getD_eq_getElem?_getD, List.getElem?_append_left (by rw [digsW_len]; exact h1), ← List.getD_eq_getElem?_getD, h2, Nat.div_div_eq_div_mul, ← Nat.pow_succ', show (k - 1 - i).succ = k + 1 - 1 - i by omega]
    · have : i = k := by omega
      subst this
      rw [List.getD_eq_getElem?_getD, List.getElem?_append_right (by rw [digsW_len]; omega), digsW_len]
      simp
      omega
set_option maxHeartbeats 1600000 in
theorem make_any (o : ByteArray) (n : Int) (w : World) (hs : o.size ≤ maxLen) (ht : PowTab w) :
    Calls Tryd.prog 12 #[.string o, .int .i64 n] w fun e w' => e = .returned (.tuple #[.string (makeE o n).1, .int .i64 (makeE o n).2]) ∧ Below w.heap.size w w' := by
  unfold maxLen at hs
  have hb := get_bt o
  by_cases h4 : o.size = 4
  rotate_left
  · have E : Hid (makeE o n = (⟨#[]⟩, 1)) := Lib.hid (by unfold makeE; rw [if_neg (by unfold ownB; rw [decide_eq_false h4]; simp)])
    have h4' : ((o.size : Int) != 4) = true := by simp; omega
    have h4n : (o.size != 4) = true := by simp; omega
    clear ht
    go_enter Tryd.func12, Tryd.ntmps12
    go_wp2
    go_ret2
    exact ⟨ret_sp E.out, Below.refl _ _⟩
  have HB : Hid (ownB o = letF o 4) := Lib.hid (by unfold ownB; rw [decide_eq_true h4]; rfl)
  have HT := Lib.hid ht
  clear ht
  go_enter Tryd.func12, Tryd.ntmps12
  go_wp2
  go_loop [11] (fun i => ∃ k : Nat, k ≤ 4 ∧ i = .int .i64 k ∧ Hid (letF o k = true)) (fun i => 4 - (intOf i).toNat)
  case atStart => exact ⟨0, Nat.zero_le _, rfl, Lib.hid rfl⟩
  case round =>
    obtain ⟨k, hk, rfl, hd⟩ := hrel
    by_cases hlt : k < 4
    · have hks : k < o.size := by omega
      have HOK := Lib.hid (letF_bad (s := o) hlt)
      have HD1 : Hid (letB (bt o k) = true → letF o (k + 1) = true) := Lib.hid (fun h => by unfold letF; rw [hd.out, h]; rfl)
      cases q : letB (bt o k)
      · have E : Hid (makeE o n = (⟨#[]⟩, 1)) := Lib.hid (by unfold makeE; rw [if_neg (by rw [HB.out, HOK.out q]; simp)])
        go_wp2_with (first | (go_at_call 26; refine (isLetter_any _ _).mono ?_; rintro e w' ⟨rfl, rfl⟩) | (go_at_call 30; refine (isDigit_any _ _).mono ?_; rintro e w' ⟨rfl, rfl⟩) | (go_at_call 31; refine (rletter_any _ _).mono ?_; rintro e w' ⟨rfl, rfl⟩) | (go_at_call 29; refine (rdigit_any _ _).mono ?_; rintro e w' ⟨rfl, rfl⟩))
        go_ret2
        exact ⟨ret_sp E.out, Below.refl _ _⟩
      · have HD2 := Lib.hid (HD1.out q)
        go_wp2_with (first | (go_at_call 26; refine (isLetter_any _ _).mono ?_; rintro e w' ⟨rfl, rfl⟩) | (go_at_call 30; refine (isDigit_any _ _).mono ?_; rintro e w' ⟨rfl, rfl⟩) | (go_at_call 31; refine (rletter_any _ _).mono ?_; rintro e w' ⟨rfl, rfl⟩) | (go_at_call 29; refine (rdigit_any _ _).mono ?_; rintro e w' ⟨rfl, rfl⟩))
        go_round
        case rel => exact ⟨k + 1, by omega, by go_num, HD2⟩
        case measure => simp [intOf]; omega
    · have hk4 : k = 4 := by omega
      subst hk4
      by_cases h0 : n < 0
      · have E : Hid (makeE o n = (⟨#[]⟩, 3)) := Lib.hid (by unfold makeE; rw [if_pos (by rw [HB.out, hd.out]), if_neg (by omega)])
        go_wp2
        go_ret2
        exact ⟨ret_sp E.out, Below.refl _ _⟩
      by_cases h1 : 999999 < n
      · have E : Hid (makeE o n = (⟨#[]⟩, 3)) := Lib.hid (by unfold makeE; rw [if_pos (by rw [HB.out, hd.out]), if_neg (by omega)])
        go_wp2
        go_ret2
        exact ⟨ret_sp E.out, Below.refl _ _⟩
      obtain ⟨m, rfl⟩ : ∃ m : Nat, n = m := ⟨n.toNat, by omega⟩
      have E : Hid (makeE o m = (makeV o m, 0)) := Lib.hid (by unfold makeE; rw [if_pos (by rw [HB.out, hd.out]), if_pos (by omega)]; rfl)
      have hz := headS_size h4 (show m ≤ 999999 by omega)
      have hh : headF (headS o m) 10 = true := headF_of (fun i hi => by
        unfold okAt
        by_cases h4i : i < 4
        · rw [if_pos h4i]; unfold headS; rw [bt_app, if_pos (by omega)]; exact letF_at hd.out i h4i
        · rw [if_neg h4i]; unfold headS; rw [bt_app, if_neg (by omega), padW_eq 6 m (by omega) (by omega), bt_digs 6 m _ (by omega)]; apply digB_iff.2; omega)
      obtain ⟨q, hq⟩ : ∃ q : Nat, sumV (headS o m) = (q : Int) := ⟨(sumV (headS o m)).toNat, by have := sumV_in (s := headS o m) (by unfold headB; rw [hh, decide_eq_true (by omega)]; rfl); omega⟩
      have hqb : q ≤ 96 := by have := sumV_bd (headS o m); omega
      have EV : Hid (headS o m ++ bstr (padW 2 q) = makeV o m) := Lib.hid (by unfold makeV; rw [hq]; rfl)
      have HS := Lib.hid (fun w => sum_any (headS o m) w (by unfold maxLen; omega))
      rw [hq] at HS
      have HH : Hid (o ++ bstr (padW 6 m) = headS o m) := Lib.hid rfl
      have z6 : (bstr (padW 6 m)).size = 6 := by rw [size_bstr, padW_len 6 m (by omega) (by omega)]
      have z2 : (bstr (padW 2 q)).size = 2 := by rw [size_bstr, padW_len 2 q (by omega) (by omega)]
      clear hh hq
      go_wp2_with fail
      refine (digits_any m 6 (by omega) (by omega) _ HT.out).mono ?_
      rintro e w1 ⟨rfl, hb1⟩
      have HB1 := Lib.hid hb1
      clear hb1
      go_wp2_with fail
      rw [HH.out]
      refine (HS.out _).mono ?_
      rintro e w2 ⟨rfl, rfl⟩
      go_wp2_with fail
      refine (digits_small q 2 (by omega) (by omega) _).mono ?_
      rintro e w3 ⟨rfl, rfl⟩
      go_wp2_with fail
      rw [EV.out]
      go_ret2
      exact ⟨ret_sp E.out, HB1.out⟩
end Go.Proofs.YtjemmddgeejffaaDoor.kit
