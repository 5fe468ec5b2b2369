/- The text of money read back, in plain words. No condition. -/
import Derived.Test.YtmmcngdpfikdiaaDoorMyParse
namespace Go.Proofs.YtmmcngdpfikdiaaDoor.kit
open Go.RowKit Go.PlainAid
set_option linter.unusedVariables false

def stepA (a : Int) (c : UInt8) : Int := if 48 ≤ (c.toNat : Int) ∧ (c.toNat : Int) ≤ 57 then a * 10 + ((c.toNat : Int) - 48) else a
def accL (a : Int) (l : List UInt8) : Int := l.foldl stepA a
theorem accL_cons (a : Int) (c : UInt8) (l : List UInt8) : accL a (c :: l) = accL (stepA a c) l := rfl
theorem accL_app (a : Int) (l m : List UInt8) : accL a (l ++ m) = accL (accL a l) m := by unfold accL; rw [List.foldl_append]
theorem accF_list (s : ByteArray) : ∀ k, k + 4 ≤ s.size → accF s k = accL 0 ((s.data.toList.drop 4).take k)
  | 0, _ => by simp [accF, accL]
  | k + 1, h => by
    have hl := len_list s
    have ih := accF_list s k (by omega)
    have hk : k < (s.data.toList.drop 4).length := by rw [List.length_drop]; omega
    rw [List.take_succ_eq_append_getElem hk, accL_app, ← ih]
    have hb : bt s (k + 4) = (((s.data.toList.drop 4)[k]).toNat : Int) := by
      rw [bt_list, List.getD_eq_getElem?_getD, List.getElem?_eq_getElem (by omega), List.getElem_drop]
      simp only [Option.getD_some]
      congr 3
      omega
    show _ = stepA _ _
    unfold stepA
    rw [← hb]
    by_cases hd : 48 ≤ bt s (k + 4) ∧ bt s (k + 4) ≤ 57
    · rw [accF_in hd, if_pos hd]
    · rw [accF_out hd, if_neg hd]
theorem stepA_dig (a : Int) (x : Nat) (h : x < 10) : stepA a (UInt8.ofNat (48 + x)) = a * 10 + (x : Int) := by
  have e : ((UInt8.ofNat (48 + x)).toNat : Int) = 48 + (x : Int) := by simp; omega
  unfold stepA
  rw [e, if_pos (by omega)]
  omega
theorem accL_digs : ∀ (d n : Nat) (a : Int), accL a (digsW d n) = a * ((10 ^ d : Nat) : Int) + ((n % 10 ^ d : Nat) : Int)
  | 0, n, a => by simp [digsW, accL, Nat.mod_one]
  | d + 1, n, a => by
    rw [digsW, accL_app, accL_digs d (n / 10) a]
    show stepA _ _ = _
    rw [stepA_dig _ _ (Nat.mod_lt _ (by omega)), Nat.pow_succ', Nat.mod_mul]
    simp only [Int.natCast_mul, Int.natCast_add]
    obtain ⟨p, hp⟩ : ∃ p, a * ((10 ^ d : Nat) : Int) = p := ⟨_, rfl⟩
    have e : a * (((10 : Nat) : Int) * ((10 ^ d : Nat) : Int)) = p * 10 := by
      rw [← hp, Int.mul_assoc, Int.mul_comm ((10 ^ d : Nat) : Int) 10]; rfl
    rw [hp, e]
    omega
theorem accL_dec (n : Nat) : accL 0 (Lib.decDigits n) = (n : Int) := by
  induction n using Nat.strongRecOn with
  | _ n ih =>
    by_cases h : n < 10
    · rw [dec_small h]
      show stepA _ _ = _
      rw [stepA_dig _ _ h]; omega
    · rw [dec_big h, accL_app, ih (n / 10) (by omega)]
      show stepA _ _ = _
      rw [stepA_dig _ _ (Nat.mod_lt _ (by omega))]; omega
theorem dec_head (n : Nat) : ∃ c l, Lib.decDigits n = c :: l ∧ 48 ≤ c.toNat := by
  induction n using Nat.strongRecOn with
  | _ n ih =>
    by_cases h : n < 10
    · refine ⟨_, [], dec_small h, ?_⟩
      simp; omega
    · obtain ⟨c, l, h1, h2⟩ := ih (n / 10) (by omega)
      exact ⟨c, l ++ [UInt8.ofNat (48 + n % 10)], by rw [dec_big h, h1]; rfl, h2⟩
theorem accL_body (d n : Nat) : accL 0 (bodyL d n) = (n : Int) := by
  unfold bodyL
  rw [accL_app, accL_dec]
  by_cases h : d = 0
  · subst h; rw [if_pos rfl]; simp [accL]
  · rw [if_neg h]
    have e : stepA ((n / 10 ^ d : Nat) : Int) 46 = ((n / 10 ^ d : Nat) : Int) := by unfold stepA; rw [if_neg (by decide)]
    have h2 := Nat.div_add_mod n (10 ^ d)
    have h3 := accL_digs d n ((n / 10 ^ d : Nat) : Int)
    rw [accL_cons, e, h3, ← Int.natCast_mul, ← Int.natCast_add]
    congr 1
    rw [Nat.mul_comm]
    exact h2
theorem body_len {d n : Nat} (hd : d ≤ 3) (hn : n ≤ 1099511627776) : 1 ≤ (bodyL d n).length ∧ (bodyL d n).length ≤ 17 := by
  have h := dec_len (n / 10 ^ d) (by have := Nat.div_le_self n (10 ^ d); omega)
  unfold bodyL
  rw [List.length_append]
  by_cases h0 : d = 0
  · rw [if_pos h0]; simp; omega
  · rw [if_neg h0, List.length_cons, digsW_len]; omega
/-- A text of money: its size, its parts. -/
theorem text_facts {m : Mon} (hm : mayM m = true) : 5 ≤ (textV m).size ∧ (textV m).size ≤ 24 ∧ bt (textV m) 3 = 32 ∧ (bt (textV m) 4 = 45 ↔ m.amt < 0) ∧ (textV m).extract 0 3 = m.cur ∧ accF (textV m) ((textV m).size - 4) = (m.amt.natAbs : Int) := by
  have hma := (may_iff.1 hm).2
  have hc3 := cur_size (may_iff.1 hm).1
  have hcl := len_list m.cur
  have hd3 : digV m.cur ≤ 3 := by have := digV_cases m.cur; omega
  have hbl := body_len hd3 (show m.amt.natAbs ≤ 1099511627776 by omega)
  have hL : (textV m).data.toList = m.cur.data.toList ++ (32 :: ((if m.amt < 0 then [45] else []) ++ bodyL (digV m.cur) m.amt.natAbs)) := by
    unfold textV sgnS
    rw [if_pos hm, app_list, app_list, app_list, data_bstr]
    by_cases h : m.amt < 0
    · rw [if_pos h, if_pos h]; simp
    · rw [if_neg h, if_neg h]; simp
  obtain ⟨c, l, hc, hc48⟩ := dec_head (m.amt.natAbs / 10 ^ digV m.cur)
  obtain ⟨r, hr⟩ : ∃ r, bodyL (digV m.cur) m.amt.natAbs = c :: r := by unfold bodyL; rw [hc]; exact ⟨_, rfl⟩
  have hsz : (textV m).size = 4 + ((if m.amt < 0 then 1 else 0) + (bodyL (digV m.cur) m.amt.natAbs).length) := by
    rw [← len_list, hL, List.length_append, List.length_cons, List.length_append, hcl, hc3]
    by_cases h : m.amt < 0
    · rw [if_pos h, if_pos h]; simp; omega
    · rw [if_neg h, if_neg h]; simp; omega
  have hs1 : (if m.amt < 0 then 1 else 0) ≤ 1 := by split <;> omega
  refine ⟨by omega, by omega, ?_, ?_, ?_, ?_⟩
  · rw [bt_list, hL, List.getD_eq_getElem?_getD, List.getElem?_append_right (by omega), hcl, hc3]
    rfl
  · rw [bt_list, hL, List.getD_eq_getElem?_getD, List.getElem?_append_right (by omega), hcl, hc3]
    by_cases h : m.amt < 0
    · rw [if_pos h]; exact ⟨fun _ => h, fun _ => rfl⟩
    · rw [if_neg h, hr]
      refine ⟨fun e => ?_, fun e => absurd e h⟩
      have e' : (c.toNat : Int) = 45 := e
      omega
  · apply list_inj
    rw [Lib.extract_data, hL, List.drop_zero, List.take_left' (by omega)]
  · rw [accF_list _ _ (by omega), List.take_of_length_le (by rw [List.length_drop, len_list]; exact Nat.le_refl _), hL]
    have e4 : (m.cur.data.toList ++ (32 :: ((if m.amt < 0 then [45] else []) ++ bodyL (digV m.cur) m.amt.natAbs))).drop 4 = (if m.amt < 0 then [45] else []) ++ bodyL (digV m.cur) m.amt.natAbs := by
      rw [show (4 : Nat) = m.cur.data.toList.length + 1 by omega, ← List.drop_drop, List.drop_left]
      rfl
    rw [e4, accL_app]
    have e5 : accL 0 (if m.amt < 0 then [45] else []) = 0 := by split <;> rfl
    rw [e5, accL_body]
theorem parse_text {m : Mon} (hm : mayM m = true) : parseV (textV m) = (m, 0) := by
  obtain ⟨h1, h2, h3, h4, h5, h6⟩ := text_facts hm
  have hM : parseM (textV m) = m := by
    unfold parseM
    rw [h5, h6]
    obtain ⟨c, a⟩ := m
    simp only [] at h4 ⊢
    congr 1
    by_cases h : a < 0
    · rw [if_pos (h4.2 h)]; omega
    · rw [if_neg (fun e => h (h4.1 e))]; omega
  unfold parseV
  rw [hM, if_pos ⟨h1, by omega, h3, rfl⟩]
theorem text_no {m : Mon} (h : mayM m = false) : textV m = ⟨#[]⟩ := by unfold textV; rw [if_neg (by rw [h]; simp)]
theorem text_may {m : Mon} {s : ByteArray} (h : textV m = s) (hs : 0 < s.size) : mayM m = true := by
  cases e : mayM m
  · rw [text_no e] at h
    rw [← h] at hs
    exact absurd hs (by decide)
  · rfl
/-- A text is no money's, or just one money's. -/
theorem parse_two (s : ByteArray) : parseV s = (noM, 2) ∨ ∃ m, mayM m = true ∧ textV m = s ∧ parseV s = (m, 0) := by
  by_cases h : 5 ≤ s.size ∧ s.size ≤ 32 ∧ bt s 3 = 32 ∧ textV (parseM s) = s
  · right
    exact ⟨parseM s, text_may h.2.2.2 (by omega), h.2.2.2, by unfold parseV; rw [if_pos h]⟩
  · left
    unfold parseV
    rw [if_neg h]
/-! the document's reading, whose sum may wrap -/
def stepW (x b : Int) : Int := wrap64 (wrap64 (wrap64 (10 * x) + b) - 48)
def accW (s : ByteArray) : Nat → Int
  | 0 => 0
  | k + 1 => if 48 ≤ bt s (k + 4) ∧ bt s (k + 4) ≤ 57 then stepW (accW s k) (bt s (k + 4)) else accW s k
theorem accW_in {s : ByteArray} {k : Nat} (h : 48 ≤ bt s (k + 4) ∧ bt s (k + 4) ≤ 57) : accW s (k + 1) = stepW (accW s k) (bt s (k + 4)) := by
  show (if _ then _ else _) = _
  rw [if_pos h]
theorem accW_out {s : ByteArray} {k : Nat} (h : ¬ (48 ≤ bt s (k + 4) ∧ bt s (k + 4) ≤ 57)) : accW s (k + 1) = accW s k := by
  show (if _ then _ else _) = _
  rw [if_neg h]
theorem stepW_wrap (x b : Int) : stepW (wrap64 x) b = wrap64 (x * 10 + (b - 48)) := by unfold stepW wrap64; omega
theorem accW_wrap (s : ByteArray) : ∀ k, accW s k = wrap64 (accF s k)
  | 0 => by simp [accW, accF, wrap64]
  | k + 1 => by
    by_cases h : 48 ≤ bt s (k + 4) ∧ bt s (k + 4) ≤ 57
    · rw [accW_in h, accF_in h, accW_wrap s k, stepW_wrap]
    · rw [accW_out h, accF_out h, accW_wrap s k]
def parseW (s : ByteArray) : Mon := ⟨s.extract 0 3, if bt s 4 = 45 then wrap64 (-(accW s (s.size - 4))) else accW s (s.size - 4)⟩
def rparseV (s : ByteArray) : Mon × Bool := if 5 ≤ s.size ∧ s.size ≤ 24 ∧ textV (parseW s) = s then (parseW s, true) else (noM, false)
theorem rparse_good {m : Mon} (hm : mayM m = true) : rparseV (textV m) = (m, true) := by
  obtain ⟨h1, h2, h3, h4, h5, h6⟩ := text_facts hm
  have hma := (may_iff.1 hm).2
  have hM : parseW (textV m) = m := by
    unfold parseW
    rw [h5, accW_wrap, h6]
    obtain ⟨c, a⟩ := m
    simp only [] at h4 hma ⊢
    have w1 : wrap64 ((a.natAbs : Nat) : Int) = (a.natAbs : Int) := w64_id ⟨by omega, by omega⟩
    have w2 : wrap64 (-((a.natAbs : Nat) : Int)) = -(a.natAbs : Int) := w64_id ⟨by omega, by omega⟩
    rw [w1, w2]
    congr 1
    by_cases h : a < 0
    · rw [if_pos (h4.2 h)]; omega
    · rw [if_neg (fun e => h (h4.1 e))]; omega
  unfold rparseV
  rw [hM, if_pos ⟨h1, h2, rfl⟩]
theorem rparse_eq (s : ByteArray) : (parseV s = (noM, 2) ∧ rparseV s = (noM, false)) ∨ ∃ m, mayM m = true ∧ textV m = s ∧ parseV s = (m, 0) ∧ rparseV s = (m, true) := by
  rcases parse_two s with h | ⟨m, h1, h2, h3⟩
  · by_cases hr : 5 ≤ s.size ∧ s.size ≤ 24 ∧ textV (parseW s) = s
    · have hm := text_may hr.2.2 (by omega)
      have h4 := parse_text hm
      rw [hr.2.2, h] at h4
      exact absurd (show (2 : Int) = 0 from congrArg Prod.snd h4) (by decide)
    · left
      exact ⟨h, by unfold rparseV; rw [if_neg hr]⟩
  · right
    refine ⟨m, h1, h2, h3, ?_⟩
    rw [← h2]
    exact rparse_good h1
end Go.Proofs.YtmmcngdpfikdiaaDoor.kit
