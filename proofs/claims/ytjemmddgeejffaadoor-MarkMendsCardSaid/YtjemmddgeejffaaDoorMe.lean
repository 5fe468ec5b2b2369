/- Which marks a text is mended to, in plain words. No condition. -/
import Derived.Test.YtjemmddgeejffaaDoorRis
namespace Go.Proofs.YtjemmddgeejffaaDoor.kit
open Go.RowKit Go.PlainAid
set_option linter.unusedVariables false

def chS : ByteArray := ⟨#[97, 98, 99, 100, 101, 102, 103, 104, 105, 106, 107, 108, 109, 110, 111, 112, 113, 114, 115, 116, 117, 118, 119, 120, 121, 122, 48, 49, 50, 51, 52, 53, 54, 55, 56, 57]⟩
theorem ch_eq : ∀ k, k < 36 → bt chS k = if k < 26 then 97 + (k : Int) else 22 + (k : Int) := by decide +kernel
theorem ch_bd {k : Nat} (h : k < 36) : 48 ≤ bt chS k ∧ bt chS k ≤ 122 := by
  rw [ch_eq k h]
  split <;> omega
theorem ch_inj {k l : Nat} (h : k < 36) (h' : l < 36) (e : bt chS k = bt chS l) : k = l := by
  rw [ch_eq k h, ch_eq l h'] at e
  split at e <;> split at e <;> omega
theorem ch_all {c : Int} (h : letB c = true ∨ digB c = true) : ∃ k, k < 36 ∧ bt chS k = c := by
  rcases h with h | h
  · have := letB_iff.1 h
    refine ⟨(c - 97).toNat, by omega, ?_⟩
    rw [ch_eq _ (by omega), if_pos (by omega)]
    omega
  · have := digB_iff.1 h
    refine ⟨(c - 22).toNat, by omega, ?_⟩
    rw [ch_eq _ (by omega), if_neg (by omega)]
    omega
/-- What one place and one sign bring. -/
def tryV (s : ByteArray) (p : Nat) (c : Int) : List ByteArray := if bt s p = c then [] else if rightB (oneV s p c) = true then [oneV s p c] else []
theorem try_mem {s x : ByteArray} {p : Nat} {c : Int} : x ∈ tryV s p c ↔ bt s p ≠ c ∧ rightB x = true ∧ x = oneV s p c := by
  unfold tryV
  by_cases h : bt s p = c
  · rw [if_pos h]
    constructor
    · intro h'; cases h'
    · rintro ⟨h', _⟩; exact (h' h).elim
  · rw [if_neg h]
    by_cases h2 : rightB (oneV s p c) = true
    · rw [if_pos h2, List.mem_singleton]
      constructor
      · rintro rfl; exact ⟨h, h2, rfl⟩
      · rintro ⟨_, _, h'⟩; exact h'
    · rw [if_neg h2]
      constructor
      · intro h'; cases h'
      · rintro ⟨_, h3, h4⟩; rw [h4] at h3; exact (h2 h3).elim
section
variable {s : ByteArray} (hz : s.size = 12)
include hz
theorem one_inj {p p' : Nat} {c c' : Int} (hp : p ≤ 11) (hp' : p' ≤ 11) (hc : 0 ≤ c ∧ c ≤ 255) (hc' : 0 ≤ c' ∧ c' ≤ 255) (hne : bt s p ≠ c) (e : oneV s p c = oneV s p' c') : p = p' ∧ c = c' := by
  have h1 := one_bt hc hz hp p (by omega)
  rw [if_pos rfl, e, one_bt hc' hz hp' p (by omega)] at h1
  by_cases h : p = p'
  · rw [if_pos h] at h1; exact ⟨h, h1.symm⟩
  · rw [if_neg h] at h1; exact (hne h1).elim
theorem one_same {p : Nat} {c : Int} (hp : p ≤ 11) (hc : 0 ≤ c ∧ c ≤ 255) : oneV s p c = s ↔ bt s p = c := by
  constructor
  · intro e
    have h1 := one_bt hc hz hp p (by omega)
    rw [if_pos rfl, e] at h1
    exact h1
  · intro e
    refine bt_inj ((one_size hz hp).trans hz.symm) fun i hi => ?_
    rw [one_size hz hp] at hi
    rw [one_bt hc hz hp i hi]
    split
    · rename_i h; rw [h]; exact e.symm
    · rfl
/-- Those that are unlike at one place. -/
def Near (s x : ByteArray) : Prop := rightB x = true ∧ ∃ p c, p < 12 ∧ 0 ≤ c ∧ c ≤ 255 ∧ bt s p ≠ c ∧ x = oneV s p c
omit hz in
theorem right_sign {x : ByteArray} (h : rightB x = true) {p : Nat} (hp : p < 12) : letB (bt x p) = true ∨ digB (bt x p) = true := by
  unfold rightB at h
  simp only [Bool.and_eq_true] at h
  obtain ⟨_, h1, h2, h3, _⟩ := h
  by_cases h10 : p < 10
  · have := headF_at h1 p h10
    unfold okAt at this
    split at this
    · exact .inl this
    · exact .inr this
  · have : p = 10 ∨ p = 11 := by omega
    rcases this with rfl | rfl
    · exact .inr h2
    · exact .inr h3
theorem near_ch {x : ByteArray} : Near s x ↔ ∃ j, j < 432 ∧ x ∈ tryV s (j / 36) (bt chS (j % 36)) := by
  constructor
  · rintro ⟨hr, p, c, hp, h0, h1, hne, rfl⟩
    have hs := right_sign hr hp
    rw [one_bt ⟨h0, h1⟩ hz (by omega) p hp, if_pos rfl] at hs
    obtain ⟨k, hk, rfl⟩ := ch_all hs
    refine ⟨p * 36 + k, by omega, ?_⟩
    rw [show (p * 36 + k) / 36 = p by omega, show (p * 36 + k) % 36 = k by omega]
    exact try_mem.2 ⟨hne, hr, rfl⟩
  · rintro ⟨j, hj, h⟩
    obtain ⟨h1, h2, h3⟩ := try_mem.1 h
    have hb := ch_bd (show j % 36 < 36 by omega)
    exact ⟨h2, _, _, by omega, by omega, by omega, h1, h3⟩
theorem near_ref {x : ByteArray} : Near s x ↔ ∃ j, j < 900 ∧ x ∈ tryV s (j / 75) (48 + ((j % 75 : Nat) : Int)) := by
  constructor
  · rintro ⟨hr, p, c, hp, h0, h1, hne, rfl⟩
    have hs := right_sign hr hp
    rw [one_bt ⟨h0, h1⟩ hz (by omega) p hp, if_pos rfl] at hs
    have hc : 48 ≤ c ∧ c ≤ 122 := by
      rcases hs with h | h
      · have := letB_iff.1 h; omega
      · have := digB_iff.1 h; omega
    refine ⟨p * 75 + (c - 48).toNat, by omega, ?_⟩
    rw [show (p * 75 + (c - 48).toNat) / 75 = p by omega, show (p * 75 + (c - 48).toNat) % 75 = (c - 48).toNat by omega, show 48 + (((c - 48).toNat : Nat) : Int) = c by omega]
    exact try_mem.2 ⟨hne, hr, rfl⟩
  · rintro ⟨j, hj, h⟩
    obtain ⟨h1, h2, h3⟩ := try_mem.1 h
    exact ⟨h2, _, _, by omega, by omega, by omega, h1, h3⟩
end
/-! the program's order -/
def foundN (s : ByteArray) : Nat → List ByteArray
  | 0 => []
  | j + 1 => foundN s j ++ tryV s (j / 36) (bt chS (j % 36))
theorem found_mem {s x : ByteArray} : ∀ {n : Nat}, x ∈ foundN s n ↔ ∃ j, j < n ∧ x ∈ tryV s (j / 36) (bt chS (j % 36))
  | 0 => by
    unfold foundN
    constructor
    · intro h; cases h
    · rintro ⟨j, hj, _⟩; omega
  | n + 1 => by
    unfold foundN
    rw [List.mem_append, found_mem]
    constructor
    · rintro (⟨j, hj, h⟩ | h)
      · exact ⟨j, by omega, h⟩
      · exact ⟨n, by omega, h⟩
    · rintro ⟨j, hj, h⟩
      by_cases e : j = n
      · rw [e] at h; exact .inr h
      · exact .inl ⟨j, by omega, h⟩
theorem try_len (s : ByteArray) (p : Nat) (c : Int) : (tryV s p c).length ≤ 1 := by
  unfold tryV
  split
  · simp
  · split <;> simp
theorem found_len (s : ByteArray) : ∀ (n : Nat), (foundN s n).length ≤ n
  | 0 => by simp [foundN]
  | n + 1 => by
    unfold foundN
    rw [List.length_append]
    have := found_len s n
    have := try_len s (n / 36) (bt chS (n % 36))
    omega
theorem try_nodup (s : ByteArray) (p : Nat) (c : Int) : (tryV s p c).Nodup := by
  unfold tryV
  split
  · exact List.nodup_nil
  · split
    · simp
    · exact List.nodup_nil
theorem found_nodup {s : ByteArray} (hz : s.size = 12) : ∀ {n : Nat}, n ≤ 432 → (foundN s n).Nodup
  | 0, _ => List.nodup_nil
  | n + 1, h => by
    unfold foundN
    rw [List.nodup_append]
    refine ⟨found_nodup hz (by omega), try_nodup _ _ _, fun a ha b hb e => ?_⟩
    subst e
    obtain ⟨j, hj, h1⟩ := found_mem.1 ha
    obtain ⟨a1, _, a3⟩ := try_mem.1 h1
    obtain ⟨_, _, b3⟩ := try_mem.1 hb
    have c1 := ch_bd (show j % 36 < 36 by omega)
    have c2 := ch_bd (show n % 36 < 36 by omega)
    have := one_inj hz (by omega) (by omega) ⟨by omega, by omega⟩ ⟨by omega, by omega⟩ a1 (a3.symm.trans b3)
    have := ch_inj (by omega) (by omega) this.2
    omega
/-! the document's order -/
def refN (s : ByteArray) : Nat → List ByteArray
  | 0 => []
  | j + 1 => (tryV s (j / 75) (48 + ((j % 75 : Nat) : Int))).foldl putS (refN s j)
theorem foldl_mem {x : ByteArray} : ∀ (l o : List ByteArray), x ∈ l.foldl putS o ↔ x ∈ l ∨ x ∈ o
  | [], o => by simp
  | y :: l, o => by
    rw [List.foldl_cons, foldl_mem l, put_mem, List.mem_cons]
    constructor
    · rintro (h | h | h)
      · exact .inl (.inr h)
      · exact .inl (.inl h)
      · exact .inr h
    · rintro ((h | h) | h)
      · exact .inr (.inl h)
      · exact .inl h
      · exact .inr (.inr h)
theorem foldl_up : ∀ (l o : List ByteArray), risS o → risS (l.foldl putS o)
  | [], o, h => h
  | y :: l, o, h => foldl_up l _ (put_up y o h)
theorem ref_mem {s x : ByteArray} : ∀ {n : Nat}, x ∈ refN s n ↔ ∃ j, j < n ∧ x ∈ tryV s (j / 75) (48 + ((j % 75 : Nat) : Int))
  | 0 => by
    unfold refN
    constructor
    · intro h; cases h
    · rintro ⟨j, hj, _⟩; omega
  | n + 1 => by
    unfold refN
    rw [foldl_mem, ref_mem]
    constructor
    · rintro (h | ⟨j, hj, h⟩)
      · exact ⟨n, by omega, h⟩
      · exact ⟨j, by omega, h⟩
    · rintro ⟨j, hj, h⟩
      by_cases e : j = n
      · rw [e] at h; exact .inl h
      · exact .inr ⟨j, by omega, h⟩
theorem ref_up (s : ByteArray) : ∀ (n : Nat), risS (refN s n)
  | 0 => List.Pairwise.nil
  | n + 1 => foldl_up _ _ (ref_up s n)
theorem ref_len (s : ByteArray) : ∀ (n : Nat), (refN s n).length ≤ n
  | 0 => by simp [refN]
  | n + 1 => by
    unfold refN tryV
    have := ref_len s n
    split
    · simp; omega
    · split
      · have := put_len (oneV s (n / 75) (48 + ((n % 75 : Nat) : Int))) (refN s n)
        simp only [List.foldl_cons, List.foldl_nil]
        omega
      · simp; omega
theorem ref_new {s : ByteArray} (hz : s.size = 12) {n : Nat} (h : n < 900) (hne : bt s (n / 75) ≠ 48 + ((n % 75 : Nat) : Int)) : oneV s (n / 75) (48 + ((n % 75 : Nat) : Int)) ∉ refN s n := by
  intro hm
  obtain ⟨j, hj, h1⟩ := ref_mem.1 hm
  obtain ⟨a1, _, a3⟩ := try_mem.1 h1
  have := one_inj hz (by omega) (by omega) ⟨by omega, by omega⟩ ⟨by omega, by omega⟩ hne a3
  omega
/-- All right marks that are unlike at one place, rising. -/
def mendV (s : ByteArray) : List ByteArray := if s.size = 12 then refN s 900 else []
theorem mend_of {s : ByteArray} (hz : s.size = 12) : mendV s = refN s 900 := if_pos hz
theorem mend_mem {s x : ByteArray} (hz : s.size = 12) : x ∈ mendV s ↔ Near s x := by
  rw [mend_of hz, ref_mem, near_ref hz]
/-- The program's list, sorted. -/
theorem found_sorted {s : ByteArray} (hz : s.size = 12) : (((foundN s 432).map fun x => x.data.toList).mergeSort fun x y => decide (x ≤ y)).map bstr = mendV s := by
  refine sorted_ris ?_ (by rw [mend_of hz]; exact ref_up s 900) fun x => ?_
  · exact List.pairwise_map.2 ((found_nodup hz (Nat.le_refl _)).imp fun h e => h (ba_ext e))
  · rw [mend_mem hz, near_ch hz, ← found_mem, List.mem_map]
    constructor
    · rintro ⟨y, hy, rfl⟩
      rw [show bstr y.data.toList = y from ba_ext (data_bstr _)]
      exact hy
    · intro h
      exact ⟨_, h, data_bstr _⟩
theorem right_mend {s : ByteArray} (hr : rightB s = true) : mendV s = [] := by
  have hz := (right_f hr).size
  refine List.eq_nil_iff_forall_not_mem.2 fun x hx => ?_
  obtain ⟨h1, p, c, hp, h0, h255, hne, rfl⟩ := (mend_mem hz).1 hx
  have := one_wrong hr ⟨h0, h255⟩ (show p ≤ 11 by omega) hne
  rw [this] at h1
  cases h1
/-- A mark is among what it is mended to with one sign changed. -/
theorem one_mend {s : ByteArray} (hr : rightB s = true) {p : Nat} (hp : p ≤ 11) {c : Int} (hc : 0 ≤ c ∧ c ≤ 255) (hne : ¬ bt s p = c) : s ∈ mendV (oneV s p c) := by
  have hz := (right_f hr).size
  have hz1 := one_size (x := c) hz hp
  have hb : 0 ≤ bt s p ∧ bt s p ≤ 255 := by
    rcases right_sign hr (show p < 12 by omega) with h | h
    · have := letB_iff.1 h; omega
    · have := digB_iff.1 h; omega
  refine (mend_mem hz1).2 ⟨hr, p, bt s p, by omega, hb.1, hb.2, ?_, ?_⟩
  · rw [one_bt hc hz hp p (by omega), if_pos rfl]
    exact fun e => hne e.symm
  · refine bt_inj (hz.trans (one_size hz1 hp).symm) fun i hi => ?_
    rw [hz] at hi
    rw [one_bt hb hz1 hp i hi]
    split
    · rename_i e; rw [e]
    · rename_i e
      rw [one_bt hc hz hp i hi, if_neg e]
end Go.Proofs.YtjemmddgeejffaaDoor.kit
