/- FormatUint at base 10, sizes, digits behind the point: the program. Condition: the table of powers of ten. -/
import Derived.Test.YtlaclkiedjhphaaGreatDoorDfA
import Derived.Test.YtlaclkiedjhphaaGreatDoorNum
import Derived.Test.YtlaclkiedjhphaaGreatDoorShelf
import Derived.Shelf.Strconv.Itoa3
import Derived.Lib.ItoaMem
import Derived.Lib.AppendIntMem
import Derived.Laws.BytesArg
import Derived.Handy
namespace Go.Proofs.YtlaclkiedjhphaaGreatDoor.kit
open Go.RowKit Go.PlainAid
set_option linter.unusedVariables false
structure Mon where
  cur : ByteArray
  amt : Int
open Go.Sort Go.Lib in
theorem holds_zero0 (w : World) (T : TypeId) (nd : Nat) (hs : nd ≤ 24) : Holds (fun (b : UInt8) => Value.int .u8 (b.toNat : Int)) (w.alloc (.cells zeros24 T)) w.heap.size 0 (Array.replicate nd (0 : UInt8)) := fun j hj => by
  have hj' : j < nd := by simpa using hj
  refine ⟨?_, World.frozen?_alloc_new _ _ _ _⟩
  rw [World.cell?_alloc_new, zeros24_at _ (by omega), getElem!_pos _ j hj]
  simp
open Go.Sort Go.Lib in
theorem fin_pos0 (w : World) (o : Obj) (dk : Array UInt8) (k : Nat) : Below w.heap.size w ((putRow (fun (b : UInt8) => Value.int .u8 (b.toNat : Int)) (w.alloc o) w.heap.size 0 dk).drewN k) := by
  rw [alloc_eq_grow]
  obtain ⟨os', _, e⟩ := putRow_grow_new (fun (b : UInt8) => Value.int .u8 (b.toNat : Int)) w #[o] w.heap.size 0 dk (Nat.le_refl _)
  rw [e]
  exact below_grow _ _ (Nat.le_refl _) _ _
abbrev PowTab (w : World) : Prop := Lib.TabIs Tryz.prog w "internal/strconv.uint64pow10" .u64 Lib.pow10Tab
set_option maxRecDepth 100000 in
set_option maxHeartbeats 3200000 in
open Go.Sort Go.Lib in
theorem fmt_in (u : Nat) (hu64 : u < 18446744073709551616) (w : World) (ht : PowTab w) :
    Calls Tryz.prog 53 #[.int .u64 u, .int .i64 10] w fun e w' => e = .returned (.string ⟨(Lib.decDigits u).toArray⟩) ∧ Below w.heap.size w w' := by
  by_cases hs : u < 100
  · have HC := Lib.hid (Tryz.internal_strconv_small u hs)
    have f1 : IntKind.i64.wrap (u : Int) = (u : Int) := by rw [IntKind.wrap_i64]; omega
    clear ht
    go_enter Tryz.func53, Tryz.ntmps53
    go_wp2_with fail
    refine (HC.out _).mono ?_
    rintro e w' ⟨rfl, rfl⟩
    go_wp2_with fail
    go_ret
    exact ⟨rfl, Below.refl _ _⟩
  have hu1 : 1 ≤ u := by omega
  have hnd20 : Lib.nDigits u ≤ 20 := by have := Lib.numDigits_eq u hu1 hu64; split at this <;> omega
  have hal : Tryz.prog.arrayLen 97 = 24 := by kernel_rfl
  have hsl1 : ∀ W, (Instr.sliceAt 97 (.pointer (some ⟨w.heap.size, 0, none⟩)) none (some (.int .i64 (Lib.nDigits u : Int))) none).run Tryz.prog W = .ok (.slice (some ⟨w.heap.size, 0, none⟩) (Lib.nDigits u) 24) W := fun W => by
    rw [run_sliceAt_array_h W 97 ⟨w.heap.size, 0, none⟩ (by kernel_rfl) .i64 (Lib.nDigits u : Int) (by omega) (by rw [hal]; omega)]
    go_simp
  have hH0 := holds_zero0 w 97 (Lib.nDigits u) (by omega)
  have hfmt := Tryz.internal_strconv_formatBase10 w.heap.size 0 24 u (Array.replicate (Lib.nDigits u) 0) (w.alloc (.cells zeros24 97)) hH0 (by rw [Array.size_replicate]; exact Lib.lt_pow_nDigits u) hu64 (by rw [Array.size_replicate]; omega)
  rw [Array.size_replicate] at hfmt
  have HH0 := Lib.hid hH0
  have HF := Lib.hid hfmt
  have HND := Lib.hid (Tryz.internal_strconv_numDigits u hu1 hu64 (w.alloc (.cells zeros24 97)) (Lib.tabIs_alloc ht _))
  clear hH0 hal hfmt ht
  go_enter Tryz.func53, Tryz.ntmps53
  go_wp2_with fail
  refine HND.out.mono ?_
  rintro e w' ⟨rfl, rfl⟩
  go_wp2_with fail
  refine HF.out.mono ?_
  rintro e w' ⟨rfl, k, v', dk, rfl, hF⟩
  have hcv : (convert 59 9 (.slice (some ⟨w.heap.size, 0, none⟩) (Lib.nDigits u) 24)).run Tryz.prog ((putRow (fun (b : UInt8) => Value.int .u8 (b.toNat : Int)) (w.alloc (.cells zeros24 97)) w.heap.size 0 dk).drewN k) = .ok (.string ⟨(Lib.decDigits u).toArray⟩) ((putRow (fun (b : UInt8) => Value.int .u8 (b.toNat : Int)) (w.alloc (.cells zeros24 97)) w.heap.size 0 dk).drewN k) := by
    have h := run_convert_bytes_back (P := Tryz.prog) ((putRow (fun (b : UInt8) => Value.int .u8 (b.toNat : Int)) (w.alloc (.cells zeros24 97)) w.heap.size 0 dk).drewN k) 59 9 5 ⟨w.heap.size, 0, none⟩ 24 (Lib.decDigits u) Tryz.underlying59 Tryz.underlying5 Tryz.underlying9 (fun j hj => by
      rw [Lib.row_is_numeral hF j hj, Lib.add_plain, World.cell?_drewN]
      exact cell?_putRow (fun (b : UInt8) => Value.int .u8 (b.toNat : Int)) _ w.heap.size 0 _ dk HH0.out (by rw [hF.size, Array.size_replicate]) j (by rw [hF.size]; rw [Lib.decDigits_length] at hj; exact hj))
    rw [Lib.decDigits_length] at h
    exact h
  go_wp2_with fail
  go_ret
  exact ⟨rfl, fin_pos0 _ _ _ _⟩
theorem fmt_any (u : Nat) (hu64 : u < 18446744073709551616) (w : World) (ht : PowTab w) :
    Calls Tryz.prog 32 #[.int .u64 u, .int .i64 10] w fun e w' => e = .returned (.string (bstr (Lib.decDigits u))) ∧ Below w.heap.size w w' := by
  have HC := Lib.hid (fmt_in u hu64 w ht)
  clear ht
  go_enter Tryz.func32, Tryz.ntmps32
  go_wp2_with fail
  refine HC.out.mono ?_
  rintro e w1 ⟨rfl, hb1⟩
  go_wp2_with fail
  go_ret
  exact ⟨rfl, hb1⟩
theorem size_any (n : Int) (w : World) (h : -1099511627776 ≤ n ∧ n ≤ 1099511627776) : Calls Tryz.prog 33 #[.int .i64 n] w fun e w' => e = .returned (.int .u64 (n.natAbs : Int)) ∧ w = w' := by
  by_cases h0 : n < 0
  · have e1 : Hid (IntKind.u64.wrap (-n) = (n.natAbs : Int)) := Lib.hid (by rw [IntKind.wrap_u64]; omega)
    go_enter Tryz.func33, Tryz.ntmps33
    go_wp2
    go_ret
    exact ⟨ret_int (by first | exact e1.out | (have := e1.out; omega)), rfl⟩
  · have e1 : Hid (IntKind.u64.wrap n = (n.natAbs : Int)) := Lib.hid (by rw [IntKind.wrap_u64]; omega)
    go_enter Tryz.func33, Tryz.ntmps33
    go_wp2
    go_ret
    exact ⟨ret_int (by first | exact e1.out | (have := e1.out; omega)), rfl⟩
/-- The digits behind the point. -/
def digV (s : ByteArray) : Nat :=
  if s = ⟨#[74, 80, 89]⟩ ∨ s = ⟨#[75, 82, 87]⟩ then 0 else if s = ⟨#[66, 72, 68]⟩ ∨ s = ⟨#[75, 87, 68]⟩ ∨ s = ⟨#[84, 78, 68]⟩ then 3 else 2
theorem digV_cases (s : ByteArray) : digV s = 0 ∨ digV s = 2 ∨ digV s = 3 := by
  unfold digV
  by_cases h1 : s = ⟨#[74, 80, 89]⟩ ∨ s = ⟨#[75, 82, 87]⟩
  · rw [if_pos h1]; omega
  · rw [if_neg h1]
    by_cases h2 : s = ⟨#[66, 72, 68]⟩ ∨ s = ⟨#[75, 87, 68]⟩ ∨ s = ⟨#[84, 78, 68]⟩
    · rw [if_pos h2]; omega
    · rw [if_neg h2]; omega
def bodyL (d n : Nat) : List UInt8 := Lib.decDigits (n / 10 ^ d) ++ (if d = 0 then [] else 46 :: digsW d n)
def sgnS (a : Int) : ByteArray := if a < 0 then ⟨#[45]⟩ else ⟨#[]⟩
def textV (m : Mon) : ByteArray := if mayM m.cur m.amt = true then m.cur ++ (⟨#[32]⟩ : ByteArray) ++ sgnS m.amt ++ bstr (bodyL (digV m.cur) m.amt.natAbs) else ⟨#[]⟩
theorem mayM_iff {s : ByteArray} {n : Int} : mayM s n = true ↔ curB s = true ∧ -1099511627776 ≤ n ∧ n ≤ 1099511627776 := by unfold mayM; simp
theorem cur_size {s : ByteArray} (h : curB s = true) : s.size = 3 := by unfold curB at h; simp at h; exact h.1
theorem body_split (d n : Nat) (hd : d ≠ 0) : bodyL d n = (padW (d + 1) n).take ((padW (d + 1) n).length - d) ++ [46] ++ (padW (d + 1) n).drop ((padW (d + 1) n).length - d) := by
  have hl := digsW_len d n
  rw [padW_split, List.length_append, hl, Nat.add_sub_cancel, List.take_left, List.drop_left, padW_one]
  unfold bodyL
  rw [if_neg hd]
  simp
theorem body_zero (n : Nat) : bodyL 0 n = padW 1 n := by unfold bodyL; rw [if_pos rfl, padW_one]; simp
theorem dec_len (n : Nat) (h : n ≤ 1099511627776) : 1 ≤ (Lib.decDigits n).length ∧ (Lib.decDigits n).length ≤ 13 := by
  rw [Lib.decDigits_length]
  refine ⟨Lib.nDigits_pos n, ?_⟩
  rcases Nat.lt_or_ge 13 (Lib.nDigits n) with h1 | h1
  · have : n = n / 10 ^ 0 := by simp
    obtain ⟨k, hk⟩ : ∃ k, Lib.nDigits n = k + 1 := ⟨Lib.nDigits n - 1, by omega⟩
    have h2 := Lib.nDigits_unique 12 n
    rcases Nat.lt_or_ge n (10 ^ 12) with h3 | h3
    · have hz : ∀ (j : Nat) (x : Nat), x < 10 ^ (j + 1) → Lib.nDigits x ≤ j + 1 := by
        intro j
        induction j with
        | zero => intro x hx; rw [Lib.nDigits_small (by simpa using hx)]; omega
        | succ j ih =>
          intro x hx
          by_cases h10 : x < 10
          · rw [Lib.nDigits_small h10]; omega
          · rw [Lib.nDigits_big h10]
            have := ih (x / 10) (by rw [Nat.pow_succ] at hx; omega)
            omega
      have := hz 11 n h3
      omega
    · have := h2 h3 (by omega)
      omega
  · exact h1
theorem pad_len (d n : Nat) (h : n ≤ 1099511627776) (hd : d ≤ 3) : d + 1 ≤ (padW (d + 1) n).length ∧ (padW (d + 1) n).length ≤ 13 := by
  have := dec_len n h
  unfold padW
  rw [List.length_append, List.length_replicate]
  omega
theorem repeat_zero : ∀ c, Lib.repeatL [48] c = List.replicate c 48
  | 0 => rfl
  | c + 1 => by
    rw [List.replicate_succ, ← repeat_zero c]
    rfl
theorem eq_lit (s : ByteArray) (l : List UInt8) : (s.toList == l) = decide (s = ⟨l.toArray⟩) := by
  have h := eq_str s ⟨l.toArray⟩
  rw [ByteArray.toList_eq ⟨l.toArray⟩] at h
  exact h
set_option maxHeartbeats 3200000 in
theorem digits_any (s : ByteArray) (w : World) : Calls Tryz.prog 31 #[.string s] w fun e w' => e = .returned (.int .i64 (digV s : Int)) ∧ w = w' := by
  have j0 := eq_lit s [74, 80, 89]
  have j1 := eq_lit s [75, 82, 87]
  have j2 := eq_lit s [66, 72, 68]
  have j3 := eq_lit s [75, 87, 68]
  have j4 := eq_lit s [84, 78, 68]
  by_cases h1 : s = ⟨#[74, 80, 89]⟩ ∨ s = ⟨#[75, 82, 87]⟩
  · have E : Hid ((0 : Int) = (digV s : Int)) := Lib.hid (by unfold digV; rw [if_pos h1]; rfl)
    by_cases h2 : s = ⟨#[74, 80, 89]⟩
    · replace j0 := j0.trans (decide_eq_true h2)
      clear h1 h2 j1 j2 j3 j4
      go_enter Tryz.func31, Tryz.ntmps31
      go_wp2
      go_ret
      exact ⟨ret_int E.out, rfl⟩
    · have h3 := h1.resolve_left h2
      replace j0 := j0.trans (decide_eq_false h2)
      replace j1 := j1.trans (decide_eq_true h3)
      clear h1 h2 h3 j2 j3 j4
      go_enter Tryz.func31, Tryz.ntmps31
      go_wp2
      go_ret
      exact ⟨ret_int E.out, rfl⟩
  · have n0 : ¬ s = ⟨#[74, 80, 89]⟩ := fun h => h1 (.inl h)
    have n1 : ¬ s = ⟨#[75, 82, 87]⟩ := fun h => h1 (.inr h)
    replace j0 := j0.trans (decide_eq_false n0)
    replace j1 := j1.trans (decide_eq_false n1)
    have HD : Hid (digV s = if s = ⟨#[66, 72, 68]⟩ ∨ s = ⟨#[75, 87, 68]⟩ ∨ s = ⟨#[84, 78, 68]⟩ then 3 else 2) := Lib.hid (by unfold digV; rw [if_neg h1])
    clear h1 n0 n1
    obtain ⟨x2, hx2⟩ : ∃ b, decide (s = ⟨#[66, 72, 68]⟩) = b := ⟨_, rfl⟩
    obtain ⟨x3, hx3⟩ : ∃ b, decide (s = ⟨#[75, 87, 68]⟩) = b := ⟨_, rfl⟩
    obtain ⟨x4, hx4⟩ : ∃ b, decide (s = ⟨#[84, 78, 68]⟩) = b := ⟨_, rfl⟩
    have E : Hid (((if x2 = true ∨ x3 = true ∨ x4 = true then 3 else 2 : Nat) : Int) = (digV s : Int)) := Lib.hid (by rw [HD.out, ← hx2, ← hx3, ← hx4]; simp only [decide_eq_true_eq])
    replace j2 := j2.trans hx2
    replace j3 := j3.trans hx3
    replace j4 := j4.trans hx4
    clear hx2 hx3 hx4 HD
    cases x2
    all_goals cases x3
    all_goals cases x4
    all_goals
      go_enter Tryz.func31, Tryz.ntmps31
      go_wp2
      go_ret
      exact ⟨ret_int (by have := E.out; simpa using this), rfl⟩
end Go.Proofs.YtlaclkiedjhphaaGreatDoor.kit
