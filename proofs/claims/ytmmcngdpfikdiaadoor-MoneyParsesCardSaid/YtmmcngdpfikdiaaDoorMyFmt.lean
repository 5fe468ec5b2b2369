/- strconv.FormatUint at base 10; a number's digits by the document. Condition: the table of powers of ten. -/
import Derived.Test.YtmmcngdpfikdiaaDoorMyScale
import Derived.Shelf.Strconv.Itoa3
import Derived.Lib.AppendIntMem
import Derived.Laws.BytesArg
namespace Go.Proofs.YtmmcngdpfikdiaaDoor.kit
open Go.RowKit Go.PlainAid
set_option linter.unusedVariables false
open Go.Sort Go.Lib in
theorem holds_zero0 (w : World) (T : TypeId) (nd : Nat) (hs : nd ≤ 24) : Holds (fun (b : UInt8) => Value.int .u8 (b.toNat : Int)) (w.alloc (.cells zeros24 T)) w.heap.size 0 (Array.replicate nd (0 : UInt8)) := fun j hj => by
  have hj' : j < nd := by simpa using hj
  refine ⟨?_, World.frozen?_alloc_new _ _ _ _⟩
  rw [World.cell?_alloc_new, zeros24_at _ (by omega), getElem!_pos _ j hj]
  simp
open Go.Sort Go.Lib in
theorem fin_pos0 (w : World) (o : Obj) (dk : Array UInt8) (k : Nat) : Below w.heap.size w ((putRow (fun (b : UInt8) => Value.int .u8 (b.toNat : Int)) (w.alloc o) w.heap.size 0 dk).drewN k) := by
  rw [alloc_eq_grow]
  obtain ⟨os', _, e⟩ := putRow_grow_new (fun (b : UInt8) => Value.int .u8 (b.toNat : Int)) w #[o] w.heap.size 0 dk (Nat.le_refl _)
  rw [e]
  exact below_grow _ _ (Nat.le_refl _) _ _
abbrev PowTab (w : World) : Prop := Lib.TabIs Tryd.prog w "internal/strconv.uint64pow10" .u64 Lib.pow10Tab
set_option maxRecDepth 100000 in
set_option maxHeartbeats 3200000 in
open Go.Sort Go.Lib in
theorem fmt_in (u : Nat) (hu64 : u < 18446744073709551616) (w : World) (ht : PowTab w) :
    Calls Tryd.prog 46 #[.int .u64 u, .int .i64 10] w fun e w' => e = .returned (.string ⟨(Lib.decDigits u).toArray⟩) ∧ Below w.heap.size w w' := by
  by_cases hs : u < 100
  · have HC := Lib.hid (Tryd.internal_strconv_small u hs)
    have f1 : IntKind.i64.wrap (u : Int) = (u : Int) := by rw [IntKind.wrap_i64]; omega
    clear ht
    go_enter Tryd.func46, Tryd.ntmps46
    go_wp2_with fail
    refine (HC.out _).mono ?_
    rintro e w' ⟨rfl, rfl⟩
    go_wp2_with fail
    go_ret
    exact ⟨rfl, Below.refl _ _⟩
  have hu1 : 1 ≤ u := by omega
  have hnd20 : Lib.nDigits u ≤ 20 := by have := Lib.numDigits_eq u hu1 hu64; split at this <;> omega
  have hal : Tryd.prog.arrayLen 81 = 24 := by kernel_rfl
  have hsl1 : ∀ W, (Instr.sliceAt 81 (.pointer (some ⟨w.heap.size, 0, none⟩)) none (some (.int .i64 (Lib.nDigits u : Int))) none).run Tryd.prog W = .ok (.slice (some ⟨w.heap.size, 0, none⟩) (Lib.nDigits u) 24) W := fun W => by
    rw [run_sliceAt_array_h W 81 ⟨w.heap.size, 0, none⟩ (by kernel_rfl) .i64 (Lib.nDigits u : Int) (by omega) (by rw [hal]; omega)]
    go_simp
  have hH0 := holds_zero0 w 81 (Lib.nDigits u) (by omega)
  have hfmt := Tryd.internal_strconv_formatBase10 w.heap.size 0 24 u (Array.replicate (Lib.nDigits u) 0) (w.alloc (.cells zeros24 81)) hH0 (by rw [Array.size_replicate]; exact Lib.lt_pow_nDigits u) hu64 (by rw [Array.size_replicate]; omega)
  rw [Array.size_replicate] at hfmt
  have HH0 := Lib.hid hH0
  have HF := Lib.hid hfmt
  have HND := Lib.hid (Tryd.internal_strconv_numDigits u hu1 hu64 (w.alloc (.cells zeros24 81)) (Lib.tabIs_alloc ht _))
  clear hH0 hal hfmt ht
  go_enter Tryd.func46, Tryd.ntmps46
  go_wp2_with fail
  refine HND.out.mono ?_
  rintro e w' ⟨rfl, rfl⟩
  go_wp2_with fail
  refine HF.out.mono ?_
  rintro e w' ⟨rfl, k, v', dk, rfl, hF⟩
  have hcv : (convert 72 9 (.slice (some ⟨w.heap.size, 0, none⟩) (Lib.nDigits u) 24)).run Tryd.prog ((putRow (fun (b : UInt8) => Value.int .u8 (b.toNat : Int)) (w.alloc (.cells zeros24 81)) w.heap.size 0 dk).drewN k) = .ok (.string ⟨(Lib.decDigits u).toArray⟩) ((putRow (fun (b : UInt8) => Value.int .u8 (b.toNat : Int)) (w.alloc (.cells zeros24 81)) w.heap.size 0 dk).drewN k) := by
    have h := run_convert_bytes_back (P := Tryd.prog) ((putRow (fun (b : UInt8) => Value.int .u8 (b.toNat : Int)) (w.alloc (.cells zeros24 81)) w.heap.size 0 dk).drewN k) 72 9 5 ⟨w.heap.size, 0, none⟩ 24 (Lib.decDigits u) Tryd.underlying72 Tryd.underlying5 Tryd.underlying9 (fun j hj => by
      rw [Lib.row_is_numeral hF j hj, Lib.add_plain, World.cell?_drewN]
      exact cell?_putRow (fun (b : UInt8) => Value.int .u8 (b.toNat : Int)) _ w.heap.size 0 _ dk HH0.out (by rw [hF.size, Array.size_replicate]) j (by rw [hF.size]; rw [Lib.decDigits_length] at hj; exact hj))
    rw [Lib.decDigits_length] at h
    exact h
  go_wp2_with fail
  go_ret
  exact ⟨rfl, fin_pos0 _ _ _ _⟩
theorem fmt_any (u : Nat) (hu64 : u < 18446744073709551616) (w : World) (ht : PowTab w) :
    Calls Tryd.prog 36 #[.int .u64 u, .int .i64 10] w fun e w' => e = .returned (.string (bstr (Lib.decDigits u))) ∧ Below w.heap.size w w' := by
  have HC := Lib.hid (fmt_in u hu64 w ht)
  clear ht
  go_enter Tryd.func36, Tryd.ntmps36
  go_wp2_with fail
  refine HC.out.mono ?_
  rintro e w1 ⟨rfl, hb1⟩
  go_wp2_with fail
  go_ret
  exact ⟨rfl, hb1⟩
theorem conv1 (w : World) (c : Int) : (convert 72 9 (.slice (some ⟨w.heap.size, 0, none⟩) 1 1)).run Tryd.prog (w.alloc (.cells #[.int .u8 c] 5)) = .ok (.string ⟨#[UInt8.ofNat c.toNat]⟩) (w.alloc (.cells #[.int .u8 c] 5)) :=
  run_convert_bytes_arg _ _ _ Tryd.underlying72 Tryd.underlying5 w.heap.size 0 1 1 [c] rfl (fun i hi => by
    obtain rfl : i = 0 := by omega
    exact (Blk.new w 5 #[.int .u8 c]).cell 0) _ Tryd.underlying9
/-- The digits that are there behind k rounds. -/
theorem whole_front (l m k : Nat) (h : m / 10 ^ k ≠ 0 ∨ k < l) : digsW (k + 1) m = UInt8.ofNat (48 + m / 10 ^ k % 10) :: digsW k m := digsW_front k m
theorem pad_digs (l m k : Nat) (h1 : m / 10 ^ k = 0) (h2 : l ≤ k) (h3 : k = l ∨ m / 10 ^ (k - 1) ≠ 0) (hl : 1 ≤ l) : digsW k m = padW l m := by
  have hlt : m < 10 ^ k := (Nat.div_eq_zero_iff_lt (Nat.pow_pos (by omega))).1 h1
  rcases h3 with h3 | h3
  · rw [h3] at hlt ⊢; exact (padW_eq l m hlt hl).symm
  · rw [← padW_eq k m hlt (by omega)]
    have hk : 10 ^ (k - 1) ≤ m := by
      rcases Nat.lt_or_ge m (10 ^ (k - 1)) with h | h
      · exact absurd (Nat.div_eq_of_lt h) h3
      · exact h
    have hd : (Lib.decDigits m).length = k := by
      rw [Lib.decDigits_length]
      have := Lib.nDigits_unique (k - 1) m hk (by rwa [Nat.sub_add_cancel (by omega)])
      omega
    unfold padW
    rw [hd, show k - k = 0 by omega, show l - k = 0 by omega]
set_option maxHeartbeats 3200000 in
theorem whole_any (m l : Nat) (w : World) (hl : 1 ≤ l) (hl4 : l ≤ 4) (hm : m ≤ 1099511627776) :
    Calls Tryd.prog 39 #[.int .i64 m, .int .i64 l] w fun e w' => e = .returned (.string (bstr (padW l m))) ∧ Below w.heap.size w w' := by
  have h1 := conv1
  go_enter Tryd.func39, Tryd.ntmps39
  go_wp2
  go_loopw [0, 5] (fun a s wr => ∃ k : Nat, k ≤ 13 ∧ a = .int .i64 ((m / 10 ^ k : Nat) : Int) ∧ s = .string (bstr (digsW k m)) ∧ (k = 0 ∨ k ≤ l ∨ m / 10 ^ (k - 1) ≠ 0) ∧ Below w.heap.size w wr) (fun a s _ => (intOf a).toNat + (l - (match s with | .string s => s.size | _ => 0)))
  case atStart => exact ⟨0, by omega, by simp, rfl, .inl rfl, Below.refl _ _⟩
  case round =>
    obtain ⟨k, hk, rfl, rfl, hor, hbel⟩ := hrel
    have hzk : (bstr (digsW k m)).size = k := by rw [size_bstr, digsW_len]
    obtain ⟨x, hx⟩ : ∃ x, m / 10 ^ k = x := ⟨_, rfl⟩
    have hxm : x ≤ 1099511627776 := by have := Nat.div_le_self m (10 ^ k); omega
    by_cases hgo : 0 < x ∨ k < l
    · have hk13 : k < 13 := by
        rcases Nat.lt_or_ge k 13 with h | h
        · exact h
        · have : k = 13 := by omega
          subst this
          rcases hgo with h2 | h2
          · rw [← hx] at h2; omega
          · omega
      have HX1 : Hid ((m / 10 ^ (k + 1) : Nat) = x / 10) := Lib.hid (by rw [Nat.pow_succ, ← Nat.div_div_eq_div_mul, hx])
      have HX2 : Hid ((⟨#[48 + UInt8.ofNat (x % 10)]⟩ : ByteArray) ++ bstr (digsW k m) = bstr (digsW (k + 1) m)) := Lib.hid (by rw [← of48, digsW_front, ← hx, one_cons])
      have HW : Hid (∀ c, Below w.heap.size w (wr.alloc (.cells #[.int .u8 c] 5))) := Lib.hid fun c => hbel.alloc hbel.size _
      have HOR : Hid (k + 1 = 0 ∨ k + 1 ≤ l ∨ m / 10 ^ (k + 1 - 1) ≠ 0) := Lib.hid (by
        rw [Nat.add_sub_cancel, hx]; omega)
      rw [hx]
      clear hx hor
      have hc : (48 + (x : Int) % 10).toNat = 48 + x % 10 := by omega
      by_cases h0 : 0 < x
      · have d0 : decide ((0 : Int) < (x : Int)) = true := decide_eq_true (by omega)
        have d0n : decide (0 < x) = true := decide_eq_true h0
        go_wp2
        go_roundw
        case rel => exact ⟨k + 1, by omega, by rw [HX1.out]; simp, by rw [← HX2.out], HOR.out, HW.out _⟩
        case measure => simp only [intOf]; rw [HX2.out, size_bstr, digsW_len, hzk]; omega
      · have d0 : decide ((0 : Int) < (x : Int)) = false := decide_eq_false (by omega)
        have d0n : decide (0 < x) = false := decide_eq_false h0
        have d1 : decide ((k : Int) < (l : Int)) = true := decide_eq_true (by omega)
        go_wp2
        go_roundw
        case rel => exact ⟨k + 1, by omega, by rw [HX1.out]; simp, by rw [← HX2.out], HOR.out, HW.out _⟩
        case measure => simp only [intOf]; rw [HX2.out, size_bstr, digsW_len, hzk]; omega
    · have HE : Hid (bstr (digsW k m) = bstr (padW l m)) := Lib.hid (by
        rw [pad_digs l m k (by omega) (by omega) (by omega) hl])
      rw [hx]
      have d0 : decide ((0 : Int) < (x : Int)) = false := decide_eq_false (by omega)
      have d0n : decide (0 < x) = false := decide_eq_false (by omega)
      have d1 : decide ((k : Int) < (l : Int)) = false := decide_eq_false (by omega)
      clear hx hor
      go_wp2
      go_ret
      exact ⟨ret_string HE.out, hbel⟩
end Go.Proofs.YtmmcngdpfikdiaaDoor.kit
