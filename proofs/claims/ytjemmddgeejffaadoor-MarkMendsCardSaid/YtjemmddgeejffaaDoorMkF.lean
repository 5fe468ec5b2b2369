/- The mark of an owner and a number: the document. No condition. -/
import Derived.Test.YtjemmddgeejffaaDoorMkE
import Derived.Laws.BytesArg
namespace Go.Proofs.YtjemmddgeejffaaDoor.kit
open Go.RowKit Go.PlainAid
set_option linter.unusedVariables false

theorem digsW_front : ∀ (k m : Nat), digsW (k + 1) m = UInt8.ofNat (48 + m / 10 ^ k % 10) :: digsW k m
  | 0, m => by simp [digsW]
  | k + 1, m => by
    rw [digsW, digsW_front k (m / 10), digsW, List.cons_append, Nat.div_div_eq_div_mul, ← Nat.pow_succ']
theorem of48 (k : Nat) : UInt8.ofNat (48 + k) = 48 + UInt8.ofNat k := by simp
theorem conv1 (w : World) (c : Int) : (convert 29 9 (.slice (some ⟨w.heap.size, 0, none⟩) 1 1)).run Tryd.prog (w.alloc (.cells #[.int .u8 c] 5)) = .ok (.string ⟨#[UInt8.ofNat c.toNat]⟩) (w.alloc (.cells #[.int .u8 c] 5)) :=
  run_convert_bytes_arg _ _ _ Tryd.underlying29 Tryd.underlying5 w.heap.size 0 1 1 [c] rfl (fun i hi => by
    obtain rfl : i = 0 := by omega
    exact (Blk.new w 5 #[.int .u8 c]).cell 0) _ Tryd.underlying9
theorem conv2 (w : World) (c d : Int) : (convert 29 9 (.slice (some ⟨w.heap.size, 0, none⟩) 2 2)).run Tryd.prog (w.alloc (.cells #[.int .u8 c, .int .u8 d] 5)) = .ok (.string ⟨#[UInt8.ofNat c.toNat, UInt8.ofNat d.toNat]⟩) (w.alloc (.cells #[.int .u8 c, .int .u8 d] 5)) :=
  run_convert_bytes_arg _ _ _ Tryd.underlying29 Tryd.underlying5 w.heap.size 0 2 2 [c, d] rfl (fun i hi => by
    have : i = 0 ∨ i = 1 := by omega
    rcases this with rfl | rfl
    · exact (Blk.new w 5 #[.int .u8 c, .int .u8 d]).cell 0
    · exact (Blk.new w 5 #[.int .u8 c, .int .u8 d]).cell 1) _ Tryd.underlying9
theorem one_cons (c : UInt8) (l : List UInt8) : (⟨#[c]⟩ : ByteArray) ++ bstr l = bstr (c :: l) := by
  apply ByteArray.ext
  apply Array.toList_inj.1
  unfold bstr
  simp [ByteArray.data_append]
set_option maxHeartbeats 1600000 in
theorem rmake_any (o : ByteArray) (m : Nat) (w : World) (ho : ownB o = true) (hn : m ≤ 999999) :
    Calls Tryd.prog 14 #[.string o, .int .i64 m] w fun e w' => e = .returned (.string (makeV o m)) ∧ Below w.heap.size w w' := by
  have h4 := own_size ho
  have hz := headS_size h4 hn
  have h1 := conv1
  have h2 := conv2
  have hsum := headS_sum ho hn
  obtain ⟨q, hq⟩ : ∃ q : Nat, sumV (headS o m) = (q : Int) := ⟨(sumV (headS o m)).toNat, by omega⟩
  have hqb : q ≤ 96 := by omega
  have HS := Lib.hid (fun w => rsum_any (headS o m) w (by unfold maxLen; omega))
  rw [hq] at HS
  have HH : Hid (o ++ bstr (digsW 6 m) = headS o m) := Lib.hid (by unfold headS; rw [padW_eq 6 m (by omega) (by omega)])
  have EV : Hid (headS o m ++ (⟨#[48 + UInt8.ofNat (q / 10), 48 + UInt8.ofNat (q % 10)]⟩ : ByteArray) = makeV o m) := Lib.hid (by rw [← of48, ← of48]; unfold makeV; rw [hq]; simp only [Int.toNat_natCast]; rw [two_list q (by omega)]; rfl)
  clear hsum hq
  go_enter Tryd.func14, Tryd.ntmps14
  go_wp2
  go_loopw [1, 5, 6] (fun a s i wr => ∃ k : Nat, k ≤ 6 ∧ i = .int .i64 k ∧ a = .int .i64 ((m / 10 ^ k : Nat) : Int) ∧ s = .string (bstr (digsW k m)) ∧ Below w.heap.size w wr) (fun _ _ i _ => 6 - (intOf i).toNat)
  case atStart => exact ⟨0, by omega, rfl, by simp, rfl, Below.refl _ _⟩
  case round =>
    obtain ⟨k, hk, rfl, rfl, rfl, hbel⟩ := hrel
    have hzk : (bstr (digsW k m)).size = k := by rw [size_bstr, digsW_len]
    by_cases hlt : k < 6
    · obtain ⟨x, hx⟩ : ∃ x, m / 10 ^ k = x := ⟨_, rfl⟩
      have hxm : x ≤ 999999 := by have := Nat.div_le_self m (10 ^ k); omega
      have HX1 : Hid ((m / 10 ^ (k + 1) : Nat) = x / 10) := Lib.hid (by rw [Nat.pow_succ, ← Nat.div_div_eq_div_mul, hx])
      have HX2 : Hid ((⟨#[48 + UInt8.ofNat (x % 10)]⟩ : ByteArray) ++ bstr (digsW k m) = bstr (digsW (k + 1) m)) := Lib.hid (by rw [← of48, digsW_front, ← hx, one_cons])
      have HW : Hid (∀ c, Below w.heap.size w (wr.alloc (.cells #[.int .u8 c] 5))) := Lib.hid fun c => hbel.alloc hbel.size _
      rw [hx]
      clear hx
      have hc : (48 + (x : Int) % 10).toNat = 48 + x % 10 := by omega
      go_wp2
      go_round
      case rel => exact ⟨k + 1, by omega, by go_num, by rw [HX1.out]; simp, by rw [← HX2.out], HW.out _⟩
      case measure => simp [intOf]; omega
    · have hk6 : k = 6 := by omega
      subst hk6
      have hc1 : (48 + (q : Int) / 10).toNat = 48 + q / 10 := by omega
      have hc2 : (48 + (q : Int) % 10).toNat = 48 + q % 10 := by omega
      go_wp2_with fail
      rw [HH.out]
      refine (HS.out _).mono ?_
      rintro e w2 ⟨rfl, rfl⟩
      go_wp2_with fail
      rw [HH.out]
      go_wp2_with fail
      rw [EV.out]
      go_ret
      exact ⟨rfl, hbel.alloc hbel.size _⟩
end Go.Proofs.YtjemmddgeejffaaDoor.kit
