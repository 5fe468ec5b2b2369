/- The document's digits of a number from 0 on. No condition. -/
import Derived.Test.YtlaclkiedjhphaaGreatDoorNum
import Derived.Test.YtlaclkiedjhphaaGreatDoorKit
import Derived.Laws.BytesArg
namespace Go.Proofs.YtlaclkiedjhphaaGreatDoor.kit
open Go.RowKit Go.PlainAid
set_option linter.unusedVariables false

theorem dec_le (n : Nat) : (Lib.decDigits n).length ≤ n + 1 := by
  induction n using Nat.strongRecOn with
  | ind n ih =>
    by_cases h : n < 10
    · rw [dec_small h]; simp
    · rw [dec_big h, List.length_append]
      have := ih (n / 10) (by omega)
      simp
      omega
theorem conv_d (w : World) (c : Int) : (convert 59 9 (.slice (some ⟨w.heap.size, 0, none⟩) 1 1)).run Tryz.prog (w.alloc (.cells #[.int .u8 c] 5)) = .ok (.string ⟨#[UInt8.ofNat c.toNat]⟩) (w.alloc (.cells #[.int .u8 c] 5)) :=
  run_convert_bytes_arg _ _ _ Tryz.underlying59 Tryz.underlying5 w.heap.size 0 1 1 [c] rfl (fun i hi => by
    obtain rfl : i = 0 := by omega
    exact (Blk.new w 5 #[.int .u8 c]).cell 0) _ Tryz.underlying9
set_option maxHeartbeats 3200000 in
theorem rdig_any (m : Nat) (w : World) (hm : m ≤ 1099511627776) :
    Calls Tryz.prog 13 #[.int .i64 m] w fun e w' => e = .returned (.string (bstr (Lib.decDigits m))) ∧ Below w.heap.size w w' := by
  have h1 := conv_d
  have hml := dec_le m
  go_enter Tryz.func13, Tryz.ntmps13
  go_wp2
  go_loopw [0, 3] (fun a s wr => ∃ (n : Nat) (l : List UInt8), n ≤ m ∧ a = .int .i64 (n : Int) ∧ s = .string (bstr l) ∧ Hid (Lib.decDigits n ++ l = Lib.decDigits m) ∧ Below w.heap.size w wr) (fun a _ _ => (intOf a).toNat)
  case atStart => exact ⟨m, [], by omega, rfl, rfl, Lib.hid (List.append_nil _), Below.refl _ _⟩
  case round =>
    obtain ⟨n, l, hn, rfl, rfl, hd, hbel⟩ := hrel
    have hll : (bstr l).size ≤ m + 1 := by
      rw [size_bstr]
      have := congrArg List.length hd.out
      rw [List.length_append] at this
      omega
    by_cases hgo : 9 < n
    · have d1 : decide ((9 : Int) < (n : Int)) = true := decide_eq_true (by omega)
      have HX2 : Hid ((⟨#[48 + UInt8.ofNat (n % 10)]⟩ : ByteArray) ++ bstr l = bstr (UInt8.ofNat (48 + n % 10) :: l)) := Lib.hid (by rw [← of48, one_cons])
      have HD2 : Hid (Lib.decDigits (n / 10) ++ (UInt8.ofNat (48 + n % 10) :: l) = Lib.decDigits m) := Lib.hid (by rw [← hd.out, dec_big (by omega : ¬ n < 10), List.append_assoc]; rfl)
      have HW : Hid (∀ c, Below w.heap.size w (wr.alloc (.cells #[.int .u8 c] 5))) := Lib.hid fun c => hbel.alloc hbel.size _
      have hc : (48 + (n : Int) % 10).toNat = 48 + n % 10 := by omega
      clear hd
      go_wp2
      go_roundw
      case rel => exact ⟨n / 10, _, by omega, by simp, by rw [← HX2.out], HD2, HW.out _⟩
      case measure => simp [intOf]; omega
    · have d1 : decide ((9 : Int) < (n : Int)) = false := decide_eq_false (by omega)
      have HX2 : Hid ((⟨#[48 + UInt8.ofNat n]⟩ : ByteArray) ++ bstr l = bstr (Lib.decDigits m)) := Lib.hid (by rw [← hd.out, dec_small (by omega), ← of48, one_cons]; rfl)
      have HW : Hid (∀ c, Below w.heap.size w (wr.alloc (.cells #[.int .u8 c] 5))) := Lib.hid fun c => hbel.alloc hbel.size _
      have hc : (48 + (n : Int)).toNat = 48 + n := by omega
      clear hd
      go_wp2
      go_ret
      exact ⟨by rw [← HX2.out]; rfl, HW.out _⟩
end Go.Proofs.YtlaclkiedjhphaaGreatDoor.kit
