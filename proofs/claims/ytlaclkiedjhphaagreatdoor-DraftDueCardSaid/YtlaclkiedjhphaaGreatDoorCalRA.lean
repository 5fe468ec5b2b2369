/- The document's days: which numbers are days; whether a number is in a list. No condition. -/
import Derived.Test.YtlaclkiedjhphaaGreatDoorCalA
namespace Go.Proofs.YtlaclkiedjhphaaGreatDoor.cal
open Go.RowKit Go.Proofs.YtlaclkiedjhphaaGreatDoor.kit
set_option linter.unusedVariables false

theorem ris_any (d : Int) (w : World) : Calls Tryz.prog 21 #[.int .i64 d] w fun e w' => e = .returned (.bool (isDayB d)) ∧ w = w' := by
  by_cases h0 : 0 ≤ d
  all_goals
    go_enter Tryz.func21, Tryz.ntmps21
    go_wp2
    go_ret
    exact ⟨ret_bool (by unfold isDayB; first | (simp; done) | (simp; omega)), rfl⟩

theorem rin_any (A : Option Addr) (n c : Nat) (xs : List Int) (q : Int) (w : World) (hx : SliceOf w 1 intC A n xs) (hm : n ≤ maxLen) :
    Calls Tryz.prog 48 #[.slice A n c, .int .i64 q] w fun e w' => e = .returned (.bool (has xs q)) ∧ w = w' := by
  have HX := Lib.hid hx
  have hxl := hx.len
  unfold maxLen at hm
  clear hx
  go_enter Tryz.func48, Tryz.ntmps48
  go_wp2_with fail
  go_loop [5] (fun i => ∃ k : Nat, k ≤ n ∧ i = .int .i64 k ∧ Hid (has (xs.take k) q = false)) (fun i => n - (intOf i).toNat)
  case atStart => exact ⟨0, Nat.zero_le _, rfl, Lib.hid rfl⟩
  case round =>
    obtain ⟨k, hk, rfl, hd⟩ := hrel
    by_cases hlt : k < n
    · obtain ⟨x, hxk⟩ : ∃ x, xs[k]? = some x := ⟨_, List.getElem?_eq_getElem (by omega)⟩
      obtain ⟨b, off, rfl, hb, hc⟩ := HX.out.at_ (by omega)
      have c0 : w.cell? ⟨b, off + k, none⟩ = some (.int .i64 x) := by simpa using hc k _ hxk 0 _ rfl
      have HS := Lib.hid (has_step (q := q) hxk)
      have HK := Lib.hid hxk
      clear hc hxk
      by_cases he : x = q
      · have he' : (x == q) = true := by simp [he]
        have e0 : Hid (has xs q = true) := Lib.hid (by rw [has_iff, ← he]; exact List.mem_of_getElem? HK.out)
        clear he
        go_wp2_with fail
        go_ret
        exact ⟨ret_bool e0.out.symm, rfl⟩
      · have he' : (x == q) = false := by simp [he]
        have HE := Lib.hid he'
        clear he
        go_wp2_with fail
        go_round
        case rel => exact ⟨k + 1, by omega, by go_num, Lib.hid (by rw [HS.out, hd.out, HE.out]; rfl)⟩
        case measure => simp [intOf]; omega
    · have e0 : Hid (has xs q = false) := Lib.hid (by have := hd.out; rwa [List.take_of_length_le (by omega)] at this)
      go_wp2_with fail
      go_ret
      exact ⟨ret_bool e0.out.symm, rfl⟩

end Go.Proofs.YtlaclkiedjhphaaGreatDoor.cal
