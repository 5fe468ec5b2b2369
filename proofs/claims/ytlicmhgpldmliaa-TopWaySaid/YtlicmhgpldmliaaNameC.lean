/- supercargo/custody.isName tells whether a text is a name. No condition. -/
import Derived.Test.YtlicmhgpldmliaaNames
namespace Go.Proofs.Ytlicmhgpldmliaa.kit
open Go.RowKit
set_option linter.unusedVariables false

set_option maxHeartbeats 1000000 in
theorem iname_any (s : ByteArray) (w : World) (hs : s.size ≤ maxLen) :
    Calls Try.prog 62 #[.string s] w fun e w' => e = .returned (.bool (nameB s.data.toList)) ∧ w = w' := by
  unfold maxLen at hs
  have hlen := len_list s
  by_cases h1 : s.size < 1
  · have e : nameB s.data.toList = false := by unfold nameB; rw [hlen]; simp; omega
    rw [e]
    clear hlen e
    go_enter Try.func62, Try.ntmps62
    go_wp2
    go_ret
    exact ⟨rfl, rfl⟩
  by_cases h2 : 16 < s.size
  · have e : nameB s.data.toList = false := by unfold nameB; rw [hlen]; simp; omega
    rw [e]
    clear hlen e
    go_enter Try.func62, Try.ntmps62
    go_wp2
    go_ret
    exact ⟨rfl, rfl⟩
  have e : nameB s.data.toList = allok s.data.toList := by unfold nameB; rw [hlen]; simp; omega
  rw [e]
  clear e
  have HLEN := Lib.hid hlen
  clear hlen
  go_enter Try.func62, Try.ntmps62
  go_wp2
  go_loop [15] (fun i => ∃ k : Nat, k ≤ s.size ∧ i = .int .i64 k ∧ Hid (allok (s.data.toList.take k) = true)) (fun i => s.size - (intOf i).toNat)
  case atStart => exact ⟨0, Nat.zero_le _, rfl, rfl⟩
  case round =>
    obtain ⟨k, hk, rfl, hall⟩ := hrel
    by_cases hlt : k < s.size
    · have HT := Lib.hid (take_snoc s k hlt)
      have hbad := fun h => all_bad hlt h
      have HBAD := Lib.hid hbad
      clear hbad
      rcases okc_cases s[k] with ⟨c1, b1, b2, hc⟩ | ⟨⟨c1, c2⟩, b1, b2, hc⟩ | ⟨⟨c1, c2⟩, b1, b2, hc⟩ | ⟨⟨c1, c2⟩, b1, b2, hc⟩ | ⟨⟨c1, c2⟩, b1, b2, hc⟩ | ⟨⟨c1, c2⟩, b1, b2, hc⟩ | ⟨c1, b1, b2, hc⟩
      all_goals
        have HC := Lib.hid hc
        clear hc
        try have n1 : ¬ (s[k].toNat : Int) ≤ 57 := by omega
        try have n2 : ¬ (s[k].toNat : Int) ≤ 122 := by omega
        go_wp2
        first
          | (go_round
             case rel => exact ⟨k + 1, by omega, by go_num, by show _ = _; rw [HT.out]; exact allok_snoc _ _ hall.out HC.out⟩
             case measure => simp [intOf]; omega)
          | (go_ret
             exact ⟨ret_bool ((HBAD.out HC.out).symm), rfl⟩)
    · go_wp2
      go_ret
      have hkn : k = s.size := by omega
      exact ⟨ret_bool (by rw [← hall.out, List.take_of_length_le (by rw [HLEN.out]; omega)]), rfl⟩
end Go.Proofs.Ytlicmhgpldmliaa.kit
