/- MarkTurns: the law. Condition: the table of powers of ten. -/
import Derived.Test.YtjemmddgeejffaaDoorMkG
import Derived.RegionTactic
import Derived.BigRegion
import Derived.ChangeAlike
namespace Go.Proofs.YtjemmddgeejffaaDoor
open Go.RowKit Go.Proofs.YtjemmddgeejffaaDoor.kit Go.PlainAid
set_option linter.unusedVariables false

theorem conv2d (w : World) (c d : Int) : (convert 29 9 (.slice (some ⟨w.heap.size, 0, none⟩) 2 2)).run Tryd.prog (w.alloc (.cells #[.int .u8 c, .int .u8 d] 5)).drew = .ok (.string ⟨#[UInt8.ofNat c.toNat, UInt8.ofNat d.toNat]⟩) (w.alloc (.cells #[.int .u8 c, .int .u8 d] 5)).drew :=
  run_convert_bytes_arg _ _ _ Tryd.underlying29 Tryd.underlying5 w.heap.size 0 2 2 [c, d] rfl (fun i hi => by
    have : i = 0 ∨ i = 1 := by omega
    rcases this with rfl | rfl
    · exact ((Blk.new w 5 #[.int .u8 c, .int .u8 d]).drew).cell 0
    · exact ((Blk.new w 5 #[.int .u8 c, .int .u8 d]).drew).cell 1) _ Tryd.underlying9
theorem makeE_bad {o : ByteArray} {n : Int} (h : ¬ (ownB o = true ∧ 0 ≤ n ∧ n ≤ 999999)) : ∃ c, makeE o n = (⟨#[]⟩, c) ∧ c ≠ 0 := by
  unfold makeE
  by_cases h1 : ownB o = true
  · rw [if_pos h1]
    by_cases h2 : 0 ≤ n ∧ n ≤ 999999
    · exact absurd ⟨h1, h2⟩ h
    · rw [if_neg h2]; exact ⟨3, rfl, by omega⟩
  · rw [if_neg h1]; exact ⟨1, rfl, by omega⟩
theorem makeE_ok {o : ByteArray} {n : Nat} (h : ownB o = true) (hn : n ≤ 999999) : makeE o n = (makeV o n, 0) := by
  unfold makeE
  rw [if_pos h, if_pos (by omega)]; rfl
theorem eq_str (a b : ByteArray) : (a.toList == b.toList) = decide (a = b) := by
  rw [ByteArray.toList_eq, ByteArray.toList_eq, Bool.eq_iff_iff]
  simp only [beq_iff_eq, decide_eq_true_eq]
  constructor
  · intro h; exact ByteArray.ext (Array.toList_inj.1 h)
  · rintro rfl; rfl
set_option maxRecDepth 100000 in
set_option maxHeartbeats 3200000 in
theorem turns_in (o : ByteArray) (n k : Nat) (w : World) (hk : k ≤ 10) (ho : ownB o = true) (hn : n ≤ 999999) (hs : o.size ≤ maxLen) (ht : PowTab w) :
    Calls Tryd.prog 4 #[.string o, .int .i64 (n : Int), .int .i64 (k : Int)] w fun e w' => e = .returned (.bool true) ∧ Below w.heap.size w w' := by
  have HZ := Lib.hid hs
  have HT := Lib.hid ht
  have HTB := Lib.hid (Lib.tabBelow_of_tabIs ht)
  clear ht hs
  have HE := Lib.hid (makeE_ok ho hn)
  obtain ⟨M, hM⟩ : ∃ M, makeV o n = M := ⟨_, rfl⟩
  have hz : M.size = 12 := by rw [← hM]; exact mk_size ho hn
  have hr : rightB M = true := by rw [← hM]; exact mk_right ho hn
  rw [hM] at HE
  have hb := get_bt M
  have h2 := conv2d
  have HR := Lib.hid (fun w => right_any (swapV M k) w (by unfold maxLen; rw [swap_size hz hk]; omega))
  rw [swap_right hr hk, ← eq_str] at HR
  have HS : Hid (M.extract 0 k ++ (⟨#[UInt8.ofNat (bt M (k + 1)).toNat, UInt8.ofNat (bt M k).toNat]⟩ : ByteArray) ++ M.extract (k + 2) 12 = swapV M k) := Lib.hid (by unfold swapV; rw [hz])
  clear hM ho hr
  have k5 : (k : Int) ≤ 12 := by omega
  have k1 : (k : Int) < 12 := by omega
  have k2 : (k : Int) + 1 < 12 := by omega
  have k3 : (0 : Int) ≤ (k : Int) + 1 := by omega
  have k4 : (k : Int) + 2 ≤ 12 := by omega
  have e1 : ((k : Int) + 1).toNat = k + 1 := by omega
  have e2 : ((k : Int) + 2).toNat = k + 2 := by omega
  go_enter Tryd.func4, Tryd.ntmps4
  go_wp2_with fail
  refine (awake_any _ HT.out).mono ?_
  rintro e w1 ⟨rfl, hb1⟩
  have HB1 := Lib.hid hb1
  clear hb1
  go_wp2_with fail
  refine (make_any o _ _ HZ.out (HTB.out.on HB1.out).here).mono ?_
  rw [HE.out]
  rintro e w2 ⟨rfl, hb2⟩
  have HB2 := Lib.hid (HB1.out.trans (hb2.mono HB1.out.size))
  clear hb2
  go_wp2_with fail
  go_region
  rw [HS.out]
  have HB3 : Hid (Below w.heap.size w (w2.alloc (.cells #[.int .u8 (bt M (k + 1)), .int .u8 (bt M k)] 5)).drew) := Lib.hid (below_drewN (HB2.out.alloc HB2.out.size _) 1)
  go_wp2_with fail
  refine (HR.out _).mono ?_
  rintro e w4 ⟨rfl, hb4⟩
  have HB4 := Lib.hid (HB3.out.trans (hb4.mono HB3.out.size))
  clear hb4
  go_wp2_with fail
  go_ret
  exact ⟨ret_bool (by simp), HB4.out⟩
set_option maxRecDepth 100000 in
set_option maxHeartbeats 3200000 in
theorem markTurns_walk (o : ByteArray) (n c : Int) (w : World) (hs : o.size ≤ maxLen) (ht : PowTab w) :
    Calls Tryd.prog 4 #[.string o, .int .i64 n, .int .i64 c] w fun e w' => e = .returned (.bool true) ∧ Below w.heap.size w w' := by
  by_cases hA : ownB o = true ∧ 0 ≤ n ∧ n ≤ 999999
  rotate_left
  · have HZ := Lib.hid hs
    have HT := Lib.hid ht
    have HTB := Lib.hid (Lib.tabBelow_of_tabIs ht)
    clear ht hs
    obtain ⟨f, hf, hf0⟩ := makeE_bad hA
    have HE := Lib.hid hf
    have c1 : (f != 0) = true := by simpa using hf0
    have c2 : (f == 0) = false := by simpa using hf0
    clear hA hf
    go_enter Tryd.func4, Tryd.ntmps4
    go_wp2_with fail
    refine (awake_any _ HT.out).mono ?_
    rintro e w1 ⟨rfl, hb1⟩
    have HB1 := Lib.hid hb1
    clear hb1
    go_wp2_with fail
    refine (make_any o _ _ HZ.out (HTB.out.on HB1.out).here).mono ?_
    rw [HE.out]
    rintro e w2 ⟨rfl, hb2⟩
    have HB2 := Lib.hid (HB1.out.trans (hb2.mono HB1.out.size))
    clear hb2
    go_wp2_with fail
    go_ret
    exact ⟨rfl, HB2.out⟩
  obtain ⟨m, rfl⟩ : ∃ m : Nat, n = m := ⟨n.toNat, by omega⟩
  have hm : m ≤ 999999 := by omega
  by_cases hk : 0 ≤ c ∧ c ≤ 10
  · obtain ⟨k, rfl⟩ : ∃ m : Nat, c = m := ⟨c.toNat, by omega⟩
    exact turns_in o m k w (by omega) hA.1 hm hs ht
  · have HZ := Lib.hid hs
    have HT := Lib.hid ht
    have HTB := Lib.hid (Lib.tabBelow_of_tabIs ht)
    clear ht hs
    have HE := Lib.hid (makeE_ok hA.1 hm)
    by_cases c0 : c < 0
    · have d0 : decide (c < 0) = true := decide_eq_true c0
      clear hA hk
      go_enter Tryd.func4, Tryd.ntmps4
      go_wp2_with fail
      refine (awake_any _ HT.out).mono ?_
      rintro e w1 ⟨rfl, hb1⟩
      have HB1 := Lib.hid hb1
      clear hb1
      go_wp2_with fail
      refine (make_any o _ _ HZ.out (HTB.out.on HB1.out).here).mono ?_
      rw [HE.out]
      rintro e w2 ⟨rfl, hb2⟩
      have HB2 := Lib.hid (HB1.out.trans (hb2.mono HB1.out.size))
      clear hb2
      go_wp2_with fail
      go_ret
      exact ⟨rfl, HB2.out⟩
    · have d0 : decide (c < 0) = false := decide_eq_false c0
      have d1 : decide (10 < c) = true := decide_eq_true (by omega)
      clear hA hk
      go_enter Tryd.func4, Tryd.ntmps4
      go_wp2_with fail
      refine (awake_any _ HT.out).mono ?_
      rintro e w1 ⟨rfl, hb1⟩
      have HB1 := Lib.hid hb1
      clear hb1
      go_wp2_with fail
      refine (make_any o _ _ HZ.out (HTB.out.on HB1.out).here).mono ?_
      rw [HE.out]
      rintro e w2 ⟨rfl, hb2⟩
      have HB2 := Lib.hid (HB1.out.trans (hb2.mono HB1.out.size))
      clear hb2
      go_wp2_with fail
      go_ret
      exact ⟨rfl, HB2.out⟩
end Go.Proofs.YtjemmddgeejffaaDoor
