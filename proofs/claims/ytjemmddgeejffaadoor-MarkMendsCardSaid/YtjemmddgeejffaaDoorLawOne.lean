/- MarkOne: the law. Condition: the table of powers of ten. -/
import Derived.Test.YtjemmddgeejffaaDoorLawCut
import Derived.Test.YtjemmddgeejffaaDoorMeB
namespace Go.Proofs.YtjemmddgeejffaaDoor
open Go.RowKit Go.Proofs.YtjemmddgeejffaaDoor.kit Go.PlainAid
set_option linter.unusedVariables false

theorem u8_of_wf {n : Int} (h : (Lit.int .u8 n).wf = true) : 0 ≤ n ∧ n ≤ 255 := by
  simp [Lit.wf, IntKind.min, IntKind.max, IntKind.signed, IntKind.bits] at h
  omega
theorem conv1d (w : World) (c : Int) : (convert 29 9 (.slice (some ⟨w.heap.size, 0, none⟩) 1 1)).run Tryd.prog (w.alloc (.cells #[.int .u8 c] 5)).drew = .ok (.string ⟨#[UInt8.ofNat c.toNat]⟩) (w.alloc (.cells #[.int .u8 c] 5)).drew :=
  run_convert_bytes_arg _ _ _ Tryd.underlying29 Tryd.underlying5 w.heap.size 0 1 1 [c] rfl (fun i hi => by
    obtain rfl : i = 0 := by omega
    exact ((Blk.new w 5 #[.int .u8 c]).drew).cell 0) _ Tryd.underlying9
theorem get_str {w : World} {A : Option Addr} {n : Nat} {xs : List ByteArray} (h : SliceOf w 1 strC A n xs) {k : Nat} (hk : k < n) : ∃ b off x, A = some ⟨b, off, none⟩ ∧ xs[k]? = some x ∧ w.cell? ⟨b, off + k, none⟩ = some (.string x) := by
  have hl := h.len
  obtain ⟨x, hxk⟩ : ∃ x, xs[k]? = some x := ⟨_, List.getElem?_eq_getElem (by omega)⟩
  obtain ⟨b, off, rfl, hb, hc⟩ := h.at_ (by omega)
  exact ⟨b, off, x, rfl, hxk, by simpa using hc k _ hxk 0 _ rfl⟩
theorem mem_drop {xs : List ByteArray} {s x : ByteArray} {k : Nat} (h : s ∈ xs.drop k) (hx : xs[k]? = some x) (hne : x ≠ s) : s ∈ xs.drop (k + 1) := by
  obtain ⟨hk, he⟩ := List.getElem?_eq_some_iff.1 hx
  rw [List.drop_eq_getElem_cons hk, List.mem_cons] at h
  rcases h with h | h
  · rw [h, he] at hne; exact (hne rfl).elim
  · exact h
set_option maxRecDepth 100000 in
set_option maxHeartbeats 3200000 in
theorem one_in (o : ByteArray) (n k : Nat) (to : Int) (w : World) (hk : k ≤ 11) (hto : 0 ≤ to ∧ to ≤ 255) (ho : ownB o = true) (hn : n ≤ 999999) (hs : o.size ≤ maxLen) (ht : PowTab w) :
    Calls Tryd.prog 10 #[.string o, .int .i64 (n : Int), .int .i64 (k : Int), .int .u8 to] w fun e w' => e = .returned (.bool true) ∧ Below w.heap.size w w' := by
  have HZ := Lib.hid hs
  have HT := Lib.hid ht
  have HTB := Lib.hid (Lib.tabBelow_of_tabIs ht)
  clear ht hs
  have HE := Lib.hid (makeE_ok ho hn)
  obtain ⟨M, hM⟩ : ∃ M, makeV o n = M := ⟨_, rfl⟩
  have hz : M.size = 12 := by rw [← hM]; exact mk_size ho hn
  have hr : rightB M = true := by rw [← hM]; exact mk_right ho hn
  rw [hM] at HE
  have hb := get_bt M
  have h2 := conv1d
  have k5 : (k : Int) ≤ 12 := by omega
  have k1 : (k : Int) < 12 := by omega
  have k3 : (0 : Int) ≤ (k : Int) := by omega
  have k4 : (k : Int) + 1 ≤ 12 := by omega
  have k6 : ¬ (11 : Int) < (k : Int) := by omega
  have e1 : ((k : Int) + 1).toNat = k + 1 := by omega
  by_cases hne : bt M k = to
  · have d0 : (bt M k == to) = true := by simpa using hne
    clear hM ho hr hne
    go_enter Tryd.func10, Tryd.ntmps10
    go_wp2_with fail
    refine (awake_any _ HT.out).mono ?_
    rintro e w1 ⟨rfl, hb1⟩
    have HB1 := Lib.hid hb1
    clear hb1
    go_wp2_with fail
    refine (make_any o _ _ HZ.out (HTB.out.on HB1.out).here).mono ?_
    rw [HE.out]
    rintro e w2 ⟨rfl, hb2⟩
    have HB2 := Lib.hid (HB1.out.trans (hb2.mono HB1.out.size))
    clear hb2
    go_wp2_with fail
    go_ret
    exact ⟨rfl, HB2.out⟩
  have d0 : (bt M k == to) = false := by simpa using hne
  have hz1 := one_size (x := to) hz hk
  have HW := Lib.hid (one_wrong hr hto hk hne)
  have HME := Lib.hid (one_mend hr hk hto hne)
  obtain ⟨T, hT⟩ : ∃ T, oneV M k to = T := ⟨_, rfl⟩
  have HS : Hid (M.extract 0 k ++ (⟨#[UInt8.ofNat to.toNat]⟩ : ByteArray) ++ M.extract (k + 1) 12 = T) := Lib.hid (by rw [← hT]; unfold oneV; rw [hz])
  rw [hT] at hz1 HW HME
  have hTm : T.size ≤ maxLen := by unfold maxLen; omega
  have HR := Lib.hid (fun w => right_any T w hTm)
  have HO := Lib.hid (fun w => owner_any T w hTm)
  have HN := Lib.hid (fun w => number_any T w hTm)
  rw [HW.out] at HR HO HN
  simp only [Bool.false_eq_true, if_false] at HO HN
  have HMD := Lib.hid (fun w => mend_any T w hz1)
  clear hM ho hr hne hT hz1 hTm
  go_enter Tryd.func10, Tryd.ntmps10
  go_wp2_with fail
  refine (awake_any _ HT.out).mono ?_
  rintro e w1 ⟨rfl, hb1⟩
  have HB1 := Lib.hid hb1
  clear hb1
  go_wp2_with fail
  refine (make_any o _ _ HZ.out (HTB.out.on HB1.out).here).mono ?_
  rw [HE.out]
  rintro e w2 ⟨rfl, hb2⟩
  have HB2 := Lib.hid (HB1.out.trans (hb2.mono HB1.out.size))
  clear hb2
  go_wp2_with fail
  go_region
  rw [HS.out]
  have HB3 : Hid (Below w.heap.size w (w2.alloc (.cells #[.int .u8 to] 5)).drew) := Lib.hid (below_drewN (HB2.out.alloc HB2.out.size _) 1)
  go_wp2_with fail
  refine (HR.out _).mono ?_
  rintro e w4 ⟨rfl, hb4⟩
  have HB4 := Lib.hid (HB3.out.trans (hb4.mono HB3.out.size))
  clear hb4
  go_wp2_with fail
  refine (HO.out _).mono ?_
  rintro e w5 ⟨rfl, hb5⟩
  have HB5 := Lib.hid (HB4.out.trans (hb5.mono HB4.out.size))
  clear hb5
  go_wp2_with fail
  refine (HN.out _).mono ?_
  rintro e w6 ⟨rfl, hb6⟩
  have HB6 := Lib.hid (HB5.out.trans (hb6.mono HB5.out.size))
  clear hb6
  go_wp2_with fail
  refine (HMD.out _).mono ?_
  rintro e w7 ⟨A7, n7, c7, rfl, hs7, hn7, hb7⟩
  have HB7 := Lib.hid (HB6.out.trans (hb7.mono HB6.out.size))
  have HS7 := Lib.hid hs7
  have hl7 := hs7.len
  clear hb7 hs7
  go_wp2_with fail
  go_loop [13] (fun i => ∃ q : Nat, q ≤ n7 ∧ i = .int .i64 q ∧ Hid (M ∈ (mendV T).drop q)) (fun i => n7 - (intOf i).toNat)
  case atStart => exact ⟨0, by omega, rfl, HME⟩
  case round =>
    obtain ⟨q, hq, rfl, hd⟩ := hrel
    by_cases hlt : q < n7
    · obtain ⟨b, off, x, rfl, hx, c0⟩ := get_str HS7.out hlt
      have HX := Lib.hid hx
      clear hx
      have q1 := eq_str x M
      by_cases hxs : x = M
      · have d1 : (x.toList == M.toList) = true := by rw [q1]; exact decide_eq_true hxs
        clear q1 hxs
        go_wp2_with fail
        go_ret
        exact ⟨rfl, HB7.out⟩
      · have d1 : (x.toList == M.toList) = false := by rw [q1]; exact decide_eq_false hxs
        have HD2 := Lib.hid (mem_drop hd.out HX.out hxs)
        clear q1 hxs
        go_wp2_with fail
        go_round
        case rel => exact ⟨q + 1, by omega, by go_num, HD2⟩
        case measure => simp [intOf]; omega
    · exfalso
      have := hd.out
      rw [List.drop_eq_nil_of_le (by omega)] at this
      cases this
set_option maxRecDepth 100000 in
set_option maxHeartbeats 3200000 in
theorem markOne_walk (o : ByteArray) (n c to : Int) (w : World) (hs : o.size ≤ maxLen) (hto : 0 ≤ to ∧ to ≤ 255) (ht : PowTab w) :
    Calls Tryd.prog 10 #[.string o, .int .i64 n, .int .i64 c, .int .u8 to] w fun e w' => e = .returned (.bool true) ∧ Below w.heap.size w w' := by
  by_cases hA : ownB o = true ∧ 0 ≤ n ∧ n ≤ 999999
  rotate_left
  · have HZ := Lib.hid hs
    have HT := Lib.hid ht
    have HTB := Lib.hid (Lib.tabBelow_of_tabIs ht)
    clear ht hs
    obtain ⟨f, hf, hf0⟩ := makeE_bad hA
    have HE := Lib.hid hf
    have c1 : (f != 0) = true := by simpa using hf0
    have c2 : (f == 0) = false := by simpa using hf0
    clear hA hf
    go_enter Tryd.func10, Tryd.ntmps10
    go_wp2_with fail
    refine (awake_any _ HT.out).mono ?_
    rintro e w1 ⟨rfl, hb1⟩
    have HB1 := Lib.hid hb1
    clear hb1
    go_wp2_with fail
    refine (make_any o _ _ HZ.out (HTB.out.on HB1.out).here).mono ?_
    rw [HE.out]
    rintro e w2 ⟨rfl, hb2⟩
    have HB2 := Lib.hid (HB1.out.trans (hb2.mono HB1.out.size))
    clear hb2
    go_wp2_with fail
    go_ret
    exact ⟨rfl, HB2.out⟩
  obtain ⟨m, rfl⟩ : ∃ m : Nat, n = m := ⟨n.toNat, by omega⟩
  have hm : m ≤ 999999 := by omega
  by_cases hk : 0 ≤ c ∧ c ≤ 11
  · obtain ⟨k, rfl⟩ : ∃ m : Nat, c = m := ⟨c.toNat, by omega⟩
    exact one_in o m k to w (by omega) hto hA.1 hm hs ht
  · have HZ := Lib.hid hs
    have HT := Lib.hid ht
    have HTB := Lib.hid (Lib.tabBelow_of_tabIs ht)
    clear ht hs
    have HE := Lib.hid (makeE_ok hA.1 hm)
    by_cases c0 : c < 0
    · have d0 : decide (c < 0) = true := decide_eq_true c0
      clear hA hk
      go_enter Tryd.func10, Tryd.ntmps10
      go_wp2_with fail
      refine (awake_any _ HT.out).mono ?_
      rintro e w1 ⟨rfl, hb1⟩
      have HB1 := Lib.hid hb1
      clear hb1
      go_wp2_with fail
      refine (make_any o _ _ HZ.out (HTB.out.on HB1.out).here).mono ?_
      rw [HE.out]
      rintro e w2 ⟨rfl, hb2⟩
      have HB2 := Lib.hid (HB1.out.trans (hb2.mono HB1.out.size))
      clear hb2
      go_wp2_with fail
      go_ret
      exact ⟨rfl, HB2.out⟩
    · have d0 : decide (c < 0) = false := decide_eq_false c0
      have d1 : decide (11 < c) = true := decide_eq_true (by omega)
      clear hA hk
      go_enter Tryd.func10, Tryd.ntmps10
      go_wp2_with fail
      refine (awake_any _ HT.out).mono ?_
      rintro e w1 ⟨rfl, hb1⟩
      have HB1 := Lib.hid hb1
      clear hb1
      go_wp2_with fail
      refine (make_any o _ _ HZ.out (HTB.out.on HB1.out).here).mono ?_
      rw [HE.out]
      rintro e w2 ⟨rfl, hb2⟩
      have HB2 := Lib.hid (HB1.out.trans (hb2.mono HB1.out.size))
      clear hb2
      go_wp2_with fail
      go_ret
      exact ⟨rfl, HB2.out⟩
end Go.Proofs.YtjemmddgeejffaaDoor
