/- Custody: a history checked. No condition. -/
import Derived.Test.YtlicmhgpldmliaaWyM
import Derived.Lib.Slices
namespace Go.Proofs.Ytlicmhgpldmliaa.kit
open Go.RowKit
set_option linter.unusedVariables false
set_option linter.unusedSimpArgs false
/-- Hand-overs that a clone copies: a row of one's own. -/
theorem clone_hands (A : Option Addr) (n c : Nat) (xs : List Hd) (w : World) (hx : SliceOf w 5 hdC A n xs) (hm : n ≤ 4096) :
    Calls Try.prog 43 #[.slice A n c] w fun e w' => ∃ v, e = .returned v ∧ w'.ownsRow w.heap.size 63 5 v n (xs.flatMap hdC) ∧ Below w.heap.size w w' := by
  have q : ∀ (w : World) (a : Option Addr) (n c n' c' : Nat), (binOp .eql 66 (.slice a n c) (.slice none n' c')).run Try.prog w = .ok (.bool a.isNone) w := fun w a n c n' c' => Lib.run_eql_slice_nil w _ _ a n c n' c' Try.underlying66
  cases A with
  | none =>
    have hn : n = 0 := by
      rcases Nat.eq_zero_or_pos n with h | h
      · exact h
      · obtain ⟨b, off, h2, _⟩ := hx.at_ h
        cases h2
    subst hn
    have hxs : xs = [] := List.eq_nil_of_length_eq_zero hx.len
    subst hxs
    clear hx
    go_enter Try.func43, Try.ntmps43
    go_wp2_with fail
    go_ret
    exact ⟨_, rfl, World.ownsRow_nil _ _ _ _, Below.refl _ _⟩
  | some a =>
    have HR := Lib.hid ((hx.below (one_alloc w (.cells #[] 63))).reads hd_len)
    have HO := Lib.hid (own_first0 (e := 63) (C := 5) w)
    have HB := Lib.hid (one_alloc w (.cells #[] 63))
    have hbs : (Instr.buildSlice 66 0 #[]).run Try.prog w = .ok (.slice (some ⟨w.heap.size, 0, none⟩) 0 0) (w.alloc (.cells #[] 63)) := by kernel_rfl
    obtain ⟨i0, hi, hz0, hz1, hz2⟩ := info_parts infoHd
    have HS : Hid (w.heap.size ≤ (w.alloc (.cells #[] 63)).heap.size) := Lib.hid (size_first0 _ _)
    clear hx
    go_enter Try.func43, Try.ntmps43
    go_wp2_with (at_builtin; refine wpList_append_any_s _ rfl (.tmp 5) (.tmp 6) 66 rfl w.heap.size 63 i0 _ 5 72 Try.underlying66 hi hz0 hz1 hz2 rfl (by omega) _ 0 [] rfl HO.out _ (some a) n c (xs.flatMap hdC) rfl HR.out (hd_one xs) (by unfold maxLen; omega) (by omega) HS.out ?_; intro A9 c9 w9 hown9 hg9 hl9; have HB9 := Lib.hid (grown_emp0 HB.out hg9 (Nat.le_refl _)); have HO9 := Lib.hid hown9; clear hown9 hg9 hl9)
    go_ret
    exact ⟨_, rfl, by simpa using HO9.out, HB9.out⟩
theorem history_any (B gc gm : Nat) (bx : ByteArray) (hs : List Hd) (w : World) (hC : Chn B bx gc gm hs w) (hm : hs.length ≤ 64) :
    Calls Try.prog 21 #[(.pointer (some ⟨gc, 0, none⟩)), .string bx] w fun e w' => ∃ A c, e = .returned (.slice A hs.length c) ∧ SliceOf w' 5 hdC A hs.length hs ∧ Below w.heap.size w w' := by
  obtain ⟨nn, A, c, hmp, hown⟩ := hC.row
  have c0 := hC.blk.cell 0
  simp only [List.getElem?_toArray, List.getElem?_cons_zero] at c0
  have hlk := hmp.look keyStr (P := Try.prog) (mty := 105) Try.underlying105 Try.underlying9 _ zero_hd bx false
  rw [putF_same] at hlk
  simp only [Option.map_some, Option.getD_some, Bool.false_eq_true, if_false] at hlk
  have HCL := Lib.hid (clone_hands A hs.length c hs w (SliceOf.of_own_s hown hd_len rfl rfl) (by omega))
  obtain ⟨n, hn⟩ : ∃ n, hs.length = n := ⟨_, rfl⟩
  have HHN := Lib.hid hn
  rw [hn] at hlk HCL ⊢
  clear hn hmp hown hC
  go_enter Try.func21, Try.ntmps21
  go_wp2_with fail
  refine HCL.out.mono ?_
  rintro e w1 ⟨v, rfl, ho, hb⟩
  obtain ⟨A9, c9, rfl⟩ := own_sl ho
  have HS := Lib.hid (SliceOf.of_own_s ho hd_len rfl HHN.out)
  have HB := Lib.hid hb
  clear ho hb c0 hlk HCL
  go_wp2_with fail
  go_ret
  exact ⟨A9, c9, rfl, HS.out, HB.out⟩
set_option maxRecDepth 100000 in
set_option maxHeartbeats 3200000 in
theorem as_any (B gc gm : Nat) (bx : ByteArray) (hs : List Hd) (y : Hd) (k : Nat) (day : Int) (w : World) (hC : Chn B bx gc gm hs w) (hm : hs.length ≤ 64) (hk : hs.length = k + 1) (hy : hs[k]? = some y) (hd : y.day ≤ day) :
    Calls Try.prog 44 #[(.pointer (some ⟨gc, 0, none⟩)), .string bx, .int .i64 day] w fun e w' => e = .returned (.tuple #[.string y.to, .string y.pl, .bool true]) ∧ Below w.heap.size w w' := by
  obtain ⟨nn, A, c, hmp, hown⟩ := hC.row
  have c0 := hC.blk.cell 0
  simp only [List.getElem?_toArray, List.getElem?_cons_zero] at c0
  have hlk := hmp.look keyStr (P := Try.prog) (mty := 105) Try.underlying105 Try.underlying9 _ zero_hd bx false
  rw [putF_same] at hlk
  simp only [Option.map_some, Option.getD_some, Bool.false_eq_true, if_false] at hlk
  obtain ⟨ba, oa, y', rfl, hyk, hyc⟩ := hd_at (SliceOf.of_own_s hown hd_len rfl rfl) (show k < hs.length by omega)
  rw [hy] at hyk
  injection hyk with hyk
  subst hyk
  rw [hk] at hlk
  have d4 := hyc 4 _ rfl
  have HD2 := Lib.hid (hyc 2 _ rfl)
  have HD3 := Lib.hid (hyc 3 _ rfl)
  have km : IntKind.i64.wrap (((k + 1 : Nat) : Int) - 1) = (k : Int) := by rw [show ((k + 1 : Nat) : Int) - 1 = (k : Int) by omega]; exact IntWalk.i64_in _ (by omega)
  have kn : (k : Int) < ((k + 1 : Nat) : Int) := by omega
  have k0 : (0 : Int) ≤ (k : Int) := by omega
  have k8 : k ≤ 64 := by omega
  clear hmp hown hyc hC hy hk
  go_enter Try.func44, Try.ntmps44
  go_wp2_with fail
  go_loopw [10] (fun i wr => i = .int .i64 k ∧ Hid (w = wr)) (fun _ _ => 0)
  case atStart => exact ⟨by first | go_num | (congr 1; exact IntWalk.i64_in _ (by omega)), Lib.hid (by first | rfl | trivial)⟩
  case round =>
    obtain ⟨rfl, hwr⟩ := hrel
    obtain rfl := hwr.out
    clear hwr
    go_upto_region 6 with (fail)
    try simp only [Act.put, List.setIfInBounds_toArray, List.set_cons_zero, List.set_cons_succ]
    refine wp_region_soft [Is (.slice (some ⟨ba, oa, none⟩) (k + 1) c), Is (.int .i64 (k : Int)), Is (.pointer (some ⟨ba, oa + k * 5, none⟩)), Is (.pointer (some ⟨ba, oa + k * 5 + 2, none⟩)), Is (.string y.to), Is (.slice (some ⟨ba, oa, none⟩) (k + 1) c), Is (.int .i64 (k : Int)), Is (.pointer (some ⟨ba, oa + k * 5, none⟩)), Is (.pointer (some ⟨ba, oa + k * 5 + 3, none⟩)), Is (.string y.pl), Is (.string y.to), Is (.string y.pl), Is (.bool true)] ⟨stab_is _, stab_is _, stab_is _, stab_is _, stab_is _, stab_is _, stab_is _, stab_is _, stab_is _, stab_is _, stab_is _, stab_is _, stab_is _, trivial⟩ (by kernel_rfl) (by kernel_rfl) ?_ ?_
    · refine ⟨?_, ?_, ?_, ?_, ?_, ?_, ?_, ?_, ?_, ?_, ?_, ?_, ?_, trivial⟩
      all_goals intro done vs ac W1 hdep hB hR hE
      all_goals have ec : ∀ v : Value, ac.eval (.const v) = v := fun _ => rfl
      all_goals try simp [Region.binds] at hdep
      · have e9 : ac.eval (.tmp 9) = .slice (some ⟨ba, oa, none⟩) (k + 1) c := (hE 9 (by simp)).trans (by simp [evF, Act.eval])
        exact soft_value (.slice (some ⟨ba, oa, none⟩) (k + 1) c) (by unfold execOp; simp only [e9, ec]; rfl) rfl
      · have e10 : ac.eval (.tmp 10) = .int .i64 (k : Int) := (hE 10 (by simp)).trans (by simp [evF, Act.eval])
        exact soft_value (.int .i64 (k : Int)) (by unfold execOp; simp only [e10, ec]; rfl) rfl
      · have d0 : vs 0 = .slice (some ⟨ba, oa, none⟩) (k + 1) c := hR 0 (by simp [hdep])
        have e31 : ac.eval (.tmp 31) = .slice (some ⟨ba, oa, none⟩) (k + 1) c := (hE 31 (by simp)).trans (by simp [evF, hdep, d0])
        have d1 : vs 1 = .int .i64 (k : Int) := hR 1 (by simp [hdep])
        have e32 : ac.eval (.tmp 32) = .int .i64 (k : Int) := (hE 32 (by simp)).trans (by simp [evF, hdep, d1])
        exact soft_value (.pointer (some ⟨ba, oa + k * 5, none⟩)) (by simp [execOp, e31, e32, ixk 66 _ 5 Try.underlying66 (by kernel_rfl) ba oa k (k + 1) c (Nat.lt_succ_self k), Result.andThen]) rfl
      · have d2 : vs 2 = .pointer (some ⟨ba, oa + k * 5, none⟩) := hR 2 (by simp [hdep])
        have e33 : ac.eval (.tmp 33) = .pointer (some ⟨ba, oa + k * 5, none⟩) := (hE 33 (by simp)).trans (by simp [evF, hdep, d2])
        exact soft_value (.pointer (some ⟨ba, oa + k * 5 + 2, none⟩)) (by unfold execOp; simp only [e33]; kernel_rfl) rfl
      · have d3 : vs 3 = .pointer (some ⟨ba, oa + k * 5 + 2, none⟩) := hR 3 (by simp [hdep])
        have e34 : ac.eval (.tmp 34) = .pointer (some ⟨ba, oa + k * 5 + 2, none⟩) := (hE 34 (by simp)).trans (by simp [evF, hdep, d3])
        have hcx := (hB.cell (World.block_lt_of_cell? _ _ HD2.out)).trans HD2.out
        exact soft_value (.string y.to) (by unfold execOp; simp only [e34]; go_simp) rfl
      · have e9 : ac.eval (.tmp 9) = .slice (some ⟨ba, oa, none⟩) (k + 1) c := (hE 9 (by simp)).trans (by simp [evF, Act.eval])
        exact soft_value (.slice (some ⟨ba, oa, none⟩) (k + 1) c) (by unfold execOp; simp only [e9, ec]; rfl) rfl
      · have e10 : ac.eval (.tmp 10) = .int .i64 (k : Int) := (hE 10 (by simp)).trans (by simp [evF, Act.eval])
        exact soft_value (.int .i64 (k : Int)) (by unfold execOp; simp only [e10, ec]; rfl) rfl
      · have d5 : vs 5 = .slice (some ⟨ba, oa, none⟩) (k + 1) c := hR 5 (by simp [hdep])
        have e36 : ac.eval (.tmp 36) = .slice (some ⟨ba, oa, none⟩) (k + 1) c := (hE 36 (by simp)).trans (by simp [evF, hdep, d5])
        have d6 : vs 6 = .int .i64 (k : Int) := hR 6 (by simp [hdep])
        have e37 : ac.eval (.tmp 37) = .int .i64 (k : Int) := (hE 37 (by simp)).trans (by simp [evF, hdep, d6])
        exact soft_value (.pointer (some ⟨ba, oa + k * 5, none⟩)) (by simp [execOp, e36, e37, ixk 66 _ 5 Try.underlying66 (by kernel_rfl) ba oa k (k + 1) c (Nat.lt_succ_self k), Result.andThen]) rfl
      · have d7 : vs 7 = .pointer (some ⟨ba, oa + k * 5, none⟩) := hR 7 (by simp [hdep])
        have e38 : ac.eval (.tmp 38) = .pointer (some ⟨ba, oa + k * 5, none⟩) := (hE 38 (by simp)).trans (by simp [evF, hdep, d7])
        exact soft_value (.pointer (some ⟨ba, oa + k * 5 + 3, none⟩)) (by unfold execOp; simp only [e38]; kernel_rfl) rfl
      · have d8 : vs 8 = .pointer (some ⟨ba, oa + k * 5 + 3, none⟩) := hR 8 (by simp [hdep])
        have e39 : ac.eval (.tmp 39) = .pointer (some ⟨ba, oa + k * 5 + 3, none⟩) := (hE 39 (by simp)).trans (by simp [evF, hdep, d8])
        have hcx := (hB.cell (World.block_lt_of_cell? _ _ HD3.out)).trans HD3.out
        exact soft_value (.string y.pl) (by unfold execOp; simp only [e39]; go_simp) rfl
      · have d4 : vs 4 = .string y.to := hR 4 (by simp [hdep])
        have e35 : ac.eval (.tmp 35) = .string y.to := (hE 35 (by simp)).trans (by simp [evF, hdep, d4])
        exact soft_value (.string y.to) (by unfold execOp; simp only [e35, ec]; rfl) rfl
      · have d9 : vs 9 = .string y.pl := hR 9 (by simp [hdep])
        have e40 : ac.eval (.tmp 40) = .string y.pl := (hE 40 (by simp)).trans (by simp [evF, hdep, d9])
        exact soft_value (.string y.pl) (by unfold execOp; simp only [e40, ec]; rfl) rfl
      · exact soft_value (.bool true) (by unfold execOp; simp only [ec]; rfl) rfl
    intro vs W hB hR
    have r6 : vs 10 = .string y.to := hR 10 (by simp)
    have r7 : vs 11 = .string y.pl := hR 11 (by simp)
    have r8 : vs 12 = .bool true := hR 12 (by simp)
    have HB2 := Lib.hid hB
    clear hB hR
    simp only [fillA, Act.put, List.setIfInBounds_toArray, List.set_cons_zero, List.set_cons_succ, if_true, r6, r7, r8]
    go_wp2_with fail
    refine bodyPost_ret (v := .tuple #[.string y.to, .string y.pl, .bool true]) (by first | kernel_rfl | simp [results, Try.results44, go_sem]) rfl ?_
    exact ⟨rfl, HB2.out⟩
theorem now_any (B gc gm : Nat) (bx : ByteArray) (hs : List Hd) (y : Hd) (k : Nat) (w : World) (hC : Chn B bx gc gm hs w) (hm : hs.length ≤ 64) (hk : hs.length = k + 1) (hy : hs[k]? = some y) (hd : y.day ≤ 1048576) :
    Calls Try.prog 22 #[(.pointer (some ⟨gc, 0, none⟩)), .string bx] w fun e w' => e = .returned (.tuple #[.string y.to, .string y.pl, .bool true]) ∧ Below w.heap.size w w' := by
  have HA := Lib.hid (as_any B gc gm bx hs y k 1048576 w hC hm hk hy hd)
  clear hC hy hd hk hm
  go_enter Try.func22, Try.ntmps22
  go_wp2_with fail
  refine HA.out.mono ?_
  rintro e w1 ⟨rfl, hb⟩
  have HB := Lib.hid hb
  clear hb HA
  go_wp2_with fail
  refine bodyPost_ret (v := .tuple #[.string y.to, .string y.pl, .bool true]) (by first | kernel_rfl | simp [results, Try.results22, go_sem]) rfl ?_
  exact ⟨rfl, HB.out⟩
/-- A history without a gap. -/
structure Hist (bx : ByteArray) (hs : List Hd) : Prop where
  bok : NmOK bx
  all : ∀ (k : Nat) (h : Hd), hs[k]? = some h → h.box = bx ∧ NmOK h.to ∧ NmOK h.pl ∧ DayOK h.day
  first : ∀ h : Hd, hs[0]? = some h → h.fr = ⟨#[]⟩
  next : ∀ (k : Nat) (h p : Hd), hs[k]? = some p → hs[k + 1]? = some h → NmOK h.fr ∧ (h.fr.toList == h.to.toList) = false ∧ p.to = h.fr ∧ p.day ≤ h.day
theorem Hist.one {bx who pl : ByteArray} {day : Int} (h1 : NmOK bx) (h2 : NmOK who) (h3 : NmOK pl) (h4 : DayOK day) : Hist bx [⟨bx, ⟨#[]⟩, who, pl, day⟩] := by
  refine ⟨h1, fun k h hk => ?_, fun h hk => ?_, fun k h p hk hk' => ?_⟩
  · have hl := (List.getElem?_eq_some_iff.1 hk).1
    simp at hl
    subst hl
    simp at hk
    subst hk
    exact ⟨rfl, h2, h3, h4⟩
  · simp at hk
    subst hk
    rfl
  · have hl := (List.getElem?_eq_some_iff.1 hk').1
    simp at hl
theorem Hist.more {bx : ByteArray} {hs : List Hd} (h : Hist bx hs) {k : Nat} (hk : hs.length = k + 1) {y x : Hd} (hy : hs[k]? = some y) (hb : x.box = bx) (h1 : NmOK x.fr) (h2 : NmOK x.to) (h3 : NmOK x.pl) (h4 : DayOK x.day) (h5 : (x.fr.toList == x.to.toList) = false) (h6 : y.to = x.fr) (h7 : y.day ≤ x.day) : Hist bx (hs ++ [x]) := by
  refine ⟨h.bok, fun i z hz => ?_, fun z hz => ?_, fun i z p hp hz => ?_⟩
  · by_cases e : i < hs.length
    · rw [List.getElem?_append_left e] at hz
      exact h.all i z hz
    · have hl := (List.getElem?_eq_some_iff.1 hz).1
      rw [List.getElem?_append_right (by omega)] at hz
      have he : i - hs.length = 0 := by simp at hl; omega
      rw [he] at hz
      simp at hz
      subst hz
      exact ⟨hb, h2, h3, h4⟩
  · rw [List.getElem?_append_left (by omega)] at hz
    exact h.first z hz
  · have hl := (List.getElem?_eq_some_iff.1 hz).1
    simp at hl
    rw [List.getElem?_append_left (by omega)] at hp
    by_cases e : i + 1 < hs.length
    · rw [List.getElem?_append_left e] at hz
      exact h.next i z p hp hz
    · rw [List.getElem?_append_right (by omega)] at hz
      have he : i + 1 - hs.length = 0 := by omega
      rw [he] at hz
      simp at hz
      subst hz
      rw [show i = k by omega, hy] at hp
      injection hp with hp
      subst hp
      exact ⟨h1, h5, h6, h7⟩
theorem name_ne {s : ByteArray} (h : nameB s.data.toList = true) : (s.toList == ([] : List UInt8)) = false := by
  have hl := len_list s
  cases hq : s.toList with
  | nil =>
    exfalso
    have h0 : s.data.toList.length = 0 := by
      have h2 : s.toList.length = s.size := by rw [ByteArray.toList_eq]; exact hl
      rw [hq] at h2
      simp at h2
      omega
    unfold nameB at h
    rw [h0] at h
    simp at h
  | cons a l => rfl
/-- How far a check has come. -/
def ChB (B : Nat) (bx : ByteArray) (gc gm : Nat) (hs : List Hd) (k : Nat) (W : World) : Prop := (k = 0 ∧ Chn0 B gc gm W) ∨ (0 < k ∧ Chn B bx gc gm (hs.take k) W)
set_option maxRecDepth 100000 in
set_option maxHeartbeats 6400000 in
theorem check_any (A : Option Addr) (n c : Nat) (bx : ByteArray) (hs : List Hd) (w : World) (hx : SliceOf w 5 hdC A n hs) (hh : Hist bx hs) (hn : n ≤ 60) :
    Calls Try.prog 20 #[.slice A n c] w fun e w' => e = .returned (.tuple #[.int .i64 n, .int .i64 0]) ∧ Below w.heap.size w w' := by
  have HX := Lib.hid hx
  have HH := Lib.hid hh
  have HL := Lib.hid hx.len
  have HNW := Lib.hid (cnew_any w)
  clear hx hh
  go_enter Try.func20, Try.ntmps20
  go_wp2_with fail
  refine HNW.out.mono ?_
  rintro e w1 ⟨gc, gm, rfl, hc0, hb1⟩
  have HC0 := Lib.hid hc0
  have HB1 := Lib.hid hb1
  clear hc0 hb1 HNW
  go_wp2_with fail
  go_loopw [11] (fun i wr => ∃ k : Nat, k ≤ n ∧ i = .int .i64 k ∧ Hid (ChB w.heap.size bx gc gm hs k wr) ∧ Hid (Below w.heap.size w wr)) (fun i _ => n - (intOf i).toNat)
  case atStart => exact ⟨0, by omega, rfl, Lib.hid (.inl ⟨rfl, HC0.out⟩), HB1⟩
  case round =>
    clear HC0 HB1
    obtain ⟨k, hk, rfl, HCB, HBR⟩ := hrel
    by_cases hlt : k < n
    · obtain ⟨b, off, x, rfl, hxk, hc⟩ := hd_at (HX.out.below HBR.out) hlt
      have HXK := Lib.hid hxk
      have HAL := Lib.hid (HH.out.all k x hxk)
      have hkn : (k : Int) < (n : Int) := by omega
      have d0 := hc 0 _ rfl; have d1 := hc 1 _ rfl; have d2 := hc 2 _ rfl; have d3 := hc 3 _ rfl; have d4 := hc 4 _ rfl
      rw [Nat.add_zero] at d0
      have HB2 := Lib.hid (HBR.out.alloc HBR.out.size (.cells #[.string x.box, .string x.fr, .string x.to, .string x.pl, .int .i64 x.day] 63))
      have HK2 := Lib.hid (Blk.new wr 63 #[.string x.box, .string x.fr, .string x.to, .string x.pl, .int .i64 x.day])
      have HTK : Hid (hs.take (k + 1) = hs.take k ++ [x]) := Lib.hid (by rw [List.take_add_one, hxk]; rfl)
      rcases HCB.out with ⟨hk0, hc0⟩ | ⟨hk0, hc1⟩
      · subst hk0
        have HC2 := Lib.hid (hc0.below (one_alloc wr (.cells #[.string x.box, .string x.fr, .string x.to, .string x.pl, .int .i64 x.day] 63)))
        have HFR := Lib.hid (HH.out.first x hxk)
        simp only [Nat.zero_mul, Nat.add_zero] at d0 d1 d2 d3 d4
        clear hc hxk hc0 HCB HBR
        go_upto_region 5 with ((refine stop_store 63 _ _ rfl ?_; refine wpList_store_new rfl 63 _ _ rfl _ rfl rfl (by kernel_rfl) rfl rfl ?_))
        obtain ⟨w2, hw2⟩ : ∃ W, wr.alloc (.cells #[.string x.box, .string x.fr, .string x.to, .string x.pl, .int .i64 x.day] 63) = W := ⟨_, rfl⟩
        obtain ⟨g2, hg2⟩ : ∃ g, wr.heap.size = g := ⟨_, rfl⟩
        rw [hw2] at HB2 HK2 HC2 ⊢
        rw [hg2] at HK2
        simp only [hg2]
        clear hw2 hg2 d0 d1 d2 d3 d4
        have e0 := HK2.out.cell 0; have e1 := HK2.out.cell 1; have e2 := HK2.out.cell 2; have e3 := HK2.out.cell 3; have e4 := HK2.out.cell 4
        simp only [List.getElem?_toArray, List.getElem?_cons_zero, List.getElem?_cons_succ] at e0 e1 e2 e3 e4
        obtain ⟨box, fr, to, pl, day⟩ := x
        have hfr := HFR.out
        clear HFR
        dsimp only at hfr e0 e1 e2 e3 e4
        subst hfr
        have HBG := Lib.hid (begin_any w.heap.size gc gm box to pl day w2 HC2.out (by have := HAL.out.1; dsimp only at this; rw [this]; exact HH.out.bok) HAL.out.2.1 HAL.out.2.2.1 HAL.out.2.2.2 HB2.out.size)
        go_wp2_with fail
        refine HBG.out.mono ?_
        rintro e w3 ⟨rfl, hc3, hb3⟩
        have HB3 := Lib.hid (HB2.out.trans hb3)
        have HC3 : Hid (ChB w.heap.size bx gc gm hs 1 w3) := Lib.hid (.inr ⟨by omega, by rw [HTK.out]; have hbq : box = bx := HAL.out.1; rw [← hbq]; exact hc3⟩)
        clear hc3 hb3 HBG e0 e1 e2 e3 e4
        go_wp2_with fail
        go_roundw
        case rel => exact ⟨1, by omega, by go_num, HC3, HB3⟩
        case measure => simp [intOf]; omega
      · obtain ⟨j, rfl⟩ : ∃ j, k = j + 1 := ⟨k - 1, by omega⟩
        have HC2 := Lib.hid (hc1.below (one_alloc wr (.cells #[.string x.box, .string x.fr, .string x.to, .string x.pl, .int .i64 x.day] 63)))
        obtain ⟨y, hyk⟩ : ∃ y, hs[j]? = some y := ⟨_, List.getElem?_eq_getElem (by have := HL.out; omega)⟩
        have HNX := Lib.hid (HH.out.next j x y hyk hxk)
        have HYT : Hid ((hs.take (j + 1))[j]? = some y) := Lib.hid (by rw [List.getElem?_take_of_lt (by omega)]; exact hyk)
        have HLT : Hid ((hs.take (j + 1)).length = j + 1) := Lib.hid (by rw [List.length_take, HL.out]; omega)
        have hne := name_ne HNX.out.1.2
        clear hc hxk hc1 hyk HCB HBR
        go_upto_region 5 with ((refine stop_store 63 _ _ rfl ?_; refine wpList_store_new rfl 63 _ _ rfl _ rfl rfl (by kernel_rfl) rfl rfl ?_))
        obtain ⟨w2, hw2⟩ : ∃ W, wr.alloc (.cells #[.string x.box, .string x.fr, .string x.to, .string x.pl, .int .i64 x.day] 63) = W := ⟨_, rfl⟩
        obtain ⟨g2, hg2⟩ : ∃ g, wr.heap.size = g := ⟨_, rfl⟩
        rw [hw2] at HB2 HK2 HC2 ⊢
        rw [hg2] at HK2
        simp only [hg2]
        clear hw2 hg2 d0 d1 d2 d3 d4
        have e0 := HK2.out.cell 0; have e1 := HK2.out.cell 1; have e2 := HK2.out.cell 2; have e3 := HK2.out.cell 3; have e4 := HK2.out.cell 4
        simp only [List.getElem?_toArray, List.getElem?_cons_zero, List.getElem?_cons_succ] at e0 e1 e2 e3 e4
        have hbx := HAL.out.1
        have HHD := Lib.hid (hand_any w.heap.size gc gm (hs.take (j + 1)) x y j w2 (by rw [hbx]; exact HC2.out) HB2.out.size HLT.out HYT.out HNX.out.2.2.1 HNX.out.2.2.2 (by rw [HLT.out]; omega) (by rw [hbx]; exact HH.out.bok) HNX.out.1 HAL.out.2.1 HAL.out.2.2.1 HNX.out.2.1 HAL.out.2.2.2)
        have HBX := Lib.hid hbx
        clear hbx
        go_wp2_with fail
        refine HHD.out.mono ?_
        rintro e w3 ⟨rfl, hc3, hb3, _⟩
        have HB3 := Lib.hid (HB2.out.trans hb3)
        have HC3 : Hid (ChB w.heap.size bx gc gm hs (j + 1 + 1) w3) := Lib.hid (.inr ⟨by omega, by rw [HTK.out, ← HBX.out]; exact hc3⟩)
        clear hc3 hb3 HHD e0 e1 e2 e3 e4
        go_wp2_with fail
        go_roundw
        case rel => exact ⟨j + 1 + 1, by omega, by go_num, HC3, HB3⟩
        case measure => simp [intOf]; omega
    · have hkn : n = k := by omega
      subst hkn
      go_wp2_with fail
      refine bodyPost_ret (v := .tuple #[.int .i64 n, .int .i64 0]) (by first | kernel_rfl | simp [results, Try.results20, go_sem]) rfl ?_
      exact ⟨rfl, HBR.out⟩
end Go.Proofs.Ytlicmhgpldmliaa.kit
