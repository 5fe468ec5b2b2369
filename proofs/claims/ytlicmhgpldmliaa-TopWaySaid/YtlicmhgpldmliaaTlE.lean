/- An end of a link: Due. No condition. -/
import Derived.Test.YtlicmhgpldmliaaTlD
namespace Go.Proofs.Ytlicmhgpldmliaa.kit
open Go.RowKit
set_option linter.unusedVariables false
set_option linter.unusedSimpArgs false

theorem bak (s o : ByteArray) (sure : Int) (w : World) : (Instr.build 32 #[(0, .string s), (1, .string o), (3, .int .i64 28), (4, .int .i64 sure)]).run Try.prog w = .ok (.agg #[.string s, .string o, .int .i64 0, .int .i64 28, .int .i64 sure, .string ⟨#[]⟩, .string ⟨#[]⟩, .string ⟨#[]⟩, .int .i64 0, .int .i64 0, .string ⟨#[]⟩, .int .i64 0, .slice none 0 0, .slice none 0 0]) w := run_build w _ _ _ (by kernel_rfl)
set_option maxRecDepth 100000 in
set_option maxHeartbeats 3200000 in
theorem due_a (s o : ByteArray) (A : Option Addr) (c : Nat) (xs : List Lr) (sent got : Int) (gm g : Nat) (w : World) (hk : Blk w g 90 #[.string s, .string o, .slice A xs.length c, .int .i64 sent, .int .i64 got, .int .i64 0, .map (some gm), .bool false]) (hx : SliceOf w 14 ltC A xs.length xs) (hm : xs.length ≤ 4096) (h0 : ∀ x ∈ xs, x.ack = 0) :
    Calls Try.prog 11 #[(.pointer (some ⟨g, 0, none⟩))] w fun e w' => ∃ v, e = .returned v ∧ w'.ownsRow w.heap.size 32 14 v xs.length (xs.flatMap ltC) ∧ Below w.heap.size w w' := by
  obtain ⟨n, hn⟩ : ∃ n, xs.length = n := ⟨_, rfl⟩
  rw [hn] at hk hx hm ⊢
  have HXN := Lib.hid hn
  have HK := Lib.hid hk
  have HX := Lib.hid hx
  have H0 := Lib.hid h0
  have hlt := hk.lt
  have e0 := hk.cell 0; have e1 := hk.cell 1; have e2 := hk.cell 2; have e3 := hk.cell 3; have e4 := hk.cell 4; have e5 := hk.cell 5; have e6 := hk.cell 6; have e7 := hk.cell 7
  simp only [List.getElem?_toArray, List.getElem?_cons_zero, List.getElem?_cons_succ] at e0 e1 e2 e3 e4 e5 e6 e7
  clear hk hx h0 hn
  go_enter Try.func11, Try.ntmps11
  go_wp2_with fail
  refine (owns_any A n c xs _ HX.out hm).mono ?_
  rintro e w1 ⟨v, rfl, hv, hb1⟩
  obtain ⟨A1, c1, rfl⟩ := own_slice hv
  have HV := Lib.hid hv
  have HB := Lib.hid hb1
  have HS := Lib.hid (SliceOf.of_own_s hv lt_len rfl HXN.out)
  have HK1 := Lib.hid (HK.out.below hb1 HK.out.lt)
  clear hv hb1 e0 e1 e2 e3 e4 e5 e6 e7
  have e0 := HK1.out.cell 0; have e1 := HK1.out.cell 1; have e2 := HK1.out.cell 2; have e3 := HK1.out.cell 3; have e4 := HK1.out.cell 4; have e5 := HK1.out.cell 5; have e6 := HK1.out.cell 6; have e7 := HK1.out.cell 7
  simp only [List.getElem?_toArray, List.getElem?_cons_zero, List.getElem?_cons_succ] at e0 e1 e2 e3 e4 e5 e6 e7
  have f7 := HK1.out.frozen 7
  go_wp2_with fail
  go_loopw [12] (fun i wr => ∃ k : Nat, k ≤ n ∧ i = .int .i64 k ∧ wr = w1) (fun i _ => n - (intOf i).toNat)
  case atStart => exact ⟨0, by omega, rfl, rfl⟩
  case round =>
    obtain ⟨k, hk, rfl, rfl⟩ := hrel
    by_cases hlk : k < n
    · obtain ⟨b, off, x, rfl, hxk, hc⟩ := lt_at HS.out hlk
      have c4 := hc 4 _ rfl
      rw [H0.out x (List.mem_of_getElem? hxk)] at c4
      have hb0 : off = 0 := by
        rcases HV.out.2 with ⟨hv, _⟩ | ⟨q, cap, cur, hv, _⟩
        · injection hv with hv; cases hv
        · injection hv with hv; injection hv with hv; injection hv with _ hv
      have hfr : wr.frozen? ⟨b, off + k * 14 + 4, none⟩ = false := by
        rcases HV.out.2 with ⟨hv, _⟩ | ⟨q, cap, cur, hv, _, hq, _⟩
        · injection hv with hv; cases hv
        · injection hv with hv; injection hv with hv; injection hv with hv _; subst hv; exact Blk.frozen (t := 32) hq _
      have hid := setCell_id c4
      have i0 : (k : Int) < (n : Int) := by omega
      have i1 : (0 : Int) ≤ (k : Int) := by omega
      clear hc hxk hb0
      go_wp2_with fail
      go_roundw
      case rel => exact ⟨k + 1, by omega, by go_num, by first | trivial | exact hid⟩
      case measure => simp [intOf]; omega
    · have hkn : n = k := by omega
      subst hkn
      have hid := setCell_id e7
      rcases Nat.eq_zero_or_pos n with hz | hz
      · subst hz
        go_wp2_with fail
        go_ret
        exact ⟨_, rfl, HV.out, HB.out⟩
      · have hz' : ((n : Int) = 0) = False := eq_false (by omega)
        go_wp2_with fail
        go_ret
        exact ⟨_, rfl, HV.out, HB.out⟩
/-- What Due brings of an end that has nothing out: nothing, or one receipt, if it is owing. -/
def DueB (s o : ByteArray) (sent got sure : Int) (gm g : Nat) (ow : Bool) (w : World) (e : Ending) (w' : World) : Prop :=
  ∃ A c, e = .returned (.slice A (if ow = true then 1 else 0) c) ∧ SliceOf w' 14 ltC A (if ow = true then 1 else 0) (if ow = true then [(⟨s, o, 0, 28, sure, 0⟩ : Lr)] else []) ∧ (∀ b off, A = some ⟨b, off, none⟩ → w.heap.size ≤ b) ∧ Blk w' g 90 #[.string s, .string o, .slice none 0 0, .int .i64 sent, .int .i64 got, .int .i64 sure, .map (some gm), .bool false] ∧ Fr (fun k => k = g) w w'
set_option maxRecDepth 100000 in
set_option maxHeartbeats 6400000 in
theorem due_b (s o : ByteArray) (sent got sure : Int) (gm g : Nat) (ow : Bool) (w : World) (hk : Blk w g 90 #[.string s, .string o, .slice none 0 0, .int .i64 sent, .int .i64 got, .int .i64 sure, .map (some gm), .bool ow]) :
    Calls Try.prog 11 #[(.pointer (some ⟨g, 0, none⟩))] w (DueB s o sent got sure gm g ow w) := by
  have HK := Lib.hid hk
  have hlt := hk.lt
  have e0 := hk.cell 0; have e1 := hk.cell 1; have e2 := hk.cell 2; have e3 := hk.cell 3; have e4 := hk.cell 4; have e5 := hk.cell 5; have e6 := hk.cell 6; have e7 := hk.cell 7
  simp only [List.getElem?_toArray, List.getElem?_cons_zero, List.getElem?_cons_succ] at e0 e1 e2 e3 e4 e5 e6 e7
  clear hk
  go_enter Try.func11, Try.ntmps11
  go_wp2_with fail
  refine (owns_any none 0 0 [] _ SliceOf.none_ (by omega)).mono ?_
  rintro e w1 ⟨v, rfl, hv, hb1⟩
  obtain ⟨A1, c1, rfl⟩ := own_slice hv
  have HV := Lib.hid hv
  have HB := Lib.hid hb1
  have HK1 := Lib.hid (HK.out.below hb1 HK.out.lt)
  clear hv hb1 e0 e1 e2 e3 e4 e5 e6 e7
  have e0 := HK1.out.cell 0; have e1 := HK1.out.cell 1; have e2 := HK1.out.cell 2; have e3 := HK1.out.cell 3; have e4 := HK1.out.cell 4; have e5 := HK1.out.cell 5; have e6 := HK1.out.cell 6; have e7 := HK1.out.cell 7
  simp only [List.getElem?_toArray, List.getElem?_cons_zero, List.getElem?_cons_succ] at e0 e1 e2 e3 e4 e5 e6 e7
  have f7 := HK1.out.frozen 7
  go_wp2_with fail
  go_loopw [12] (fun i wr => i = .int .i64 0 ∧ wr = w1) (fun i _ => 0)
  case atStart => exact ⟨rfl, rfl⟩
  case round =>
  obtain ⟨rfl, rfl⟩ := hrel
  cases ow
  · have hid := setCell_id e7
    go_wp2_with fail
    go_ret
    exact ⟨A1, c1, rfl, ⟨rfl, .inl rfl⟩, fun b off h => (HV.out.lt b (by rw [h]; rfl)).1, HK1.out, Fr.of_below HB.out (Nat.le_refl _)⟩
  · go_wp2_with fail
    obtain ⟨wb, hwb⟩ : ∃ W, wr = W := ⟨_, rfl⟩
    subst hwb
    refine wp_region_soft [Is (.pointer (some ⟨g, 0, none⟩)), Is (.pointer (some ⟨g, 0, none⟩)), Is (.pointer (some ⟨g, 0, none⟩)), Is (.string s), Is (.pointer (some ⟨g, 0, none⟩)), Is (.pointer (some ⟨g, 0, none⟩)), Is (.pointer (some ⟨g, 1, none⟩)), Is (.string o), Is (.pointer (some ⟨g, 0, none⟩)), Is (.pointer (some ⟨g, 0, none⟩)), Is (.pointer (some ⟨g, 5, none⟩)), Is (.int .i64 sure), Is (.agg #[.string s, .string o, .int .i64 0, .int .i64 28, .int .i64 sure, .string ⟨#[]⟩, .string ⟨#[]⟩, .string ⟨#[]⟩, .int .i64 0, .int .i64 0, .string ⟨#[]⟩, .int .i64 0, .slice none 0 0, .slice none 0 0]), OneL wr ⟨s, o, 0, 28, sure, 0⟩, OneL wr ⟨s, o, 0, 28, sure, 0⟩] ⟨stab_is _, stab_is _, stab_is _, stab_is _, stab_is _, stab_is _, stab_is _, stab_is _, stab_is _, stab_is _, stab_is _, stab_is _, stab_is _, stab_onel _ _, stab_onel _ _, trivial⟩ (by kernel_rfl) (by kernel_rfl) ?_ ?_
    · refine ⟨?_, ?_, ?_, ?_, ?_, ?_, ?_, ?_, ?_, ?_, ?_, ?_, ?_, ?_, ?_, trivial⟩
      all_goals intro done vs ac W1 hdep hB hR hE
      all_goals have ec : ∀ v : Value, ac.eval (.const v) = v := fun _ => rfl
      all_goals try simp [Region.binds] at hdep
      · have e0 : ac.eval (.tmp 0) = .pointer (some ⟨g, 0, none⟩) := (hE 0 (by simp)).trans (by simp [evF, Act.eval])
        exact soft_value (.pointer (some ⟨g, 0, none⟩)) (by unfold execOp; simp only [e0, ec]; rfl) rfl
      · have d0 : vs 0 = .pointer (some ⟨g, 0, none⟩) := hR 0 (by simp [hdep])
        have e33 : ac.eval (.tmp 33) = .pointer (some ⟨g, 0, none⟩) := (hE 33 (by simp)).trans (by simp [evF, hdep, d0])
        exact soft_value (.pointer (some ⟨g, 0, none⟩)) (by unfold execOp; simp only [e33]; go_simp) rfl
      · have d1 : vs 1 = .pointer (some ⟨g, 0, none⟩) := hR 1 (by simp [hdep])
        have e34 : ac.eval (.tmp 34) = .pointer (some ⟨g, 0, none⟩) := (hE 34 (by simp)).trans (by simp [evF, hdep, d1])
        exact soft_value (.pointer (some ⟨g, 0, none⟩)) (by unfold execOp; simp only [e34]; kernel_rfl) rfl
      · have d2 : vs 2 = .pointer (some ⟨g, 0, none⟩) := hR 2 (by simp [hdep])
        have e35 : ac.eval (.tmp 35) = .pointer (some ⟨g, 0, none⟩) := (hE 35 (by simp)).trans (by simp [evF, hdep, d2])
        have hc0 : W1.cell? ⟨g, 0, none⟩ = some (.string s) := (HK1.out.below hB HK1.out.lt).cell 0
        exact soft_value (.string s) (by unfold execOp; simp only [e35]; go_simp) rfl
      · have e0 : ac.eval (.tmp 0) = .pointer (some ⟨g, 0, none⟩) := (hE 0 (by simp)).trans (by simp [evF, Act.eval])
        exact soft_value (.pointer (some ⟨g, 0, none⟩)) (by unfold execOp; simp only [e0, ec]; rfl) rfl
      · have d4 : vs 4 = .pointer (some ⟨g, 0, none⟩) := hR 4 (by simp [hdep])
        have e37 : ac.eval (.tmp 37) = .pointer (some ⟨g, 0, none⟩) := (hE 37 (by simp)).trans (by simp [evF, hdep, d4])
        exact soft_value (.pointer (some ⟨g, 0, none⟩)) (by unfold execOp; simp only [e37]; go_simp) rfl
      · have d5 : vs 5 = .pointer (some ⟨g, 0, none⟩) := hR 5 (by simp [hdep])
        have e38 : ac.eval (.tmp 38) = .pointer (some ⟨g, 0, none⟩) := (hE 38 (by simp)).trans (by simp [evF, hdep, d5])
        exact soft_value (.pointer (some ⟨g, 1, none⟩)) (by unfold execOp; simp only [e38]; kernel_rfl) rfl
      · have d6 : vs 6 = .pointer (some ⟨g, 1, none⟩) := hR 6 (by simp [hdep])
        have e39 : ac.eval (.tmp 39) = .pointer (some ⟨g, 1, none⟩) := (hE 39 (by simp)).trans (by simp [evF, hdep, d6])
        have hc1 : W1.cell? ⟨g, 1, none⟩ = some (.string o) := (HK1.out.below hB HK1.out.lt).cell 1
        exact soft_value (.string o) (by unfold execOp; simp only [e39]; go_simp) rfl
      · have e0 : ac.eval (.tmp 0) = .pointer (some ⟨g, 0, none⟩) := (hE 0 (by simp)).trans (by simp [evF, Act.eval])
        exact soft_value (.pointer (some ⟨g, 0, none⟩)) (by unfold execOp; simp only [e0, ec]; rfl) rfl
      · have d8 : vs 8 = .pointer (some ⟨g, 0, none⟩) := hR 8 (by simp [hdep])
        have e41 : ac.eval (.tmp 41) = .pointer (some ⟨g, 0, none⟩) := (hE 41 (by simp)).trans (by simp [evF, hdep, d8])
        exact soft_value (.pointer (some ⟨g, 0, none⟩)) (by unfold execOp; simp only [e41]; go_simp) rfl
      · have d9 : vs 9 = .pointer (some ⟨g, 0, none⟩) := hR 9 (by simp [hdep])
        have e42 : ac.eval (.tmp 42) = .pointer (some ⟨g, 0, none⟩) := (hE 42 (by simp)).trans (by simp [evF, hdep, d9])
        exact soft_value (.pointer (some ⟨g, 5, none⟩)) (by unfold execOp; simp only [e42]; kernel_rfl) rfl
      · have d10 : vs 10 = .pointer (some ⟨g, 5, none⟩) := hR 10 (by simp [hdep])
        have e43 : ac.eval (.tmp 43) = .pointer (some ⟨g, 5, none⟩) := (hE 43 (by simp)).trans (by simp [evF, hdep, d10])
        have hc5 : W1.cell? ⟨g, 5, none⟩ = some (.int .i64 sure) := (HK1.out.below hB HK1.out.lt).cell 5
        exact soft_value (.int .i64 sure) (by unfold execOp; simp only [e43]; go_simp) rfl
      · have d3 : vs 3 = .string s := hR 3 (by simp [hdep])
        have e36 : ac.eval (.tmp 36) = .string s := (hE 36 (by simp)).trans (by simp [evF, hdep, d3])
        have d7 : vs 7 = .string o := hR 7 (by simp [hdep])
        have e40 : ac.eval (.tmp 40) = .string o := (hE 40 (by simp)).trans (by simp [evF, hdep, d7])
        have d11 : vs 11 = .int .i64 sure := hR 11 (by simp [hdep])
        have e44 : ac.eval (.tmp 44) = .int .i64 sure := (hE 44 (by simp)).trans (by simp [evF, hdep, d11])
        exact soft_value (.agg #[.string s, .string o, .int .i64 0, .int .i64 28, .int .i64 sure, .string ⟨#[]⟩, .string ⟨#[]⟩, .string ⟨#[]⟩, .int .i64 0, .int .i64 0, .string ⟨#[]⟩, .int .i64 0, .slice none 0 0, .slice none 0 0]) (by unfold execOp; simp [e36, e40, e44, ec]; exact by simp [bak, Result.andThen]) rfl
      · have d12 : vs 12 = .agg #[.string s, .string o, .int .i64 0, .int .i64 28, .int .i64 sure, .string ⟨#[]⟩, .string ⟨#[]⟩, .string ⟨#[]⟩, .int .i64 0, .int .i64 0, .string ⟨#[]⟩, .int .i64 0, .slice none 0 0, .slice none 0 0] := hR 12 (by simp [hdep])
        have e45 : ac.eval (.tmp 45) = .agg #[.string s, .string o, .int .i64 0, .int .i64 28, .int .i64 sure, .string ⟨#[]⟩, .string ⟨#[]⟩, .string ⟨#[]⟩, .int .i64 0, .int .i64 0, .string ⟨#[]⟩, .int .i64 0, .slice none 0 0, .slice none 0 0] := (hE 45 (by simp)).trans (by simp [evF, hdep, d12])
        refine soft_build 26 32 1 _ rfl #[(0, .agg #[.string s, .string o, .int .i64 0, .int .i64 28, .int .i64 sure, .string ⟨#[]⟩, .string ⟨#[]⟩, .string ⟨#[]⟩, .int .i64 0, .int .i64 0, .string ⟨#[]⟩, .int .i64 0, .slice none 0 0, .slice none 0 0])] (by simp [e45, ec]) #[.string s, .string o, .int .i64 0, .int .i64 28, .int .i64 sure, .string ⟨#[]⟩, .string ⟨#[]⟩, .string ⟨#[]⟩, .int .i64 0, .int .i64 0, .string ⟨#[]⟩, .int .i64 0, .slice none 0 0, .slice none 0 0] (bsl ⟨s, o, 0, 28, sure, 0⟩ W1) ⟨_, rfl, Blk.new_at W1 32 _ _ rfl, hB.size⟩
      · obtain ⟨b13, d13, h13, l13⟩ := (show (OneL wr ⟨s, o, 0, 28, sure, 0⟩) (vs 13) W1 from hR 13 (by simp [hdep]))
        have e46 : ac.eval (.tmp 46) = .slice (some ⟨b13, 0, none⟩) 1 1 := (hE 46 (by simp)).trans (by simp [evF, hdep, d13])
        exact soft_value (.slice (some ⟨b13, 0, none⟩) 1 1) (by unfold execOp; simp only [e46]; rfl) ⟨b13, rfl, h13, l13⟩
    · intro vs W hB hR
      obtain ⟨b14, d14, h14, l14⟩ := (show OneL wr ⟨s, o, 0, 28, sure, 0⟩ (vs 14) W from hR 14 (by simp))
      have HK2 := Lib.hid (HK1.out.below hB HK1.out.lt)
      have HB2 := Lib.hid (HB.out.trans (hB.mono HB.out.size))
      have HH := Lib.hid h14
      have hl14 : w.heap.size ≤ b14 := Nat.le_trans HB.out.size l14
      simp only [fillA, Act.put, List.setIfInBounds_toArray, List.set_cons_zero, List.set_cons_succ, if_true, d14]
      clear hB hR h14 e0 e1 e2 e3 e4 e5 e6 e7 f7
      have e0 := HK2.out.cell 0; have e1 := HK2.out.cell 1; have e2 := HK2.out.cell 2; have e3 := HK2.out.cell 3; have e4 := HK2.out.cell 4; have e5 := HK2.out.cell 5; have e6 := HK2.out.cell 6; have e7 := HK2.out.cell 7
      simp only [List.getElem?_toArray, List.getElem?_cons_zero, List.getElem?_cons_succ] at e0 e1 e2 e3 e4 e5 e6 e7
      have f7 := HK2.out.frozen 7
      go_wp2_with fail
      go_ret
      have HH2 := HH.out.fr ((Fr.refl (fun k => k = g) W).setCell (p := ⟨g, 7, none⟩) (.inl rfl) (.bool false)) (fun e => by omega)
      exact ⟨some ⟨b14, 0, none⟩, 1, rfl, SliceOf.blk (en := ltC) HH2 [(⟨s, o, 0, 28, sure, 0⟩ : Lr)] rfl lt_len rfl, fun b off h => by injection h with h; injection h with h; omega, HK2.out.set_ 7 (.bool false), (show Fr (fun k => k = g) w W from Fr.of_below HB2.out (Nat.le_refl _)).setCell (p := ⟨g, 7, none⟩) (.inl rfl) _⟩
end Go.Proofs.Ytlicmhgpldmliaa.kit
