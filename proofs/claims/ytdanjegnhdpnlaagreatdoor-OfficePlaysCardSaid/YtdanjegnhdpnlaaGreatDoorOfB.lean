/- An office: what a house does with a declaration, and with what was credited. No condition. -/
import Derived.Test.YtdanjegnhdpnlaaGreatDoorOfA
namespace Go.Proofs.YtdanjegnhdpnlaaGreatDoor.kit
open Go.RowKit
set_option linter.unusedVariables false
set_option linter.unusedSimpArgs false
/-- What a letter's deed brings. -/
def DoP (w : World) (p : Nat) (d : Dl) (A : Option Addr) (nb c : Nat) (r : List Ol × St) (e : Ending) (w' : World) : Prop :=
  ∃ v, e = .returned v ∧ OlAt w' w.heap.size v ⟨#[]⟩ 0 r.1 ∧ DeAt w' p d (.slice A nb c) r.2 ∧ Fr (fun k => k = p) w w'
theorem DoP.none_ {w w' : World} {p : Nat} {d : Dl} {A : Option Addr} {nb c : Nat} {s : St} (h : DeAt w p d (.slice A nb c) s) (hb : Below w.heap.size w w') : DoP w p d A nb c ([], s) (.returned (.slice none 0 0)) w' :=
  ⟨_, rfl, .inl ⟨rfl, rfl⟩, h.below hb h.lt, Fr.of_below hb (Nat.le_refl _)⟩
theorem mbuild (w : World) (a : ByteArray) (n : Int) : (Instr.build 50 #[(0, .string a), (1, .int .i64 n)]).run Tryz.prog w = .ok (.agg #[.string a, .int .i64 n]) w := run_build w _ _ _ (by kernel_rfl)
theorem lbuild3 (w : World) (a m : ByteArray) (k n : Int) : (Instr.build 57 #[(1, .string a), (3, .int .i64 k), (10, .agg #[.string m, .int .i64 n])]).run Tryz.prog w = .ok (.agg #[.string ⟨#[]⟩, .string a, .int .i64 0, .int .i64 k, .int .i64 0, .string ⟨#[]⟩, .string ⟨#[]⟩, .string ⟨#[]⟩, .int .i64 0, .int .i64 0, .string m, .int .i64 n, .slice none 0 0, .slice none 0 0]) w := run_build w _ _ _ (by kernel_rfl)
theorem lslice1 (w : World) (a m : ByteArray) (k n : Int) (D : Value) (h : D.oneCell' = true) : (Instr.buildSlice 30 1 #[(0, .agg #[.string ⟨#[]⟩, .string a, .int .i64 0, .int .i64 k, .int .i64 0, .string ⟨#[]⟩, .string ⟨#[]⟩, .string ⟨#[]⟩, .int .i64 0, .int .i64 0, .string m, .int .i64 n, D, .slice none 0 0])]).run Tryz.prog w = .ok (.slice (some ⟨w.heap.size, 0, none⟩) 1 1) (w.alloc (.cells #[.string ⟨#[]⟩, .string a, .int .i64 0, .int .i64 k, .int .i64 0, .string ⟨#[]⟩, .string ⟨#[]⟩, .string ⟨#[]⟩, .int .i64 0, .int .i64 0, .string m, .int .i64 n, D, .slice none 0 0] 57)) := by kernel_rfl
set_option maxRecDepth 100000 in
set_option maxHeartbeats 6400000 in
theorem decl_any (O : Value) (p : Nat) (d : Dl) (A : Option Addr) (nb c : Nat) (s : St) (l : Lt) (w : World) (h : DeAt w p d (.slice A nb c) s) (ho : d.ok) :
    Calls Tryz.prog 44 #[O, (.pointer (some ⟨p, 0, none⟩)), .agg #[.string l.fr, .string l.to, .int .i64 l.num, .int .i64 l.kind, .int .i64 l.ack, .string l.deal, .string l.text, .string l.party, .int .i64 l.idx, .int .i64 l.day, .string l.cur, .int .i64 l.amt, .slice l.A1 l.n1 l.c1, .slice l.A2 l.n2 l.c2]] w (DoP w p d A nb c (declV d s l)) := by
  have HO := Lib.hid ho
  have HZ := Lib.hid h
  have hD : DeAt (w.alloc (.cells #[.string l.fr, .string l.to, .int .i64 l.num, .int .i64 l.kind, .int .i64 l.ack, .string l.deal, .string l.text, .string l.party, .int .i64 l.idx, .int .i64 l.day, .string l.cur, .int .i64 l.amt, .slice l.A1 l.n1 l.c1, .slice l.A2 l.n2 l.c2] 57)) p d (.slice A nb c) s := Blk.alloc h _
  have hk : Blk (w.alloc (.cells #[.string l.fr, .string l.to, .int .i64 l.num, .int .i64 l.kind, .int .i64 l.ack, .string l.deal, .string l.text, .string l.party, .int .i64 l.idx, .int .i64 l.day, .string l.cur, .int .i64 l.amt, .slice l.A1 l.n1 l.c1, .slice l.A2 l.n2 l.c2] 57)) w.heap.size 57 #[.string l.fr, .string l.to, .int .i64 l.num, .int .i64 l.kind, .int .i64 l.ack, .string l.deal, .string l.text, .string l.party, .int .i64 l.idx, .int .i64 l.day, .string l.cur, .int .i64 l.amt, .slice l.A1 l.n1 l.c1, .slice l.A2 l.n2 l.c2] := Blk.new _ _ _
  have HB : Hid (Below w.heap.size w (w.alloc (.cells #[.string l.fr, .string l.to, .int .i64 l.num, .int .i64 l.kind, .int .i64 l.ack, .string l.deal, .string l.text, .string l.party, .int .i64 l.idx, .int .i64 l.day, .string l.cur, .int .i64 l.amt, .slice l.A1 l.n1 l.c1, .slice l.A2 l.n2 l.c2] 57))) := Lib.hid (one_alloc _ _)
  clear h ho
  go_enter Tryz.func44, Tryz.ntmps44
  go_upto_region 1 with (fail)
  obtain ⟨w1, hw1⟩ : ∃ W, w.alloc (.cells #[.string l.fr, .string l.to, .int .i64 l.num, .int .i64 l.kind, .int .i64 l.ack, .string l.deal, .string l.text, .string l.party, .int .i64 l.idx, .int .i64 l.day, .string l.cur, .int .i64 l.amt, .slice l.A1 l.n1 l.c1, .slice l.A2 l.n2 l.c2] 57) = W := ⟨_, rfl⟩
  rw [hw1] at hD hk HB ⊢
  clear hw1
  have HD := Lib.hid hD
  have a0 := hk.cell 0; have c2 := hD.cell 2; have c17 := hD.cell 17
  simp only [List.getElem?_toArray, List.getElem?_cons_zero, List.getElem?_cons_succ] at a0 c2 c17
  clear hk hD
  by_cases e1 : l.fr = d.buy
  · have q1 : (l.fr.toList == d.buy.toList) = true := by rw [eq_str]; exact decide_eq_true e1
    by_cases e2 : s.st = 0
    · have q2 : (s.st != 0) = false := by simp [e2]
      have HV : Hid (declV d s l = if 0 < dueV d then (dutyL d (dueV d), ⟨1, s.paid⟩) else (freeL d, ⟨2, s.paid⟩)) := Lib.hid (by unfold declV; rw [if_pos ⟨e1, e2⟩])
      clear e1 e2
      go_quiet (fail)
      have HDq := Lib.hid (HD.out.drewN nq)
      have HBq := Lib.hid (below_drewN HB.out nq)
      go_wp2_with fail
      refine (duty_any p d A nb c s _ HDq.out HO.out).mono ?_
      rintro e w2 ⟨rfl, hb2⟩
      have hD2 := HDq.out.below hb2 HDq.out.lt
      have HB2 := Lib.hid (HBq.out.trans (hb2.mono HBq.out.size))
      have HF2 : Hid (Fr (fun k => k = p) w w2) := Lib.hid (Fr.of_below HB2.out (Nat.le_refl _))
      clear a0 c2 c17 hb2
      by_cases e3 : 0 < dueV d
      · have q3 : decide (dueV d > 0) = true := decide_eq_true e3
        have hV := HV.out
        rw [if_pos e3] at hV
        have HV2 := Lib.hid hV
        clear hV HV
        have d9 := hD2.cell 9; have f17 := hD2.frozen 17; have d17 := hD2.cell 17
        simp only [List.getElem?_toArray, List.getElem?_cons_zero, List.getElem?_cons_succ] at d9 d17
        have HD3 : Hid (DeAt (w2.setCell ⟨p, 17, none⟩ (.int .i64 1)) p d (.slice A nb c) ⟨1, s.paid⟩) := Lib.hid (by have q := hD2.set_ 17 (.int .i64 1); simpa using q)
        have HF3 : Hid (Fr (fun k => k = p) w (w2.setCell ⟨p, 17, none⟩ (.int .i64 1))) := Lib.hid (HF2.out.setCell (p := ⟨p, 17, none⟩) (.inl rfl) _)
        clear hD2 e3
        obtain ⟨n, hn⟩ : ∃ n, dueV d = n := ⟨_, rfl⟩
        rw [hn] at HV2 q3 ⊢
        go_upto_region 6 with (fail)
        obtain ⟨w3, hw3⟩ : ∃ W, w2.setCell ⟨p, 17, none⟩ (.int .i64 1) = W := ⟨_, rfl⟩
        rw [hw3] at HD3 HF3 ⊢
        clear hw3 d9 f17 d17
        have d9 := HD3.out.cell 9
        simp only [List.getElem?_toArray, List.getElem?_cons_zero, List.getElem?_cons_succ] at d9
        have hmb := mbuild w3 d.cur n
        have HD4 := Lib.hid (HD3.out.alloc (.cells #[.string d.cur, .int .i64 n] 50))
        have HF4 := Lib.hid (HF3.out.alloc (.cells #[.string d.cur, .int .i64 n] 50))
        have HM4 : Hid (Blk (w3.alloc (.cells #[.string d.cur, .int .i64 n] 50)) w3.heap.size 50 #[.string d.cur, .int .i64 n]) := Lib.hid (Blk.new _ _ _)
        go_upto_region 7 with ((refine stop_store 50 _ _ rfl ?_; refine wpList_store_new rfl 50 _ _ rfl _ rfl rfl (by kernel_rfl) rfl rfl ?_))
        obtain ⟨w4, hw4⟩ : ∃ W, w3.alloc (.cells #[.string d.cur, .int .i64 n] 50) = W := ⟨_, rfl⟩
        obtain ⟨g, hg⟩ : ∃ g, w3.heap.size = g := ⟨_, rfl⟩
        rw [hw4] at HD4 HF4 HM4 ⊢
        rw [hg] at HM4
        simp only [hg]
        clear hw4 hg d9 hmb
        try simp only [Act.put, List.setIfInBounds_toArray, List.set_cons_zero, List.set_cons_succ]
        refine wp_region_soft [Is (.pointer (some ⟨p, 0, none⟩)), Is (.pointer (some ⟨p, 0, none⟩)), Is (.pointer (some ⟨p, 0, none⟩)), Is (.pointer (some ⟨p, 2, none⟩)), Is (.string d.buy), Is (.agg #[.string d.cur, .int .i64 n]), Is (.agg #[.string ⟨#[]⟩, .string d.buy, .int .i64 0, .int .i64 16, .int .i64 0, .string ⟨#[]⟩, .string ⟨#[]⟩, .string ⟨#[]⟩, .int .i64 0, .int .i64 0, .string d.cur, .int .i64 n, .slice none 0 0, .slice none 0 0]), RowAt w4.heap.size 1 #[.string ⟨#[]⟩, .string d.buy, .int .i64 0, .int .i64 16, .int .i64 0, .string ⟨#[]⟩, .string ⟨#[]⟩, .string ⟨#[]⟩, .int .i64 0, .int .i64 0, .string d.cur, .int .i64 n, .slice none 0 0, .slice none 0 0], RowAt w4.heap.size 1 #[.string ⟨#[]⟩, .string d.buy, .int .i64 0, .int .i64 16, .int .i64 0, .string ⟨#[]⟩, .string ⟨#[]⟩, .string ⟨#[]⟩, .int .i64 0, .int .i64 0, .string d.cur, .int .i64 n, .slice none 0 0, .slice none 0 0]] ⟨stab_is _, stab_is _, stab_is _, stab_is _, stab_is _, stab_is _, stab_is _, stab_rowat _ _ _, stab_rowat _ _ _, trivial⟩ (by kernel_rfl) (by kernel_rfl) ?_ ?_
        · refine ⟨?_, ?_, ?_, ?_, ?_, ?_, ?_, ?_, ?_, trivial⟩
          all_goals intro done vs ac W1 hdep hB hR hE
          all_goals have ec : ∀ v : Value, ac.eval (.const v) = v := fun _ => rfl
          all_goals try simp [Region.binds] at hdep
          · have e1 : ac.eval (.tmp 1) = .pointer (some ⟨p, 0, none⟩) := (hE 1 (by simp)).trans (by simp [evF, Act.eval])
            exact soft_value (.pointer (some ⟨p, 0, none⟩)) (by unfold execOp; simp only [e1, ec]; rfl) rfl
          · have d0 : vs 0 = .pointer (some ⟨p, 0, none⟩) := hR 0 (by simp [hdep])
            have e39 : ac.eval (.tmp 39) = .pointer (some ⟨p, 0, none⟩) := (hE 39 (by simp)).trans (by simp [evF, hdep, d0])
            exact soft_value (.pointer (some ⟨p, 0, none⟩)) (by unfold execOp; simp only [e39]; go_simp) rfl
          · have d1 : vs 1 = .pointer (some ⟨p, 0, none⟩) := hR 1 (by simp [hdep])
            have e40 : ac.eval (.tmp 40) = .pointer (some ⟨p, 0, none⟩) := (hE 40 (by simp)).trans (by simp [evF, hdep, d1])
            exact soft_value (.pointer (some ⟨p, 0, none⟩)) (by unfold execOp; simp only [e40]; kernel_rfl) rfl
          · have d2 : vs 2 = .pointer (some ⟨p, 0, none⟩) := hR 2 (by simp [hdep])
            have e41 : ac.eval (.tmp 41) = .pointer (some ⟨p, 0, none⟩) := (hE 41 (by simp)).trans (by simp [evF, hdep, d2])
            exact soft_value (.pointer (some ⟨p, 2, none⟩)) (by unfold execOp; simp only [e41]; kernel_rfl) rfl
          · have d3 : vs 3 = .pointer (some ⟨p, 2, none⟩) := hR 3 (by simp [hdep])
            have e42 : ac.eval (.tmp 42) = .pointer (some ⟨p, 2, none⟩) := (hE 42 (by simp)).trans (by simp [evF, hdep, d3])
            have hc2 : W1.cell? ⟨p, 2, none⟩ = some (.string d.buy) := (HD4.out.below hB HD4.out.lt).cell 2
            exact soft_value (.string d.buy) (by unfold execOp; simp only [e42]; go_simp) rfl
          · have e8 : ac.eval (.tmp 8) = .pointer (some ⟨g, 0, none⟩) := (hE 8 (by simp)).trans (by simp [evF, Act.eval])
            exact wp_load_row 50 _ rfl (g) e8 50 _ (0, 0) _ (HM4.out.below hB HM4.out.lt) Tryz.underlying50 rfl (by kernel_rfl) ⟨_, rfl, Below.refl _ _, rfl⟩
          · have d4 : vs 4 = .string d.buy := hR 4 (by simp [hdep])
            have e43 : ac.eval (.tmp 43) = .string d.buy := (hE 43 (by simp)).trans (by simp [evF, hdep, d4])
            have d5 : vs 5 = .agg #[.string d.cur, .int .i64 n] := hR 5 (by simp [hdep])
            have e44 : ac.eval (.tmp 44) = .agg #[.string d.cur, .int .i64 n] := (hE 44 (by simp)).trans (by simp [evF, hdep, d5])
            exact soft_value (.agg #[.string ⟨#[]⟩, .string d.buy, .int .i64 0, .int .i64 16, .int .i64 0, .string ⟨#[]⟩, .string ⟨#[]⟩, .string ⟨#[]⟩, .int .i64 0, .int .i64 0, .string d.cur, .int .i64 n, .slice none 0 0, .slice none 0 0]) (by simp [execOp, e43, e44, ec, lbuild3, Result.andThen]) rfl
          · have d6 : vs 6 = .agg #[.string ⟨#[]⟩, .string d.buy, .int .i64 0, .int .i64 16, .int .i64 0, .string ⟨#[]⟩, .string ⟨#[]⟩, .string ⟨#[]⟩, .int .i64 0, .int .i64 0, .string d.cur, .int .i64 n, .slice none 0 0, .slice none 0 0] := hR 6 (by simp [hdep])
            have e45 : ac.eval (.tmp 45) = .agg #[.string ⟨#[]⟩, .string d.buy, .int .i64 0, .int .i64 16, .int .i64 0, .string ⟨#[]⟩, .string ⟨#[]⟩, .string ⟨#[]⟩, .int .i64 0, .int .i64 0, .string d.cur, .int .i64 n, .slice none 0 0, .slice none 0 0] := (hE 45 (by simp)).trans (by simp [evF, hdep, d6])
            refine wp_bs1 30 57 1 _ rfl #[(0, .agg #[.string ⟨#[]⟩, .string d.buy, .int .i64 0, .int .i64 16, .int .i64 0, .string ⟨#[]⟩, .string ⟨#[]⟩, .string ⟨#[]⟩, .int .i64 0, .int .i64 0, .string d.cur, .int .i64 n, .slice none 0 0, .slice none 0 0])] (by simp [e45]) _ (lslice1 W1 d.buy d.cur 16 n _ rfl) ⟨_, rfl, one_alloc _ _, ⟨_, rfl, hB.size, Blk.new _ _ _⟩⟩
          · obtain ⟨b7, d7, l7, h7⟩ := (show (RowAt w4.heap.size 1 #[.string ⟨#[]⟩, .string d.buy, .int .i64 0, .int .i64 16, .int .i64 0, .string ⟨#[]⟩, .string ⟨#[]⟩, .string ⟨#[]⟩, .int .i64 0, .int .i64 0, .string d.cur, .int .i64 n, .slice none 0 0, .slice none 0 0]) (vs 7) W1 from hR 7 (by simp [hdep]))
            have e46 : ac.eval (.tmp 46) = .slice (some ⟨b7, 0, none⟩) 1 1 := (hE 46 (by simp)).trans (by simp [evF, hdep, d7])
            exact soft_value (.slice (some ⟨b7, 0, none⟩) 1 1) (by unfold execOp; simp only [e46]; rfl) ⟨_, rfl, l7, h7⟩
        · intro vs W hB hR
          obtain ⟨g1, h12, l12, d12⟩ := (show RowAt w4.heap.size 1 #[.string ⟨#[]⟩, .string d.buy, .int .i64 0, .int .i64 16, .int .i64 0, .string ⟨#[]⟩, .string ⟨#[]⟩, .string ⟨#[]⟩, .int .i64 0, .int .i64 0, .string d.cur, .int .i64 n, .slice none 0 0, .slice none 0 0] (vs 8) W from hR 8 (by simp))
          have HO : Hid (OlAt W w.heap.size (.slice (some ⟨g1, 0, none⟩) 1 1) ⟨#[]⟩ 0 (dutyL d n)) := Lib.hid (.inr (.inl ⟨g1, _, .slice none 0 0, rfl, rfl, Nat.le_trans HF4.out.size l12, d12, rfl⟩))
          have HD5 := Lib.hid (HD4.out.below hB HD4.out.lt)
          have HF5 := Lib.hid (HF4.out.on hB)
          clear hR hB
          simp only [fillA, Act.put, List.setIfInBounds_toArray, List.set_cons_zero, List.set_cons_succ, if_true, h12]
          go_wp2_with fail
          go_ret
          rw [HV2.out]
          exact ⟨_, rfl, HO.out, HD5.out, HF5.out⟩
      · have q3 : decide (dueV d > 0) = false := decide_eq_false e3
        have hV := HV.out
        rw [if_neg e3] at hV
        have HV2 := Lib.hid hV
        clear hV HV e3
        have HD2 := Lib.hid hD2
        clear hD2
        go_wp2_with fail
        refine (release_any p d A nb c s _ HD2.out).mono ?_
        rintro e w3 ⟨v, rfl, hv, hd3, hf3⟩
        have HF3 := Lib.hid (HF2.out.trans hf3 (fun k hk => .inl hk))
        have HO3 := Lib.hid (hv.lower HF2.out.size)
        have HD3 := Lib.hid hd3
        clear hv hd3 hf3
        go_wp2_with fail
        go_ret
        rw [HV2.out]
        exact ⟨_, rfl, HO3.out, HD3.out, HF3.out⟩
    · have q2 : (s.st != 0) = true := by simp [e2]
      have HV : Hid (declV d s l = ([], s)) := Lib.hid (by unfold declV; rw [if_neg (fun h => e2 h.2)])
      clear e1 e2
      go_quiet (fail)
      go_wp2_with fail
      go_ret
      rw [HV.out]
      exact DoP.none_ HZ.out (below_drewN HB.out _)
  · have q1 : (l.fr.toList == d.buy.toList) = false := by rw [eq_str]; exact decide_eq_false e1
    have HV : Hid (declV d s l = ([], s)) := Lib.hid (by unfold declV; rw [if_neg (fun h => e1 h.1)])
    clear e1
    go_quiet (fail)
    go_wp2_with fail
    go_ret
    rw [HV.out]
    exact DoP.none_ HZ.out (below_drewN HB.out _)
end Go.Proofs.YtdanjegnhdpnlaaGreatDoor.kit
