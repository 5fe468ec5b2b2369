/- An office: what a house does with what was credited. No condition. -/
import Derived.Test.YtdanjegnhdpnlaaGreatDoorOfB
namespace Go.Proofs.YtdanjegnhdpnlaaGreatDoor.kit
open Go.RowKit
set_option linter.unusedVariables false
set_option linter.unusedSimpArgs false
theorem cred_no {w w' : World} {p : Nat} {d : Dl} {A : Option Addr} {nb c : Nat} {s : St} {bank : ByteArray} {l : Lt} (h : DeAt w p d (.slice A nb c) s) (hb : Below w.heap.size w w') (hn : ¬ (l.fr = bank ∧ l.cur = d.cur ∧ 0 ≤ l.amt)) : DoP w p d A nb c (credV bank d s l) (.returned (.slice none 0 0)) w' := by
  unfold credV
  rw [if_neg hn]
  exact DoP.none_ h hb
set_option maxRecDepth 100000 in
set_option maxHeartbeats 6400000 in
theorem cred_any (o p : Nat) (bank : ByteArray) (d : Dl) (A : Option Addr) (nb c : Nat) (s : St) (l : Lt) (w : World) (h : DeAt w p d (.slice A nb c) s) (ho : d.ok) (hs : s.ok) (hl : I64 l.amt) (hbk : w.cell? ⟨o, 1, none⟩ = some (.string bank)) :
    Calls Tryz.prog 45 #[(.pointer (some ⟨o, 0, none⟩)), (.pointer (some ⟨p, 0, none⟩)), .agg #[.string l.fr, .string l.to, .int .i64 l.num, .int .i64 l.kind, .int .i64 l.ack, .string l.deal, .string l.text, .string l.party, .int .i64 l.idx, .int .i64 l.day, .string l.cur, .int .i64 l.amt, .slice l.A1 l.n1 l.c1, .slice l.A2 l.n2 l.c2]] w (DoP w p d A nb c (credV bank d s l)) := by
  have HO := Lib.hid ho
  have HZ := Lib.hid h
  have HS := Lib.hid hs
  have HL := Lib.hid hl
  have hD : DeAt (w.alloc (.cells #[.string l.fr, .string l.to, .int .i64 l.num, .int .i64 l.kind, .int .i64 l.ack, .string l.deal, .string l.text, .string l.party, .int .i64 l.idx, .int .i64 l.day, .string l.cur, .int .i64 l.amt, .slice l.A1 l.n1 l.c1, .slice l.A2 l.n2 l.c2] 57)) p d (.slice A nb c) s := Blk.alloc h _
  have hk : Blk (w.alloc (.cells #[.string l.fr, .string l.to, .int .i64 l.num, .int .i64 l.kind, .int .i64 l.ack, .string l.deal, .string l.text, .string l.party, .int .i64 l.idx, .int .i64 l.day, .string l.cur, .int .i64 l.amt, .slice l.A1 l.n1 l.c1, .slice l.A2 l.n2 l.c2] 57)) w.heap.size 57 #[.string l.fr, .string l.to, .int .i64 l.num, .int .i64 l.kind, .int .i64 l.ack, .string l.deal, .string l.text, .string l.party, .int .i64 l.idx, .int .i64 l.day, .string l.cur, .int .i64 l.amt, .slice l.A1 l.n1 l.c1, .slice l.A2 l.n2 l.c2] := Blk.new _ _ _
  have HB : Hid (Below w.heap.size w (w.alloc (.cells #[.string l.fr, .string l.to, .int .i64 l.num, .int .i64 l.kind, .int .i64 l.ack, .string l.deal, .string l.text, .string l.party, .int .i64 l.idx, .int .i64 l.day, .string l.cur, .int .i64 l.amt, .slice l.A1 l.n1 l.c1, .slice l.A2 l.n2 l.c2] 57))) := Lib.hid (one_alloc _ _)
  have b1 : (w.alloc (.cells #[.string l.fr, .string l.to, .int .i64 l.num, .int .i64 l.kind, .int .i64 l.ack, .string l.deal, .string l.text, .string l.party, .int .i64 l.idx, .int .i64 l.day, .string l.cur, .int .i64 l.amt, .slice l.A1 l.n1 l.c1, .slice l.A2 l.n2 l.c2] 57)).cell? ⟨o, 1, none⟩ = some (.string bank) := (HB.out.cell (World.block_lt_of_cell? w _ hbk)).trans hbk
  have HNE : Hid (p ≠ w.heap.size) := Lib.hid (by have := h.lt; omega)
  clear h ho hbk hs hl
  go_enter Tryz.func45, Tryz.ntmps45
  go_upto_region 1 with (fail)
  obtain ⟨w1, hw1⟩ : ∃ W, w.alloc (.cells #[.string l.fr, .string l.to, .int .i64 l.num, .int .i64 l.kind, .int .i64 l.ack, .string l.deal, .string l.text, .string l.party, .int .i64 l.idx, .int .i64 l.day, .string l.cur, .int .i64 l.amt, .slice l.A1 l.n1 l.c1, .slice l.A2 l.n2 l.c2] 57) = W := ⟨_, rfl⟩
  rw [hw1] at hD hk HB b1 ⊢
  clear hw1
  have HK := Lib.hid hk
  have HD := Lib.hid hD
  have a0 := hk.cell 0; have a10 := hk.cell 10; have a11 := hk.cell 11; have c9 := hD.cell 9
  simp only [List.getElem?_toArray, List.getElem?_cons_zero, List.getElem?_cons_succ] at a0 a10 a11 c9
  clear hk hD
  by_cases e1 : l.fr = bank
  · have q1 : (l.fr.toList == bank.toList) = true := by rw [eq_str]; exact decide_eq_true e1
    by_cases e2 : l.cur = d.cur
    · have q2 : (l.cur.toList == d.cur.toList) = true := by rw [eq_str]; exact decide_eq_true e2
      by_cases e3 : 0 ≤ l.amt
      · have q3 : decide (l.amt < 0) = false := decide_eq_false (by omega)
        have HV : Hid (credV bank d s l = if s.st = 1 ∧ dueV d ≤ paidV s l.amt then (freeL d, ⟨2, paidV s l.amt⟩) else ([], ⟨s.st, paidV s l.amt⟩)) := Lib.hid (by unfold credV; rw [if_pos ⟨e1, e2, e3⟩])
        have HPK := Lib.hid (paid_ok HS.out e3)
        have hW1 : IntKind.i64.wrap (1099511627776 - s.paid) = 1099511627776 - s.paid := i64_id (by have h1 := HS.out.lo; have h2 := HS.out.hi; omega)
        have hW2 : IntKind.i64.wrap (s.paid + min l.amt (1099511627776 - s.paid)) = paidV s l.amt := i64_id (by have h1 := HPK.out.1; have h2 := HPK.out.2; unfold paidV at h1 h2; omega)
        have HW1 := Lib.hid hW1; have HW2 := Lib.hid hW2
        clear e1 e2 e3 hW1 hW2
        go_quiet (fail)
        have HDq := Lib.hid (HD.out.drewN nq)
        have HKq := Lib.hid (HK.out.drewN nq)
        have HBq := Lib.hid (below_drewN HB.out nq)
        go_upto_region 3 with (fail)
        obtain ⟨w2, hw2⟩ : ∃ W, w1.drewN nq = W := ⟨_, rfl⟩
        obtain ⟨gl, hgl⟩ : ∃ g, w.heap.size = g := ⟨_, rfl⟩
        rw [hw2] at HDq HKq HBq ⊢
        rw [hgl] at HKq HNE
        have HG := Lib.hid hgl
        simp only [hgl]
        clear hw2 hgl a0 a10 a11 c9 b1 q1 q2 q3
        try simp only [Act.put, List.setIfInBounds_toArray, List.set_cons_zero, List.set_cons_succ]
        refine wp_region_soft_last [Is (.pointer (some ⟨p, 0, none⟩)), Is (.pointer (some ⟨p, 0, none⟩)), Is (.pointer (some ⟨p, 18, none⟩)), Is (.int .i64 s.paid), Is (.pointer (some ⟨gl, 10, none⟩)), Is (.pointer (some ⟨gl, 11, none⟩)), Is (.int .i64 l.amt), Is (.pointer (some ⟨p, 0, none⟩)), Is (.pointer (some ⟨p, 0, none⟩)), Is (.pointer (some ⟨p, 18, none⟩)), Is (.int .i64 s.paid), Is (.int .i64 (1099511627776 - s.paid)), Is (.int .i64 (min l.amt (1099511627776 - s.paid))), Is (.int .i64 (paidV s l.amt)), Is (.pointer (some ⟨p, 0, none⟩)), Is (.pointer (some ⟨p, 18, none⟩))] ⟨stab_is _, stab_is _, stab_is _, stab_is _, stab_is _, stab_is _, stab_is _, stab_is _, stab_is _, stab_is _, stab_is _, stab_is _, stab_is _, stab_is _, stab_is _, stab_is _, trivial⟩ (by kernel_rfl) (by kernel_rfl) (by kernel_rfl) (by simp) ?_
        refine ⟨?_, ?_, ?_, ?_, ?_, ?_, ?_, ?_, ?_, ?_, ?_, ?_, ?_, ?_, ?_, ?_, ?_⟩
        all_goals intro done vs ac W1 hdep hB hR hE
        all_goals have ec : ∀ v : Value, ac.eval (.const v) = v := fun _ => rfl
        all_goals try simp [Region.binds] at hdep
        · have e1 : ac.eval (.tmp 1) = .pointer (some ⟨p, 0, none⟩) := (hE 1 (by simp)).trans (by simp [evF, Act.eval])
          exact soft_value (.pointer (some ⟨p, 0, none⟩)) (by unfold execOp; simp only [e1, ec]; rfl) rfl
        · have d0 : vs 0 = .pointer (some ⟨p, 0, none⟩) := hR 0 (by simp [hdep])
          have e32 : ac.eval (.tmp 32) = .pointer (some ⟨p, 0, none⟩) := (hE 32 (by simp)).trans (by simp [evF, hdep, d0])
          exact soft_value (.pointer (some ⟨p, 0, none⟩)) (by unfold execOp; simp only [e32]; go_simp) rfl
        · have d1 : vs 1 = .pointer (some ⟨p, 0, none⟩) := hR 1 (by simp [hdep])
          have e33 : ac.eval (.tmp 33) = .pointer (some ⟨p, 0, none⟩) := (hE 33 (by simp)).trans (by simp [evF, hdep, d1])
          exact soft_value (.pointer (some ⟨p, 18, none⟩)) (by unfold execOp; simp only [e33]; kernel_rfl) rfl
        · have d2 : vs 2 = .pointer (some ⟨p, 18, none⟩) := hR 2 (by simp [hdep])
          have e34 : ac.eval (.tmp 34) = .pointer (some ⟨p, 18, none⟩) := (hE 34 (by simp)).trans (by simp [evF, hdep, d2])
          have hc18 : W1.cell? ⟨p, 18, none⟩ = some (.int .i64 s.paid) := (HDq.out.below hB HDq.out.lt).cell 18
          exact soft_value (.int .i64 s.paid) (by unfold execOp; simp only [e34]; go_simp) rfl
        · have e5 : ac.eval (.tmp 5) = .pointer (some ⟨gl, 0, none⟩) := (hE 5 (by simp)).trans (by simp [evF, Act.eval])
          exact soft_value (.pointer (some ⟨gl, 10, none⟩)) (by unfold execOp; simp only [e5]; kernel_rfl) rfl
        · have d4 : vs 4 = .pointer (some ⟨gl, 10, none⟩) := hR 4 (by simp [hdep])
          have e36 : ac.eval (.tmp 36) = .pointer (some ⟨gl, 10, none⟩) := (hE 36 (by simp)).trans (by simp [evF, hdep, d4])
          exact soft_value (.pointer (some ⟨gl, 11, none⟩)) (by unfold execOp; simp only [e36]; kernel_rfl) rfl
        · have d5 : vs 5 = .pointer (some ⟨gl, 11, none⟩) := hR 5 (by simp [hdep])
          have e37 : ac.eval (.tmp 37) = .pointer (some ⟨gl, 11, none⟩) := (hE 37 (by simp)).trans (by simp [evF, hdep, d5])
          have hc11 : W1.cell? ⟨gl, 11, none⟩ = some (.int .i64 l.amt) := (HKq.out.below hB HKq.out.lt).cell 11
          exact soft_value (.int .i64 l.amt) (by unfold execOp; simp only [e37]; go_simp) rfl
        · have e1 : ac.eval (.tmp 1) = .pointer (some ⟨p, 0, none⟩) := (hE 1 (by simp)).trans (by simp [evF, Act.eval])
          exact soft_value (.pointer (some ⟨p, 0, none⟩)) (by unfold execOp; simp only [e1, ec]; rfl) rfl
        · have d7 : vs 7 = .pointer (some ⟨p, 0, none⟩) := hR 7 (by simp [hdep])
          have e39 : ac.eval (.tmp 39) = .pointer (some ⟨p, 0, none⟩) := (hE 39 (by simp)).trans (by simp [evF, hdep, d7])
          exact soft_value (.pointer (some ⟨p, 0, none⟩)) (by unfold execOp; simp only [e39]; go_simp) rfl
        · have d8 : vs 8 = .pointer (some ⟨p, 0, none⟩) := hR 8 (by simp [hdep])
          have e40 : ac.eval (.tmp 40) = .pointer (some ⟨p, 0, none⟩) := (hE 40 (by simp)).trans (by simp [evF, hdep, d8])
          exact soft_value (.pointer (some ⟨p, 18, none⟩)) (by unfold execOp; simp only [e40]; kernel_rfl) rfl
        · have d9 : vs 9 = .pointer (some ⟨p, 18, none⟩) := hR 9 (by simp [hdep])
          have e41 : ac.eval (.tmp 41) = .pointer (some ⟨p, 18, none⟩) := (hE 41 (by simp)).trans (by simp [evF, hdep, d9])
          have hc18 : W1.cell? ⟨p, 18, none⟩ = some (.int .i64 s.paid) := (HDq.out.below hB HDq.out.lt).cell 18
          exact soft_value (.int .i64 s.paid) (by unfold execOp; simp only [e41]; go_simp) rfl
        · have d10 : vs 10 = .int .i64 s.paid := hR 10 (by simp [hdep])
          have e42 : ac.eval (.tmp 42) = .int .i64 s.paid := (hE 42 (by simp)).trans (by simp [evF, hdep, d10])
          exact soft_value (.int .i64 (1099511627776 - s.paid)) (by have hw := HW1.out; unfold execOp; simp only [e42, ec]; go_simp; first | done | simp [hw]) rfl
        · have d6 : vs 6 = .int .i64 l.amt := hR 6 (by simp [hdep])
          have e38 : ac.eval (.tmp 38) = .int .i64 l.amt := (hE 38 (by simp)).trans (by simp [evF, hdep, d6])
          have d11 : vs 11 = .int .i64 (1099511627776 - s.paid) := hR 11 (by simp [hdep])
          have e43 : ac.eval (.tmp 43) = .int .i64 (1099511627776 - s.paid) := (hE 43 (by simp)).trans (by simp [evF, hdep, d11])
          exact soft_value (.int .i64 (min l.amt (1099511627776 - s.paid))) (by simp [execOp, resolve, invoke, builtin, e38, e43, ec, Lib.run_min_ints, Result.andThen]) rfl
        · have d3 : vs 3 = .int .i64 s.paid := hR 3 (by simp [hdep])
          have e35 : ac.eval (.tmp 35) = .int .i64 s.paid := (hE 35 (by simp)).trans (by simp [evF, hdep, d3])
          have d12 : vs 12 = .int .i64 (min l.amt (1099511627776 - s.paid)) := hR 12 (by simp [hdep])
          have e44 : ac.eval (.tmp 44) = .int .i64 (min l.amt (1099511627776 - s.paid)) := (hE 44 (by simp)).trans (by simp [evF, hdep, d12])
          exact soft_value (.int .i64 (paidV s l.amt)) (by have hw := HW2.out; unfold execOp; simp only [e35, e44, ec]; go_simp; first | done | simp [hw]) rfl
        · have d0 : vs 0 = .pointer (some ⟨p, 0, none⟩) := hR 0 (by simp [hdep])
          have e32 : ac.eval (.tmp 32) = .pointer (some ⟨p, 0, none⟩) := (hE 32 (by simp)).trans (by simp [evF, hdep, d0])
          exact soft_value (.pointer (some ⟨p, 0, none⟩)) (by unfold execOp; simp only [e32]; go_simp) rfl
        · have d14 : vs 14 = .pointer (some ⟨p, 0, none⟩) := hR 14 (by simp [hdep])
          have e46 : ac.eval (.tmp 46) = .pointer (some ⟨p, 0, none⟩) := (hE 46 (by simp)).trans (by simp [evF, hdep, d14])
          exact soft_value (.pointer (some ⟨p, 18, none⟩)) (by unfold execOp; simp only [e46]; kernel_rfl) rfl
        · have hall := hdep
          have d15 : vs 15 = .pointer (some ⟨p, 18, none⟩) := hR 15 (by omega)
          have e47 : ac.eval (.tmp 47) = .pointer (some ⟨p, 18, none⟩) := (hE 47 (by simp)).trans (by simp [evF, hall 15 (by omega), d15])
          have d13 : vs 13 = .int .i64 (paidV s l.amt) := hR 13 (by omega)
          have e45 : ac.eval (.tmp 45) = .int .i64 (paidV s l.amt) := (hE 45 (by simp)).trans (by simp [evF, hall 13 (by omega), d13])
          have hkp := HDq.out.below hB HDq.out.lt
          have hc18 := hkp.cell 18
          simp only [List.getElem?_toArray, List.getElem?_cons_zero, List.getElem?_cons_succ] at hc18
          refine wp_store_val 2 (.tmp 47) (.tmp 45) rfl p 18 (.int .i64 (paidV s l.amt)) _ e47 e45 hc18 (hkp.frozen 18) (by kernel_rfl) rfl rfl ⟨_, rfl, ?_⟩
          have HD3 : Hid (DeAt (W1.setCell ⟨p, 18, none⟩ (.int .i64 (paidV s l.amt))) p d (.slice A nb c) ⟨s.st, paidV s l.amt⟩) := Lib.hid (by have q := hkp.set_ 18 (.int .i64 (paidV s l.amt)); simpa using q)
          have HF3 : Hid (Fr (fun k => k = p) w (W1.setCell ⟨p, 18, none⟩ (.int .i64 (paidV s l.amt)))) := Lib.hid (((Fr.of_below (S := fun k => k = p) HBq.out (Nat.le_refl _)).on hB).setCell (p := ⟨p, 18, none⟩) (.inl rfl) _)
          obtain ⟨w3, hw3⟩ : ∃ W, W1.setCell ⟨p, 18, none⟩ (.int .i64 (paidV s l.amt)) = W := ⟨_, rfl⟩
          rw [hw3] at HD3 HF3 ⊢
          obtain ⟨P, hP⟩ : ∃ P, paidV s l.amt = P := ⟨_, rfl⟩
          rw [hP] at HD3 HV HPK
          clear hw3 hP hB hR hE hdep hc18 hkp HW1 HW2 e45 e47 HKq HDq HBq HK HD HB
          simp only [fillA, Act.put, List.setIfInBounds_toArray, List.set_cons_zero, List.set_cons_succ, if_true]
          have c17 := HD3.out.cell 17; have c18 := HD3.out.cell 18
          simp only [List.getElem?_toArray, List.getElem?_cons_zero, List.getElem?_cons_succ] at c17 c18
          by_cases e4 : s.st = 1
          · have q4 : (s.st == 1) = true := by simp [e4]
            have q4' : decide (s.st = 1) = true := decide_eq_true e4
            have w17 := wof_cell c17; have w18 := wof_cell c18
            have Q1 : Hid (∀ x : BW w3, Calls Tryz.prog 61 #[(.pointer (some ⟨p, 0, none⟩))] (wof x) fun e w' => e = .returned (.int .i64 (dueV d)) ∧ Below (wof x).heap.size (wof x) w') := Lib.hid fun x => duty_any p d A nb c _ _ (HD3.out.below (wof_below x) HD3.out.lt) HO.out
            go_wp2_with fail
            refine wp_region_quiet_below (by kernel_rfl) (by kernel_rfl) ?_
            repeat (go_big_quiet_step ((go_at_call 61; exact quiet_below (Q1.out _))))
            refine wpQuiet_nil ?_
            intro w4 hb4
            have HD4 := Lib.hid (HD3.out.below hb4 HD3.out.lt)
            have HF4 := Lib.hid (HF3.out.on hb4)
            clear c17 c18 w17 w18 Q1
            by_cases e5 : dueV d ≤ P
            · have q5 : decide (P ≥ dueV d) = true := decide_eq_true e5
              have hV := HV.out
              rw [if_pos ⟨e4, e5⟩] at hV
              have HV2 := Lib.hid hV
              clear hV HV
              go_wp2_with fail
              refine (release_any p d A nb c ⟨s.st, P⟩ _ HD4.out).mono ?_
              rintro e w5 ⟨v, rfl, hv, hd5, hf5⟩
              have HF5 := Lib.hid (HF4.out.trans hf5 (fun k hk => .inl hk))
              have HO5 := Lib.hid (hv.lower HF4.out.size)
              have HD5 := Lib.hid hd5
              clear hv hd5 hf5
              go_wp2_with fail
              go_ret
              rw [HV2.out]
              exact ⟨_, rfl, HO5.out, HD5.out, HF5.out⟩
            · have q5 : decide (P ≥ dueV d) = false := decide_eq_false e5
              have hV := HV.out
              rw [if_neg (fun h => e5 h.2)] at hV
              have HV2 := Lib.hid hV
              clear hV HV
              go_wp2_with fail
              go_ret
              rw [HV2.out]
              exact ⟨_, rfl, .inl ⟨rfl, rfl⟩, HD4.out, HF4.out⟩
          · have q4 : (s.st == 1) = false := by simp [e4]
            have q4' : decide (s.st = 1) = false := decide_eq_false e4
            have hV := HV.out
            rw [if_neg (fun h => e4 h.1)] at hV
            have HV2 := Lib.hid hV
            clear hV HV
            go_wp2_with fail
            go_quiet (fail)
            have HD4 := Lib.hid (HD3.out.drewN nq)
            have HF4 := Lib.hid (HF3.out.on (below_drewN (Below.refl _ _) nq))
            go_wp2_with fail
            go_ret
            rw [HV2.out]
            exact ⟨_, rfl, .inl ⟨rfl, rfl⟩, HD4.out, HF4.out⟩
      · have q3 : decide (l.amt < 0) = true := decide_eq_true (by omega)
        have HN : Hid (¬ (l.fr = bank ∧ l.cur = d.cur ∧ 0 ≤ l.amt)) := Lib.hid (fun h => e3 h.2.2)
        clear e1 e2 e3
        go_quiet (fail)
        go_wp2_with fail
        go_ret
        exact cred_no HZ.out (below_drewN HB.out _) HN.out
    · have q2 : (l.cur.toList == d.cur.toList) = false := by rw [eq_str]; exact decide_eq_false e2
      have HN : Hid (¬ (l.fr = bank ∧ l.cur = d.cur ∧ 0 ≤ l.amt)) := Lib.hid (fun h => e2 h.2.1)
      clear e1 e2
      go_quiet (fail)
      go_wp2_with fail
      go_ret
      exact cred_no HZ.out (below_drewN HB.out _) HN.out
  · have q1 : (l.fr.toList == bank.toList) = false := by rw [eq_str]; exact decide_eq_false e1
    have HN : Hid (¬ (l.fr = bank ∧ l.cur = d.cur ∧ 0 ≤ l.amt)) := Lib.hid (fun h => e1 h.1)
    clear e1
    go_quiet (fail)
    go_wp2_with fail
    go_ret
    exact cred_no HZ.out (below_drewN HB.out _) HN.out
end Go.Proofs.YtdanjegnhdpnlaaGreatDoor.kit
