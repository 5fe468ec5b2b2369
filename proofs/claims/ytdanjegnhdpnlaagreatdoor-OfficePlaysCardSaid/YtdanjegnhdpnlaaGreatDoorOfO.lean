/- A new office. No condition. -/
import Derived.Test.YtdanjegnhdpnlaaGreatDoorOfI
import Derived.Test.YtdanjegnhdpnlaaGreatDoorOfH
import Derived.Deep.Cut
namespace Go.Proofs.YtdanjegnhdpnlaaGreatDoor.kit
open Go.RowKit
set_option linter.unusedVariables false
set_option linter.unusedSimpArgs false
/-- A setup: parties, deals, and what is not looked at. -/
structure Su where
  pA : Option Addr
  pn : Nat
  pc : Nat
  dA : Option Addr
  dn : Nat
  dc : Nat
  fA : Option Addr
  fn : Nat
  fc : Nat
  rA : Option Addr
  rn : Nat
  rc : Nat
  hA : Option Addr
  hn : Nat
  hc : Nat
structure SuOK (W : World) (s : Su) (ps : List Pty) (xs : List Dx) : Prop where
  p : SliceOf W 3 ptyC s.pA s.pn ps
  d : SliceOf W 17 dxC s.dA s.dn xs
  bx : ∀ x ∈ xs, BoxOK W x
  ok : ∀ x ∈ xs, x.d.ok
  pn : s.pn ≤ 16
  dn : s.dn ≤ 16
theorem SuOK.below {W W' : World} {s : Su} {ps : List Pty} {xs : List Dx} (h : SuOK W s ps xs) (hb : Below W.heap.size W W') : SuOK W' s ps xs :=
  ⟨h.p.below hb, h.d.below hb, fun x hx => (h.bx x hx).below hb, h.ok, h.pn, h.dn⟩
theorem own_sl6 {w : World} {base n : Nat} {e : TypeId} {C : Nat} {v : Value} {ys : List Value} (h : w.ownsRow base e C v n ys) : ∃ A c, v = .slice A n c := by
  rcases h.2 with ⟨hv, h0⟩ | ⟨g, cap, cur, hv, _⟩
  · exact ⟨none, 0, by rw [hv, h0]⟩
  · exact ⟨_, _, hv⟩
theorem zero_b (u : World) : (zeroValue 4).run Tryz.prog u = .ok (.bool false) u := by kernel_rfl
theorem omake (w : World) : (Instr.makeMap 73 none).run Tryz.prog w = .ok (.map (some w.heap.size)) (w.alloc (.map #[] 0)) := by kernel_rfl
theorem smake (w : World) : (Instr.makeMap 88 none).run Tryz.prog w = .ok (.map (some w.heap.size)) (w.alloc (.map #[] 0)) := by kernel_rfl
theorem obuild (w : World) (a : ByteArray) (g : Nat) : (Instr.build 76 #[(0, .string a), (2, .int .i64 (-1)), (3, .map (some g))]).run Tryz.prog w = .ok (.agg #[.string a, .string ⟨#[]⟩, .int .i64 (-1), .map (some g)]) w := run_build w _ _ _ (by kernel_rfl)
def NewP (w : World) (nm : ByteArray) (ps : List Pty) (xs : List Dx) (e : Ending) (w' : World) : Prop :=
  ∃ o mb n m, e = .returned (.pointer (some ⟨o, 0, none⟩)) ∧ Off w' w.heap.size w'.heap.size o nm (whoV nm ps).2 (whoV nm ps).1 mb n m (dealsOf nm (whoV nm ps).1 xs) (fun _ => ⟨0, 0⟩) ∧ Below w.heap.size w w'
set_option maxRecDepth 100000 in
set_option maxHeartbeats 12800000 in
theorem new_any (nm : ByteArray) (s : Su) (ps : List Pty) (xs : List Dx) (w : World) (h : SuOK w s ps xs) :
    Calls Tryz.prog 14 #[.string nm, .agg #[.slice s.pA s.pn s.pc, .slice s.dA s.dn s.dc, .slice s.fA s.fn s.fc, .slice s.rA s.rn s.rc, .slice s.hA s.hn s.hc]] w (NewP w nm ps xs) := by
  obtain ⟨pA, pn, pc, dA, dn, dc, fA, fn, fc, rA, rn, rc, hA, hn, hc⟩ := s
  dsimp only
  have HS := Lib.hid h
  have HB0 := Lib.hid (one_alloc w (.cells #[.slice pA pn pc, .slice dA dn dc, .slice fA fn fc, .slice rA rn rc, .slice hA hn hc] 29))
  have HK0 : Hid (Blk (w.alloc (.cells #[.slice pA pn pc, .slice dA dn dc, .slice fA fn fc, .slice rA rn rc, .slice hA hn hc] 29)) w.heap.size 29 #[.slice pA pn pc, .slice dA dn dc, .slice fA fn fc, .slice rA rn rc, .slice hA hn hc]) := Lib.hid (Blk.new _ _ _)
  clear h
  go_enter Tryz.func14, Tryz.ntmps14
  go_upto_region 1 with (fail)
  generalize Value.agg #[.slice pA pn pc, .slice dA dn dc, .slice fA fn fc, .slice rA rn rc, .slice hA hn hc] = SV
  obtain ⟨w0, hw0⟩ : ∃ W, w.alloc (.cells #[.slice pA pn pc, .slice dA dn dc, .slice fA fn fc, .slice rA rn rc, .slice hA hn hc] 29) = W := ⟨_, rfl⟩
  obtain ⟨gs, hgs⟩ : ∃ g, w.heap.size = g := ⟨_, rfl⟩
  have HG := Lib.hid hgs
  rw [hw0] at HB0 HK0 ⊢
  rw [hgs] at HK0
  simp only [hgs]
  clear hw0 hgs
  have hmk := omake w0
  have hbd := fun g => obuild (w0.alloc (.map #[] 0)) nm g
  have HB1 : Hid (Below w.heap.size w ((w0.alloc (.map #[] 0)).alloc (.cells #[.string nm, .string ⟨#[]⟩, .int .i64 (-1), .map (some w0.heap.size)] 76))) := Lib.hid (HB0.out.trans ((two_alloc w0 _ _).mono HB0.out.size))
  have HK1 := Lib.hid ((HK0.out.alloc (.map #[] 0)).alloc (.cells #[.string nm, .string ⟨#[]⟩, .int .i64 (-1), .map (some w0.heap.size)] 76))
  have HM1 := Lib.hid ((TMap.made w0 .string (fun s : ByteArray => .string s) ptC).alloc (.cells #[.string nm, .string ⟨#[]⟩, .int .i64 (-1), .map (some w0.heap.size)] 76))
  have HO1 : Hid (Blk ((w0.alloc (.map #[] 0)).alloc (.cells #[.string nm, .string ⟨#[]⟩, .int .i64 (-1), .map (some w0.heap.size)] 76)) (w0.heap.size + 1) 76 #[.string nm, .string ⟨#[]⟩, .int .i64 (-1), .map (some w0.heap.size)]) := Lib.hid (blk_second _ _ _ _)
  have HZ1 : Hid (w.heap.size ≤ w0.heap.size) := Lib.hid HB0.out.size
  go_upto_region 2 with (fail)
  obtain ⟨w1, hw1⟩ : ∃ W, (w0.alloc (.map #[] 0)).alloc (.cells #[.string nm, .string ⟨#[]⟩, .int .i64 (-1), .map (some w0.heap.size)] 76) = W := ⟨_, rfl⟩
  obtain ⟨o, ho⟩ : ∃ g, w0.heap.size + 1 = g := ⟨_, rfl⟩
  obtain ⟨mb, hmb⟩ : ∃ g, w0.heap.size = g := ⟨_, rfl⟩
  rw [hw1] at HB1 HK1 HM1 HO1 ⊢
  rw [ho] at HO1
  try simp only [ho]
  have HOZ : Hid (w.heap.size ≤ o) := Lib.hid (by have := HZ1.out; omega)
  have HZ0 : Hid (w0.heap.size ≤ mb) := Lib.hid (by omega)
  have HZB : Hid (w.heap.size ≤ mb) := Lib.hid (by have := HZ1.out; omega)
  rw [hmb] at HM1 HO1
  try simp only [hmb]
  clear hw1 ho hmb hmk hbd HK0 HB0
  have s0 := HK1.out.cell 0; have s1 := HK1.out.cell 1
  simp only [List.getElem?_toArray, List.getElem?_cons_zero, List.getElem?_cons_succ] at s0 s1
  go_upto_region 2 with (fail)
  go_cut [17, 18, 19] from 20 (fun x y z wx => x = .slice pA pn pc ∧ y = .int .i64 pn ∧ z = .int .i64 0 ∧ w1 = wx)
  case first =>
    go_wp2_with fail
    go_meet
    exact ⟨rfl, rfl, rfl, rfl⟩
  case rest =>
    obtain ⟨rfl, rfl, rfl, rfl⟩ := hcut
    rename_i hK0
    refine hK0 _ _ ?_
    go_cut [] from 16 (fun wx => Hid (Below w.heap.size w wx) ∧ Hid (Blk wx gs 29 #[.slice pA pn pc, .slice dA dn dc, .slice fA fn fc, .slice rA rn rc, .slice hA hn hc]) ∧ Hid (TMap wx mb .string (fun s : ByteArray => .string s) ptC 0 (fun _ => none)) ∧ Hid (Blk wx o 76 #[.string nm, .string (whoV nm ps).2, .int .i64 (whoV nm ps).1, .map (some mb)]))
    case first =>
      go_wp2_with fail
      go_loopw [19] (fun i wr => ∃ k : Nat, k ≤ pn ∧ i = .int .i64 k ∧ Hid (whoV nm ps = whoV nm (ps.drop k)) ∧ Hid (Below w.heap.size w wr) ∧ Hid (Blk wr gs 29 #[.slice pA pn pc, .slice dA dn dc, .slice fA fn fc, .slice rA rn rc, .slice hA hn hc]) ∧ Hid (TMap wr mb .string (fun s : ByteArray => .string s) ptC 0 (fun _ => none)) ∧ Hid (Blk wr o 76 #[.string nm, .string ⟨#[]⟩, .int .i64 (-1), .map (some mb)])) (fun i _ => pn - (intOf i).toNat)
      case atStart => exact ⟨0, by omega, rfl, Lib.hid rfl, HB1, HK1, HM1, HO1⟩
      case round =>
        obtain ⟨k, hk, rfl, hwho, hB, hK, hM, hO⟩ := hrel
        have hlen := HS.out.p.len
        have hpn : pn ≤ 16 := HS.out.pn
        dsimp only at hlen
        by_cases hlt : k < pn
        · obtain ⟨b, off, p, hpA, hpk, hc⟩ := el_at (HS.out.p.below hB.out) hlt
          dsimp only at hpA
          subst hpA
          have HW := Lib.hid (who_from (nm := nm) hpk)
          have c0 := hc 0 _ rfl; have c1 := hc 1 _ rfl; have c2 := hc 2 _ rfl
          rw [Nat.add_zero] at c0
          have i0 : (k : Int) < (pn : Int) := by omega
          have HB2 := Lib.hid (hB.out.alloc hB.out.size (.cells #[.string p.nm, .string p.bank, .int .i64 p.kind] 48))
          have HK2 := Lib.hid (hK.out.alloc (.cells #[.string p.nm, .string p.bank, .int .i64 p.kind] 48))
          have HM2 := Lib.hid (hM.out.alloc (.cells #[.string p.nm, .string p.bank, .int .i64 p.kind] 48))
          have HO2 := Lib.hid (hO.out.alloc (.cells #[.string p.nm, .string p.bank, .int .i64 p.kind] 48))
          have HP2 : Hid (Blk (wr.alloc (.cells #[.string p.nm, .string p.bank, .int .i64 p.kind] 48)) wr.heap.size 48 #[.string p.nm, .string p.bank, .int .i64 p.kind]) := Lib.hid (Blk.new _ _ _)
          clear hpk hc
          go_upto_region 5 with ((refine stop_store 48 _ _ rfl ?_; refine wpList_store_new rfl 48 _ _ rfl _ rfl rfl (by kernel_rfl) rfl rfl ?_))
          obtain ⟨w2, hw2⟩ : ∃ W, wr.alloc (.cells #[.string p.nm, .string p.bank, .int .i64 p.kind] 48) = W := ⟨_, rfl⟩
          obtain ⟨gp, hgp⟩ : ∃ g, wr.heap.size = g := ⟨_, rfl⟩
          rw [hw2] at HB2 HK2 HM2 HO2 HP2 ⊢
          rw [hgp] at HP2
          simp only [hgp]
          clear hw2 hgp c0 c1 c2
          have p0 := HP2.out.cell 0; have p2 := HP2.out.cell 2
          simp only [List.getElem?_toArray, List.getElem?_cons_zero, List.getElem?_cons_succ] at p0 p2
          have HNX : Hid (∀ kk, kk = k + 1 → ¬ p.nm = nm → whoV nm ps = whoV nm (ps.drop kk)) := Lib.hid (fun kk e h => by rw [hwho.out, HW.out, if_neg h, e])
          by_cases e1 : p.nm = nm
          · have q1 : (p.nm.toList == nm.toList) = true := by rw [eq_str]; exact decide_eq_true e1
            by_cases e2 : p.kind = 3 ∨ p.kind = 4
            · have hend : Hid (whoV nm ps = (p.kind, p.bank)) := Lib.hid (by rw [hwho.out, HW.out, if_pos e1, if_pos e2])
              have NKO : Hid (gs ≠ o) := Lib.hid (HK2.out.ne_ HO2.out (by decide))
              have NMO : Hid (mb ≠ o) := Lib.hid (HM2.out.ne_blk HO2.out)
              have p1 := HP2.out.cell 1
              simp only [List.getElem?_toArray, List.getElem?_cons_zero, List.getElem?_cons_succ] at p1
              have NPO : Hid (gp ≠ o) := Lib.hid (HP2.out.ne_ HO2.out (by decide))
              by_cases e3 : p.kind = 3
              · have q2 : (p.kind == 3) = true := by simpa using e3
                clear e3
                clear e1 e2
                go_upto_region 7 with (fail)
                try simp only [Act.put, List.setIfInBounds_toArray, List.set_cons_zero, List.set_cons_succ]
                refine wp_region_softX [Is (.pointer (some ⟨o, 0, none⟩)), Is (.pointer (some ⟨o, 0, none⟩)), Is (.pointer (some ⟨gp, 2, none⟩)), Is (.int .i64 p.kind), Is (.pointer (some ⟨gp, 1, none⟩)), Is (.string p.bank), Is (.pointer (some ⟨o, 0, none⟩)), Is (.pointer (some ⟨o, 2, none⟩)), AnyV, Is (.pointer (some ⟨o, 0, none⟩)), Is (.pointer (some ⟨o, 1, none⟩)), AnyV] ⟨stab_is _, stab_is _, stab_is _, stab_is _, stab_is _, stab_is _, stab_is _, stab_is _, stab_anyv, stab_is _, stab_is _, stab_anyv, trivial⟩ (fun k => k = o) ⟨stabf_is _ _, stabf_is _ _, stabf_is _ _, stabf_is _ _, stabf_is _ _, stabf_is _ _, stabf_is _ _, stabf_is _ _, stabf_anyv _, stabf_is _ _, stabf_is _ _, stabf_anyv _, trivial⟩ [false, false, false, false, false, false, false, false, true, false, false, true] (fun done vs W => Blk W o 76 #[.string nm, .string (if done 11 = true then p.bank else ⟨#[]⟩), .int .i64 (if done 8 = true then p.kind else (-1)), .map (some mb)] ∧ (done 11 = true → done 8 = true)) ?_ ?_ (by kernel_rfl) (by kernel_rfl) ?_ ?_
                · intro q_ hq_ done vs v_ W W' h hnd hb
                  have n8 : upDn done q_ 8 = done 8 := up_ne done (fun e => by subst e; exact absurd hq_ (by decide))
                  have n11 : upDn done q_ 11 = done 11 := up_ne done (fun e => by subst e; exact absurd hq_ (by decide))
                  rw [n8, n11]
                  exact ⟨h.1.below hb h.1.lt, h.2⟩
                · exact ⟨HO2.out, fun h => (by cases h)⟩
                · refine ⟨?_, ?_, ?_, ?_, ?_, ?_, ?_, ?_, ?_, ?_, ?_, ?_, trivial⟩
                  all_goals intro done vs ac W1 hdep hnd hB hR hX hE
                  all_goals try simp only [Nat.zero_add, Nat.reduceAdd] at hnd ⊢
                  all_goals have ec : ∀ v : Value, ac.eval (.const v) = v := fun _ => rfl
                  all_goals try simp [Region.binds] at hdep
                  · have e5 : ac.eval (.tmp 5) = .pointer (some ⟨o, 0, none⟩) := (hE 5 (by simp)).trans (by simp [evF, Act.eval])
                    exact soft_value (.pointer (some ⟨o, 0, none⟩)) (by unfold execOp; simp only [e5, ec]; rfl) rfl
                  · have e5 : ac.eval (.tmp 5) = .pointer (some ⟨o, 0, none⟩) := (hE 5 (by simp)).trans (by simp [evF, Act.eval])
                    exact soft_value (.pointer (some ⟨o, 0, none⟩)) (by unfold execOp; simp only [e5, ec]; rfl) rfl
                  · have e7 : ac.eval (.tmp 7) = .pointer (some ⟨gp, 0, none⟩) := (hE 7 (by simp)).trans (by simp [evF, Act.eval])
                    exact soft_value (.pointer (some ⟨gp, 2, none⟩)) (by unfold execOp; simp only [e7]; kernel_rfl) rfl
                  · have d2 : vs 2 = .pointer (some ⟨gp, 2, none⟩) := hR 2 (by simp [hdep])
                    have e37 : ac.eval (.tmp 37) = .pointer (some ⟨gp, 2, none⟩) := (hE 37 (by simp)).trans (by simp [evF, hdep, d2])
                    have hc2 : W1.cell? ⟨gp, 2, none⟩ = some (.int .i64 p.kind) := (HP2.out.fr hB NPO.out).cell 2
                    exact soft_value (.int .i64 p.kind) (by unfold execOp; simp only [e37]; go_simp) rfl
                  · have e7 : ac.eval (.tmp 7) = .pointer (some ⟨gp, 0, none⟩) := (hE 7 (by simp)).trans (by simp [evF, Act.eval])
                    exact soft_value (.pointer (some ⟨gp, 1, none⟩)) (by unfold execOp; simp only [e7]; kernel_rfl) rfl
                  · have d4 : vs 4 = .pointer (some ⟨gp, 1, none⟩) := hR 4 (by simp [hdep])
                    have e39 : ac.eval (.tmp 39) = .pointer (some ⟨gp, 1, none⟩) := (hE 39 (by simp)).trans (by simp [evF, hdep, d4])
                    have hc1 : W1.cell? ⟨gp, 1, none⟩ = some (.string p.bank) := (HP2.out.fr hB NPO.out).cell 1
                    exact soft_value (.string p.bank) (by unfold execOp; simp only [e39]; go_simp) rfl
                  · have d0 : vs 0 = .pointer (some ⟨o, 0, none⟩) := hR 0 (by simp [hdep])
                    have e35 : ac.eval (.tmp 35) = .pointer (some ⟨o, 0, none⟩) := (hE 35 (by simp)).trans (by simp [evF, hdep, d0])
                    exact soft_value (.pointer (some ⟨o, 0, none⟩)) (by unfold execOp; simp only [e35]; go_simp) rfl
                  · have d6 : vs 6 = .pointer (some ⟨o, 0, none⟩) := hR 6 (by simp [hdep])
                    have e41 : ac.eval (.tmp 41) = .pointer (some ⟨o, 0, none⟩) := (hE 41 (by simp)).trans (by simp [evF, hdep, d6])
                    exact soft_value (.pointer (some ⟨o, 2, none⟩)) (by unfold execOp; simp only [e41]; kernel_rfl) rfl
                  · have d7 : vs 7 = .pointer (some ⟨o, 2, none⟩) := hR 7 (by simp [hdep])
                    have e42 : ac.eval (.tmp 42) = .pointer (some ⟨o, 2, none⟩) := (hE 42 (by simp)).trans (by simp [evF, hdep, d7])
                    have d3 : vs 3 = .int .i64 p.kind := hR 3 (by simp [hdep])
                    have e38 : ac.eval (.tmp 38) = .int .i64 p.kind := (hE 38 (by simp)).trans (by simp [evF, hdep, d3])
                    obtain ⟨hx1, hx2⟩ := hX
                    have d11 : done 11 = false := not_of hx2 hnd
                    have n11 : upDn done 8 11 = done 11 := up_ne done (by decide)
                    have hcc := hx1.cell 2
                    simp only [List.getElem?_toArray, List.getElem?_cons_zero, List.getElem?_cons_succ] at hcc
                    refine wp_store_val 3 (.tmp 42) (.tmp 38) rfl o 2 (.int .i64 p.kind) _ e42 e38 hcc (hx1.frozen 2) (by kernel_rfl) rfl rfl ⟨_, rfl, (Fr.refl (fun k => k = o) W1).setCell (.inl rfl) _, ?_, trivial⟩
                    refine ⟨?_, ?_⟩
                    · have q := hx1.set_ 2 (.int .i64 p.kind)
                      try dsimp only
                      rw [up_same, n11]
                      simpa using q
                    · intro h; rw [n11, d11] at h; cases h
                  · have d1 : vs 1 = .pointer (some ⟨o, 0, none⟩) := hR 1 (by simp [hdep])
                    have e36 : ac.eval (.tmp 36) = .pointer (some ⟨o, 0, none⟩) := (hE 36 (by simp)).trans (by simp [evF, hdep, d1])
                    exact soft_value (.pointer (some ⟨o, 0, none⟩)) (by unfold execOp; simp only [e36]; go_simp) rfl
                  · have d9 : vs 9 = .pointer (some ⟨o, 0, none⟩) := hR 9 (by simp [hdep])
                    have e43 : ac.eval (.tmp 43) = .pointer (some ⟨o, 0, none⟩) := (hE 43 (by simp)).trans (by simp [evF, hdep, d9])
                    exact soft_value (.pointer (some ⟨o, 1, none⟩)) (by unfold execOp; simp only [e43]; kernel_rfl) rfl
                  · have d10 : vs 10 = .pointer (some ⟨o, 1, none⟩) := hR 10 (by simp [hdep])
                    have e44 : ac.eval (.tmp 44) = .pointer (some ⟨o, 1, none⟩) := (hE 44 (by simp)).trans (by simp [evF, hdep, d10])
                    have d5 : vs 5 = .string p.bank := hR 5 (by simp [hdep])
                    have e40 : ac.eval (.tmp 40) = .string p.bank := (hE 40 (by simp)).trans (by simp [evF, hdep, d5])
                    obtain ⟨hx1, hx2⟩ := hX
                    have d8t : done 8 = true := by simp [hdep]
                    have n8 : upDn done 11 8 = done 8 := up_ne done (by decide)
                    have hcc := hx1.cell 1
                    simp only [List.getElem?_toArray, List.getElem?_cons_zero, List.getElem?_cons_succ] at hcc
                    refine wp_store_val 9 (.tmp 44) (.tmp 40) rfl o 1 (.string p.bank) _ e44 e40 hcc (hx1.frozen 1) (by kernel_rfl) rfl rfl ⟨_, rfl, (Fr.refl (fun k => k = o) W1).setCell (.inl rfl) _, ?_, trivial⟩
                    refine ⟨?_, ?_⟩
                    · have q := hx1.set_ 1 (.string p.bank)
                      try dsimp only
                      rw [up_same, n8]
                      simpa using q
                    · intro _; rw [n8]; exact d8t
                · intro done vs W hall hB9 hR hX
                  rw [hall 8 (by simp), hall 11 (by simp)] at hX
                  simp only [if_true] at hX
                  have hx1 := Lib.hid hX.1
                  have HB3 : Hid (Below w.heap.size w W) := Lib.hid (hB9.bel HB2.out (fun k hk => by rw [hk]; exact HOZ.out) HB2.out.size)
                  have HK3 := Lib.hid (HK2.out.fr hB9 NKO.out)
                  have HM3 := Lib.hid (HM2.out.fr hB9 NMO.out)
                  clear hX hB9 hall hR
                  simp only [fillA, Act.put, List.setIfInBounds_toArray, List.set_cons_zero, List.set_cons_succ, if_true]
                  go_wp2_with fail
                  go_meet
                  exact ⟨HB3, HK3, HM3, by rw [hend.out]; exact hx1⟩
              · have q2 : (p.kind == 3) = false := by simpa using e3
                have q3 : (p.kind == 4) = true := by simp; omega
                clear e3
                clear e1 e2
                go_upto_region 7 with (fail)
                try simp only [Act.put, List.setIfInBounds_toArray, List.set_cons_zero, List.set_cons_succ]
                refine wp_region_softX [Is (.pointer (some ⟨o, 0, none⟩)), Is (.pointer (some ⟨o, 0, none⟩)), Is (.pointer (some ⟨gp, 2, none⟩)), Is (.int .i64 p.kind), Is (.pointer (some ⟨gp, 1, none⟩)), Is (.string p.bank), Is (.pointer (some ⟨o, 0, none⟩)), Is (.pointer (some ⟨o, 2, none⟩)), AnyV, Is (.pointer (some ⟨o, 0, none⟩)), Is (.pointer (some ⟨o, 1, none⟩)), AnyV] ⟨stab_is _, stab_is _, stab_is _, stab_is _, stab_is _, stab_is _, stab_is _, stab_is _, stab_anyv, stab_is _, stab_is _, stab_anyv, trivial⟩ (fun k => k = o) ⟨stabf_is _ _, stabf_is _ _, stabf_is _ _, stabf_is _ _, stabf_is _ _, stabf_is _ _, stabf_is _ _, stabf_is _ _, stabf_anyv _, stabf_is _ _, stabf_is _ _, stabf_anyv _, trivial⟩ [false, false, false, false, false, false, false, false, true, false, false, true] (fun done vs W => Blk W o 76 #[.string nm, .string (if done 11 = true then p.bank else ⟨#[]⟩), .int .i64 (if done 8 = true then p.kind else (-1)), .map (some mb)] ∧ (done 11 = true → done 8 = true)) ?_ ?_ (by kernel_rfl) (by kernel_rfl) ?_ ?_
                · intro q_ hq_ done vs v_ W W' h hnd hb
                  have n8 : upDn done q_ 8 = done 8 := up_ne done (fun e => by subst e; exact absurd hq_ (by decide))
                  have n11 : upDn done q_ 11 = done 11 := up_ne done (fun e => by subst e; exact absurd hq_ (by decide))
                  rw [n8, n11]
                  exact ⟨h.1.below hb h.1.lt, h.2⟩
                · exact ⟨HO2.out, fun h => (by cases h)⟩
                · refine ⟨?_, ?_, ?_, ?_, ?_, ?_, ?_, ?_, ?_, ?_, ?_, ?_, trivial⟩
                  all_goals intro done vs ac W1 hdep hnd hB hR hX hE
                  all_goals try simp only [Nat.zero_add, Nat.reduceAdd] at hnd ⊢
                  all_goals have ec : ∀ v : Value, ac.eval (.const v) = v := fun _ => rfl
                  all_goals try simp [Region.binds] at hdep
                  · have e5 : ac.eval (.tmp 5) = .pointer (some ⟨o, 0, none⟩) := (hE 5 (by simp)).trans (by simp [evF, Act.eval])
                    exact soft_value (.pointer (some ⟨o, 0, none⟩)) (by unfold execOp; simp only [e5, ec]; rfl) rfl
                  · have e5 : ac.eval (.tmp 5) = .pointer (some ⟨o, 0, none⟩) := (hE 5 (by simp)).trans (by simp [evF, Act.eval])
                    exact soft_value (.pointer (some ⟨o, 0, none⟩)) (by unfold execOp; simp only [e5, ec]; rfl) rfl
                  · have e7 : ac.eval (.tmp 7) = .pointer (some ⟨gp, 0, none⟩) := (hE 7 (by simp)).trans (by simp [evF, Act.eval])
                    exact soft_value (.pointer (some ⟨gp, 2, none⟩)) (by unfold execOp; simp only [e7]; kernel_rfl) rfl
                  · have d2 : vs 2 = .pointer (some ⟨gp, 2, none⟩) := hR 2 (by simp [hdep])
                    have e37 : ac.eval (.tmp 37) = .pointer (some ⟨gp, 2, none⟩) := (hE 37 (by simp)).trans (by simp [evF, hdep, d2])
                    have hc2 : W1.cell? ⟨gp, 2, none⟩ = some (.int .i64 p.kind) := (HP2.out.fr hB NPO.out).cell 2
                    exact soft_value (.int .i64 p.kind) (by unfold execOp; simp only [e37]; go_simp) rfl
                  · have e7 : ac.eval (.tmp 7) = .pointer (some ⟨gp, 0, none⟩) := (hE 7 (by simp)).trans (by simp [evF, Act.eval])
                    exact soft_value (.pointer (some ⟨gp, 1, none⟩)) (by unfold execOp; simp only [e7]; kernel_rfl) rfl
                  · have d4 : vs 4 = .pointer (some ⟨gp, 1, none⟩) := hR 4 (by simp [hdep])
                    have e39 : ac.eval (.tmp 39) = .pointer (some ⟨gp, 1, none⟩) := (hE 39 (by simp)).trans (by simp [evF, hdep, d4])
                    have hc1 : W1.cell? ⟨gp, 1, none⟩ = some (.string p.bank) := (HP2.out.fr hB NPO.out).cell 1
                    exact soft_value (.string p.bank) (by unfold execOp; simp only [e39]; go_simp) rfl
                  · have d0 : vs 0 = .pointer (some ⟨o, 0, none⟩) := hR 0 (by simp [hdep])
                    have e35 : ac.eval (.tmp 35) = .pointer (some ⟨o, 0, none⟩) := (hE 35 (by simp)).trans (by simp [evF, hdep, d0])
                    exact soft_value (.pointer (some ⟨o, 0, none⟩)) (by unfold execOp; simp only [e35]; go_simp) rfl
                  · have d6 : vs 6 = .pointer (some ⟨o, 0, none⟩) := hR 6 (by simp [hdep])
                    have e41 : ac.eval (.tmp 41) = .pointer (some ⟨o, 0, none⟩) := (hE 41 (by simp)).trans (by simp [evF, hdep, d6])
                    exact soft_value (.pointer (some ⟨o, 2, none⟩)) (by unfold execOp; simp only [e41]; kernel_rfl) rfl
                  · have d7 : vs 7 = .pointer (some ⟨o, 2, none⟩) := hR 7 (by simp [hdep])
                    have e42 : ac.eval (.tmp 42) = .pointer (some ⟨o, 2, none⟩) := (hE 42 (by simp)).trans (by simp [evF, hdep, d7])
                    have d3 : vs 3 = .int .i64 p.kind := hR 3 (by simp [hdep])
                    have e38 : ac.eval (.tmp 38) = .int .i64 p.kind := (hE 38 (by simp)).trans (by simp [evF, hdep, d3])
                    obtain ⟨hx1, hx2⟩ := hX
                    have d11 : done 11 = false := not_of hx2 hnd
                    have n11 : upDn done 8 11 = done 11 := up_ne done (by decide)
                    have hcc := hx1.cell 2
                    simp only [List.getElem?_toArray, List.getElem?_cons_zero, List.getElem?_cons_succ] at hcc
                    refine wp_store_val 3 (.tmp 42) (.tmp 38) rfl o 2 (.int .i64 p.kind) _ e42 e38 hcc (hx1.frozen 2) (by kernel_rfl) rfl rfl ⟨_, rfl, (Fr.refl (fun k => k = o) W1).setCell (.inl rfl) _, ?_, trivial⟩
                    refine ⟨?_, ?_⟩
                    · have q := hx1.set_ 2 (.int .i64 p.kind)
                      try dsimp only
                      rw [up_same, n11]
                      simpa using q
                    · intro h; rw [n11, d11] at h; cases h
                  · have d1 : vs 1 = .pointer (some ⟨o, 0, none⟩) := hR 1 (by simp [hdep])
                    have e36 : ac.eval (.tmp 36) = .pointer (some ⟨o, 0, none⟩) := (hE 36 (by simp)).trans (by simp [evF, hdep, d1])
                    exact soft_value (.pointer (some ⟨o, 0, none⟩)) (by unfold execOp; simp only [e36]; go_simp) rfl
                  · have d9 : vs 9 = .pointer (some ⟨o, 0, none⟩) := hR 9 (by simp [hdep])
                    have e43 : ac.eval (.tmp 43) = .pointer (some ⟨o, 0, none⟩) := (hE 43 (by simp)).trans (by simp [evF, hdep, d9])
                    exact soft_value (.pointer (some ⟨o, 1, none⟩)) (by unfold execOp; simp only [e43]; kernel_rfl) rfl
                  · have d10 : vs 10 = .pointer (some ⟨o, 1, none⟩) := hR 10 (by simp [hdep])
                    have e44 : ac.eval (.tmp 44) = .pointer (some ⟨o, 1, none⟩) := (hE 44 (by simp)).trans (by simp [evF, hdep, d10])
                    have d5 : vs 5 = .string p.bank := hR 5 (by simp [hdep])
                    have e40 : ac.eval (.tmp 40) = .string p.bank := (hE 40 (by simp)).trans (by simp [evF, hdep, d5])
                    obtain ⟨hx1, hx2⟩ := hX
                    have d8t : done 8 = true := by simp [hdep]
                    have n8 : upDn done 11 8 = done 8 := up_ne done (by decide)
                    have hcc := hx1.cell 1
                    simp only [List.getElem?_toArray, List.getElem?_cons_zero, List.getElem?_cons_succ] at hcc
                    refine wp_store_val 9 (.tmp 44) (.tmp 40) rfl o 1 (.string p.bank) _ e44 e40 hcc (hx1.frozen 1) (by kernel_rfl) rfl rfl ⟨_, rfl, (Fr.refl (fun k => k = o) W1).setCell (.inl rfl) _, ?_, trivial⟩
                    refine ⟨?_, ?_⟩
                    · have q := hx1.set_ 1 (.string p.bank)
                      try dsimp only
                      rw [up_same, n8]
                      simpa using q
                    · intro _; rw [n8]; exact d8t
                · intro done vs W hall hB9 hR hX
                  rw [hall 8 (by simp), hall 11 (by simp)] at hX
                  simp only [if_true] at hX
                  have hx1 := Lib.hid hX.1
                  have HB3 : Hid (Below w.heap.size w W) := Lib.hid (hB9.bel HB2.out (fun k hk => by rw [hk]; exact HOZ.out) HB2.out.size)
                  have HK3 := Lib.hid (HK2.out.fr hB9 NKO.out)
                  have HM3 := Lib.hid (HM2.out.fr hB9 NMO.out)
                  clear hX hB9 hall hR
                  simp only [fillA, Act.put, List.setIfInBounds_toArray, List.set_cons_zero, List.set_cons_succ, if_true]
                  go_wp2_with fail
                  go_meet
                  exact ⟨HB3, HK3, HM3, by rw [hend.out]; exact hx1⟩
            · have hend : Hid (whoV nm ps = (-1, ⟨#[]⟩)) := Lib.hid (by rw [hwho.out, HW.out, if_pos e1, if_neg e2])
              have q2 : (p.kind == 3) = false := by simp; omega
              have q3 : (p.kind == 4) = false := by simp; omega
              clear e1 e2
              go_wp2_with fail
              go_meet
              exact ⟨HB2, HK2, HM2, by rw [hend.out]; exact HO2⟩
          · have q1 : (p.nm.toList == nm.toList) = false := by rw [eq_str]; exact decide_eq_false e1
            have HNX2 := Lib.hid (HNX.out _ rfl e1)
            clear e1
            go_wp2_with fail
            go_roundw
            case rel => exact ⟨k + 1, by omega, by go_num, HNX2, HB2, HK2, HM2, HO2⟩
            case measure => simp [intOf]; omega
        · have hkn : pn = k := by omega
          have hend : Hid (whoV nm ps = (-1, ⟨#[]⟩)) := Lib.hid (by rw [hwho.out, List.drop_eq_nil_of_le (by omega)]; rfl)
          have i0 : ¬ (k : Int) < (pn : Int) := by omega
          clear hkn
          go_wp2_with fail
          go_meet
          exact ⟨hB, hK, hM, by rw [hend.out]; exact hO⟩
    case rest =>
      obtain ⟨HB2, HK2, HM2, HO2⟩ := hcut
      have HZO := Lib.hid HB2
      obtain ⟨bank, hbank⟩ : ∃ b, (whoV nm ps).2 = b := ⟨_, rfl⟩
      obtain ⟨kind, hkind⟩ : ∃ b, (whoV nm ps).1 = b := ⟨_, rfl⟩
      rw [hbank, hkind] at HO2
      have HWH : Hid ((whoV nm ps).2 = bank ∧ (whoV nm ps).1 = kind) := Lib.hid ⟨hbank, hkind⟩
      clear hbank hkind HZO
      have hmk2 := smake wc
      have s1 := HK2.out.cell 1
      simp only [List.getElem?_toArray, List.getElem?_cons_zero, List.getElem?_cons_succ] at s1
      have HB3 := Lib.hid (HB2.out.alloc HB2.out.size (.map #[] 0))
      have HK3 := Lib.hid (HK2.out.alloc (.map #[] 0))
      have HM3 := Lib.hid (HM2.out.alloc (.map #[] 0))
      have HO3 := Lib.hid (HO2.out.alloc (.map #[] 0))
      have HS3 := Lib.hid (TMap.made wc .string (fun s : ByteArray => .string s) (fun b : Bool => .bool b))
      have HL3 : Hid (o < wc.heap.size ∧ mb < wc.heap.size ∧ w.heap.size ≤ wc.heap.size) := Lib.hid ⟨HO2.out.lt, HM2.out.lt, HB2.out.size⟩
      go_upto_region 10 with (fail)
      obtain ⟨w3, hw3⟩ : ∃ W, wc.alloc (.map #[] 0) = W := ⟨_, rfl⟩
      obtain ⟨sb, hsb⟩ : ∃ g, wc.heap.size = g := ⟨_, rfl⟩
      have hz3 : w3.heap.size = wc.heap.size + 1 := by rw [← hw3]; exact size_alloc _ _
      rw [hw3] at HB3 HK3 HM3 HO3 HS3 ⊢
      rw [hsb] at HS3 HL3 hz3
      simp only [hsb]
      have HZ3 := Lib.hid hz3
      clear hw3 hsb hz3 hmk2 s1 HB2 HK2 HM2 HO2
      have s1 := HK3.out.cell 1
      simp only [List.getElem?_toArray, List.getElem?_cons_zero, List.getElem?_cons_succ] at s1
      have HI3 : Hid (NewI w nm bank kind o mb sb xs w3.heap.size 0 0 w3) := Lib.hid ⟨HB3.out, ⟨0, _, ⟨HO3.out, HM3.out, fun q _ => rfl, fun q p hp => (by cases hp), fun q q' p hp => (by cases hp), fun _ => ⟨by decide, by decide⟩, ⟨HOZ.out, HO3.out.lt⟩, ⟨HZB.out, HM3.out.lt⟩, fun q p hp => (by cases hp)⟩⟩, ⟨0, HS3.out⟩, Nat.le_refl _, HL3.out.2.2, HS3.out.lt, by have := HL3.out.2.1; omega⟩
      clear HK3 HM3 HO3 HS3
      go_wp2_with fail
      go_loopw [50] (fun i wr => ∃ (k hi : Nat), k ≤ dn ∧ i = .int .i64 k ∧ Hid (NewI w nm bank kind o mb sb xs hi k k wr)) (fun i _ => dn - (intOf i).toNat)
      case atStart => exact ⟨0, _, by omega, rfl, HI3⟩
      case round =>
        obtain ⟨k, hi, hk, rfl, HI⟩ := hrel
        have hlen := HS.out.d.len
        have hdn : dn ≤ 16 := HS.out.dn
        dsimp only at hlen
        by_cases hlt : k < dn
        · obtain ⟨b, off, x, hdA, hxk, hc⟩ := el_at (HS.out.d.below HI.out.bel) hlt
          dsimp only at hdA
          subst hdA
          have HX := Lib.hid hxk
          have HOK := Lib.hid (HS.out.ok x (List.mem_of_getElem? hxk))
          have HBX := Lib.hid (HS.out.bx x (List.mem_of_getElem? hxk))
          have HC := Lib.hid hc
          have i0 : (k : Int) < (dn : Int) := by omega
          have HG10 : Hid (Blk (wr.alloc (.cells #[.string x.d.num, .string x.d.sel, .string x.d.buy, .string x.d.car, .string x.d.iss, .string x.d.hou, .string x.d.ins, .string x.d.fr, .string x.d.dst, .string x.d.cur, .int .i64 x.d.amt, .slice x.A x.n x.c, .int .i64 x.d.term, .int .i64 x.d.lat, .int .i64 x.d.exp, .int .i64 x.d.ten, .int .i64 x.d.dut] 53)) wr.heap.size 53 #[.string x.d.num, .string x.d.sel, .string x.d.buy, .string x.d.car, .string x.d.iss, .string x.d.hou, .string x.d.ins, .string x.d.fr, .string x.d.dst, .string x.d.cur, .int .i64 x.d.amt, .slice x.A x.n x.c, .int .i64 x.d.term, .int .i64 x.d.lat, .int .i64 x.d.exp, .int .i64 x.d.ten, .int .i64 x.d.dut]) := Lib.hid (Blk.new _ _ _)
          have HI1 := Lib.hid (HI.out.below (one_alloc wr (.cells #[.string x.d.num, .string x.d.sel, .string x.d.buy, .string x.d.car, .string x.d.iss, .string x.d.hou, .string x.d.ins, .string x.d.fr, .string x.d.dst, .string x.d.cur, .int .i64 x.d.amt, .slice x.A x.n x.c, .int .i64 x.d.term, .int .i64 x.d.lat, .int .i64 x.d.exp, .int .i64 x.d.ten, .int .i64 x.d.dut] 53)))
          have HHI : Hid (hi ≤ wr.heap.size) := Lib.hid HI.out.hhi
          clear hxk hc
          go_upto_region 13 with (first | ((refine stop_store 53 _ _ rfl ?_; refine wpList_store_new rfl 53 _ _ rfl _ rfl rfl (by kernel_rfl) rfl rfl ?_)) | (refine stop_load 53 _ rfl ?_; refine wpList_load_at rfl 53 _ rfl b (off + k * 17) rfl (dlC x.d (.slice x.A x.n x.c)) _ HC.out Tryz.underlying53 rfl (by kernel_rfl) ?_))
          obtain ⟨w4, hw4⟩ : ∃ W, wr.alloc (.cells #[.string x.d.num, .string x.d.sel, .string x.d.buy, .string x.d.car, .string x.d.iss, .string x.d.hou, .string x.d.ins, .string x.d.fr, .string x.d.dst, .string x.d.cur, .int .i64 x.d.amt, .slice x.A x.n x.c, .int .i64 x.d.term, .int .i64 x.d.lat, .int .i64 x.d.exp, .int .i64 x.d.ten, .int .i64 x.d.dut] 53) = W := ⟨_, rfl⟩
          obtain ⟨g, hg⟩ : ∃ g, wr.heap.size = g := ⟨_, rfl⟩
          rw [hw4] at HG10 HI1
          change Code.wp _ _ _ _ (wr.alloc (.cells #[.string x.d.num, .string x.d.sel, .string x.d.buy, .string x.d.car, .string x.d.iss, .string x.d.hou, .string x.d.ins, .string x.d.fr, .string x.d.dst, .string x.d.cur, .int .i64 x.d.amt, .slice x.A x.n x.c, .int .i64 x.d.term, .int .i64 x.d.lat, .int .i64 x.d.exp, .int .i64 x.d.ten, .int .i64 x.d.dut] 53))
          rw [hw4]
          rw [hg] at HG10 HHI
          simp only [hg]
          clear hw4 hg
          have d0 := HG10.out.cell 0
          simp only [List.getElem?_toArray, List.getElem?_cons_zero] at d0
          cases hsn : seenB (xs.take k) x.d.num
          · obtain ⟨ns, hsm⟩ := HI1.out.seen
            have hlk := hsm.look keyStr (P := Tryz.prog) (mty := 88) Tryz.underlying88 Tryz.underlying9 _ zero_b x.d.num false
            unfold seenF at hlk
            rw [hsn] at hlk
            simp only [Bool.false_eq_true, if_false, Option.map_none, Option.getD_none] at hlk
            obtain ⟨w5, hup, hI5, hz5, hg5⟩ := HI1.out.mark HX.out
            have HI5 := Lib.hid hI5
            have HG5 : Hid (Blk w5 g 53 #[.string x.d.num, .string x.d.sel, .string x.d.buy, .string x.d.car, .string x.d.iss, .string x.d.hou, .string x.d.ins, .string x.d.fr, .string x.d.dst, .string x.d.cur, .int .i64 x.d.amt, .slice x.A x.n x.c, .int .i64 x.d.term, .int .i64 x.d.lat, .int .i64 x.d.exp, .int .i64 x.d.ten, .int .i64 x.d.dut]) := Lib.hid (HG10.out.grown hg5 (fun e => by injection e with e; exact hsm.ne_blk HG10.out e.symm))
            have HSN := Lib.hid hsn
            clear hsn hsm hI5 hz5 hg5
            go_upto_region 15 with (fail)
            clear hlk hup d0
            obtain ⟨n0, m0, ho5⟩ := HI5.out.off
            have c2 := ho5.blk.cell 2; have d5 := HG5.out.cell 5; have d6 := HG5.out.cell 6
            simp only [List.getElem?_toArray, List.getElem?_cons_zero, List.getElem?_cons_succ] at c2 d5 d6
            clear ho5
            go_cut [84, 118] from 51 (fun v z wx => v = .bool (mineB nm kind x.d) ∧ z = u118 ∧ w5 = wx)
            case first =>
              have HMI : Hid (mineB nm kind x.d = ((kind == 3) && (x.d.hou.toList == nm.toList) || (kind == 4) && (x.d.ins.toList == nm.toList))) := Lib.hid (by unfold mineB; rw [eq_str, eq_str]; rfl)
              cases q3 : (kind == 3) <;> cases qh : (x.d.hou.toList == nm.toList) <;> cases q4 : (kind == 4) <;> cases qi : (x.d.ins.toList == nm.toList)
              all_goals
                go_wp2_with fail
                go_meet
                exact ⟨by rw [HMI.out, q3, qh, q4, qi]; rfl, rfl, rfl⟩
            case rest =>
              obtain ⟨rfl, rfl, rfl⟩ := hcut
              cases hmi : mineB nm kind x.d
              · have HN := Lib.hid (HI5.out.not_mine HX.out HSN.out hmi)
                clear c2 d5 d6 hmi
                go_wp2_with fail
                go_roundw
                case rel => exact ⟨k + 1, hi, by omega, by go_num, HN⟩
                case measure => simp [intOf]; omega
              · have HMI := Lib.hid hmi
                clear c2 d5 d6 hmi
                obtain ⟨hby, bs, hbs, hlo⟩ := HBX.out
                have HBY := Lib.hid hby
                have HLO := Lib.hid hlo
                have HBL := Lib.hid hbs.len
                have HIW : Hid (hi ≤ w5.heap.size ∧ g < w5.heap.size) := Lib.hid ⟨HI5.out.hhi, HG5.out.lt⟩
                have HCL := Lib.hid (clone_bxs x.A x.n x.c bs w5 (hbs.below HI5.out.bel) hby)
                have d11 := HG5.out.cell 11
                simp only [List.getElem?_toArray, List.getElem?_cons_zero, List.getElem?_cons_succ] at d11
                clear hby hbs hlo
                go_wp2_with fail
                refine HCL.out.mono ?_
                rintro e w6 ⟨v, rfl, hown, hb6⟩
                obtain ⟨A6, c6, rfl⟩ := own_sl6 hown
                have HI6 := Lib.hid (HI5.out.below hb6)
                have hG6 := HG5.out.below hb6 HG5.out.lt
                have HR6 := Lib.hid (BxR.of_own hown HIW.out.1 HIW.out.2 HBL.out)
                clear hown hb6 d11
                have d11 := hG6.cell 11; have f11 := hG6.frozen 11
                simp only [List.getElem?_toArray, List.getElem?_cons_zero, List.getElem?_cons_succ] at d11
                have HI7 := Lib.hid (HI6.out.fr (S := fun q => q = g) ((Fr.refl (fun q => q = g) w6).setCell (p := ⟨g, 11, none⟩) (.inl rfl) (.slice A6 x.n c6)) (fun q hq => by rw [hq]; exact HHI.out))
                have HG7 : Hid (Blk (w6.setCell ⟨g, 11, none⟩ (.slice A6 x.n c6)) g 53 #[.string x.d.num, .string x.d.sel, .string x.d.buy, .string x.d.car, .string x.d.iss, .string x.d.hou, .string x.d.ins, .string x.d.fr, .string x.d.dst, .string x.d.cur, .int .i64 x.d.amt, .slice A6 x.n c6, .int .i64 x.d.term, .int .i64 x.d.lat, .int .i64 x.d.exp, .int .i64 x.d.ten, .int .i64 x.d.dut]) := Lib.hid (by have q := hG6.set_ 11 (.slice A6 x.n c6); simpa using q)
                have HR7 := Lib.hid (HR6.out.far 11 (.slice A6 x.n c6))
                clear hG6
                go_upto_region 17 with (fail)
                obtain ⟨w7, hw7⟩ : ∃ W, w6.setCell ⟨g, 11, none⟩ (.slice A6 x.n c6) = W := ⟨_, rfl⟩
                rw [hw7] at HI7 HG7 HR7 ⊢
                clear hw7 d11 f11 HI6 HR6 HI5 HG5
                have d11 := HG7.out.cell 11
                simp only [List.getElem?_toArray, List.getElem?_cons_zero, List.getElem?_cons_succ] at d11
                go_wp2_with fail
                clear d11
                go_loopw [92] (fun i wr => ∃ j : Nat, j ≤ x.n ∧ i = .int .i64 j ∧ Hid (NewI w nm bank kind o mb sb xs hi k (k + 1) wr) ∧ Hid (Blk wr g 53 #[.string x.d.num, .string x.d.sel, .string x.d.buy, .string x.d.car, .string x.d.iss, .string x.d.hou, .string x.d.ins, .string x.d.fr, .string x.d.dst, .string x.d.cur, .int .i64 x.d.amt, .slice A6 x.n c6, .int .i64 x.d.term, .int .i64 x.d.lat, .int .i64 x.d.exp, .int .i64 x.d.ten, .int .i64 x.d.dut]) ∧ Hid (BxR wr hi g A6 x.n bs j)) (fun i _ => x.n - (intOf i).toNat)
                case atStart => exact ⟨0, by omega, rfl, HI7, HG7, HR7⟩
                case round =>
                  obtain ⟨j, hj, rfl, HI8, HG8, HR8⟩ := hrel
                  have d11 := HG8.out.cell 11
                  simp only [List.getElem?_toArray, List.getElem?_cons_zero, List.getElem?_cons_succ] at d11
                  by_cases hlj : j < x.n
                  · obtain ⟨gb, cur, hA6, hgb1, hgb2, hgb3, hgb4⟩ := HR8.out (by omega)
                    subst hA6
                    obtain ⟨bb, hbb⟩ : ∃ bb, bs[j]? = some bb := ⟨_, List.getElem?_eq_getElem (by have := HBL.out; omega)⟩
                    have HCUR : Hid (cur[j * 3 + 2]? = some (.slice bb.A bb.n bb.c)) := Lib.hid (hgb4 j bb (Nat.le_refl _) hbb)
                    obtain ⟨hlb, ls, hls⟩ := HLO.out bb (List.mem_of_getElem? hbb)
                    have HLB := Lib.hid hlb
                    have HLS := Lib.hid (hls.below HI8.out.bel)
                    have HGB := Lib.hid hgb3
                    have HB1 := Lib.hid hgb1; have HB2 := Lib.hid hgb2; have HB4 := Lib.hid hgb4
                    have HLJ := Lib.hid hlj
                    clear hgb1 hgb2 hgb3 hgb4 hbb hlb hls d11
                    have i1 : (j : Int) < (x.n : Int) := by have := HLJ.out; omega
                    go_upto_region 20 with (fail)
                    try simp only [Act.put, List.setIfInBounds_toArray, List.set_cons_zero, List.set_cons_succ]
                    refine wp_region_soft_last [Is (.pointer (some ⟨g, 11, none⟩)), Is (.slice (some ⟨gb, 0, none⟩) x.n c6), Is (.int .i64 (j : Int)), Is (.pointer (some ⟨g, 11, none⟩)), Is (.slice (some ⟨gb, 0, none⟩) x.n c6), Is (.int .i64 (j : Int)), Is (.pointer (some ⟨gb, j * 3, none⟩)), Is (.pointer (some ⟨gb, j * 3 + 2, none⟩)), Is (.slice bb.A bb.n bb.c), Sl bb.n, Is (.pointer (some ⟨gb, j * 3, none⟩)), Is (.pointer (some ⟨gb, j * 3 + 2, none⟩))] ⟨stab_is _, stab_is _, stab_is _, stab_is _, stab_is _, stab_is _, stab_is _, stab_is _, stab_is _, stab_sl _, stab_is _, stab_is _, trivial⟩ (by kernel_rfl) (by kernel_rfl) (by kernel_rfl) (by simp) ?_
                    refine ⟨?_, ?_, ?_, ?_, ?_, ?_, ?_, ?_, ?_, ?_, ?_, ?_, ?_⟩
                    all_goals intro done vs ac W1 hdep hB hR hE
                    all_goals have ec : ∀ v : Value, ac.eval (.const v) = v := fun _ => rfl
                    all_goals try simp [Region.binds] at hdep
                    · have e10 : ac.eval (.tmp 10) = .pointer (some ⟨g, 0, none⟩) := (hE 10 (by simp)).trans (by simp [evF, Act.eval])
                      exact soft_value (.pointer (some ⟨g, 11, none⟩)) (by unfold execOp; simp only [e10]; kernel_rfl) rfl
                    · have d0 : vs 0 = .pointer (some ⟨g, 11, none⟩) := hR 0 (by simp [hdep])
                      have e95 : ac.eval (.tmp 95) = .pointer (some ⟨g, 11, none⟩) := (hE 95 (by simp)).trans (by simp [evF, hdep, d0])
                      have hc11 : W1.cell? ⟨g, 11, none⟩ = some (.slice (some ⟨gb, 0, none⟩) x.n c6) := (HG8.out.below hB HG8.out.lt).cell 11
                      exact soft_value (.slice (some ⟨gb, 0, none⟩) x.n c6) (by unfold execOp; simp only [e95]; go_simp) rfl
                    · have e11 : ac.eval (.tmp 11) = .int .i64 (j : Int) := (hE 11 (by simp)).trans (by simp [evF, Act.eval])
                      exact soft_value (.int .i64 (j : Int)) (by unfold execOp; simp only [e11, ec]; rfl) rfl
                    · have e10 : ac.eval (.tmp 10) = .pointer (some ⟨g, 0, none⟩) := (hE 10 (by simp)).trans (by simp [evF, Act.eval])
                      exact soft_value (.pointer (some ⟨g, 11, none⟩)) (by unfold execOp; simp only [e10]; kernel_rfl) rfl
                    · have d3 : vs 3 = .pointer (some ⟨g, 11, none⟩) := hR 3 (by simp [hdep])
                      have e98 : ac.eval (.tmp 98) = .pointer (some ⟨g, 11, none⟩) := (hE 98 (by simp)).trans (by simp [evF, hdep, d3])
                      have hc11 : W1.cell? ⟨g, 11, none⟩ = some (.slice (some ⟨gb, 0, none⟩) x.n c6) := (HG8.out.below hB HG8.out.lt).cell 11
                      exact soft_value (.slice (some ⟨gb, 0, none⟩) x.n c6) (by unfold execOp; simp only [e98]; go_simp) rfl
                    · have e11 : ac.eval (.tmp 11) = .int .i64 (j : Int) := (hE 11 (by simp)).trans (by simp [evF, Act.eval])
                      exact soft_value (.int .i64 (j : Int)) (by unfold execOp; simp only [e11, ec]; rfl) rfl
                    · have d4 : vs 4 = .slice (some ⟨gb, 0, none⟩) x.n c6 := hR 4 (by simp [hdep])
                      have e99 : ac.eval (.tmp 99) = .slice (some ⟨gb, 0, none⟩) x.n c6 := (hE 99 (by simp)).trans (by simp [evF, hdep, d4])
                      have d5 : vs 5 = .int .i64 (j : Int) := hR 5 (by simp [hdep])
                      have e100 : ac.eval (.tmp 100) = .int .i64 (j : Int) := (hE 100 (by simp)).trans (by simp [evF, hdep, d5])
                      exact soft_value (.pointer (some ⟨gb, j * 3, none⟩)) (by simp [execOp, e99, e100, ixk 51 _ 3 Tryz.underlying51 (by kernel_rfl) gb 0 j x.n c6 HLJ.out, Result.andThen]) rfl
                    · have d6 : vs 6 = .pointer (some ⟨gb, j * 3, none⟩) := hR 6 (by simp [hdep])
                      have e101 : ac.eval (.tmp 101) = .pointer (some ⟨gb, j * 3, none⟩) := (hE 101 (by simp)).trans (by simp [evF, hdep, d6])
                      exact soft_value (.pointer (some ⟨gb, j * 3 + 2, none⟩)) (by unfold execOp; simp only [e101]; kernel_rfl) rfl
                    · have d7 : vs 7 = .pointer (some ⟨gb, j * 3 + 2, none⟩) := hR 7 (by simp [hdep])
                      have e102 : ac.eval (.tmp 102) = .pointer (some ⟨gb, j * 3 + 2, none⟩) := (hE 102 (by simp)).trans (by simp [evF, hdep, d7])
                      have hcx := ((HGB.out.below hB HGB.out.lt).cell (j * 3 + 2)).trans HCUR.out
                      exact soft_value (.slice bb.A bb.n bb.c) (by unfold execOp; simp only [e102]; go_simp) rfl
                    · have d8 : vs 8 = .slice bb.A bb.n bb.c := hR 8 (by simp [hdep])
                      have e103 : ac.eval (.tmp 103) = .slice bb.A bb.n bb.c := (hE 103 (by simp)).trans (by simp [evF, hdep, d8])
                      refine soft_call 29 _ _ rfl (enters_fn Tryz.func29 (by kernel_rfl) rfl) #[.slice bb.A bb.n bb.c] (by simp [e103, ec]) ?_
                      refine (clone_los bb.A bb.n bb.c ls W1 (HLS.out.below hB) HLB.out).mono ?_
                      rintro e9 w9 ⟨v9, rfl, ho9, hb9⟩
                      exact ⟨_, rfl, hb9, own_sl6 ho9⟩
                    · have d1 : vs 1 = .slice (some ⟨gb, 0, none⟩) x.n c6 := hR 1 (by simp [hdep])
                      have e96 : ac.eval (.tmp 96) = .slice (some ⟨gb, 0, none⟩) x.n c6 := (hE 96 (by simp)).trans (by simp [evF, hdep, d1])
                      have d2 : vs 2 = .int .i64 (j : Int) := hR 2 (by simp [hdep])
                      have e97 : ac.eval (.tmp 97) = .int .i64 (j : Int) := (hE 97 (by simp)).trans (by simp [evF, hdep, d2])
                      exact soft_value (.pointer (some ⟨gb, j * 3, none⟩)) (by simp [execOp, e96, e97, ixk 51 _ 3 Tryz.underlying51 (by kernel_rfl) gb 0 j x.n c6 HLJ.out, Result.andThen]) rfl
                    · have d10 : vs 10 = .pointer (some ⟨gb, j * 3, none⟩) := hR 10 (by simp [hdep])
                      have e105 : ac.eval (.tmp 105) = .pointer (some ⟨gb, j * 3, none⟩) := (hE 105 (by simp)).trans (by simp [evF, hdep, d10])
                      exact soft_value (.pointer (some ⟨gb, j * 3 + 2, none⟩)) (by unfold execOp; simp only [e105]; kernel_rfl) rfl
                    · have hall := hdep
                      have d11 : vs 11 = .pointer (some ⟨gb, j * 3 + 2, none⟩) := hR 11 (by omega)
                      have e106 : ac.eval (.tmp 106) = .pointer (some ⟨gb, j * 3 + 2, none⟩) := (hE 106 (by simp)).trans (by simp [evF, hall 11 (by omega), d11])
                      obtain ⟨A9, c9, d9⟩ := (show (Sl bb.n) (vs 9) W1 from hR 9 (by omega))
                      have e104 : ac.eval (.tmp 104) = .slice A9 bb.n c9 := (hE 104 (by simp)).trans (by simp [evF, hall 9 (by omega), d9])
                      have hgx := HGB.out.below hB HGB.out.lt
                      have hcx : W1.cell? ⟨gb, j * 3 + 2, none⟩ = some (.slice bb.A bb.n bb.c) := (hgx.cell (j * 3 + 2)).trans HCUR.out
                      have hfx := hgx.frozen (j * 3 + 2)
                      have hsz : (Tryz.prog.info? 90).map (·.size) = some 1 := by kernel_rfl
                      refine wp_store_val 90 (.tmp 106) (.tmp 104) rfl gb (j * 3 + 2) (.slice A9 bb.n c9) _ e106 e104 hcx hfx hsz rfl rfl ⟨_, rfl, ?_⟩
                      clear hcx hfx hsz hgx
                      obtain ⟨v9, hv9⟩ : ∃ v, Value.slice A9 bb.n c9 = v := ⟨_, rfl⟩
                      rw [hv9]
                      have HI9 := Lib.hid ((HI8.out.below hB).set HB1.out (j * 3 + 2) v9)
                      have hgg := HG8.out.below hB HG8.out.lt
                      have HG9 := Lib.hid (blk_far hgg HB2.out (j * 3 + 2) v9)
                      clear hgg
                      have hgx := HGB.out.below hB HGB.out.lt
                      have HR9 : Hid (BxR (W1.setCell ⟨gb, j * 3 + 2, none⟩ v9) hi g (some ⟨gb, 0, none⟩) x.n bs (j + 1)) := Lib.hid (BxR.step (W := W1) (hi := hi) (g := g) (gb := gb) (n := x.n) (j := j) (cur := cur) (bs := bs) (v := v9) HB1.out HB2.out hgx HB4.out)
                      clear hgx
                      obtain ⟨w9, hw9⟩ : ∃ W, W1.setCell ⟨gb, j * 3 + 2, none⟩ v9 = W := ⟨_, rfl⟩
                      rw [hw9] at HI9 HG9 HR9 ⊢
                      clear hw9 hB hR hE hdep e106 e104 HI8 HG8 HR8 HGB HCUR HLS
                      have i2 := HLJ.out
                      have i3 : (x.n : Int) ≤ 140737488355328 := by have := HBY.out; omega
                      simp only [fillA, Act.put, List.setIfInBounds_toArray, List.set_cons_zero, List.set_cons_succ, if_true]
                      go_wp2_with fail
                      go_roundw
                      case rel => exact ⟨j + 1, by omega, by go_num, HI9, HG9, HR9⟩
                      case measure => simp [intOf]; omega
                  · have i1 : ¬ (j : Int) < (x.n : Int) := by omega
                    obtain ⟨n0, m0, ho8⟩ := HI8.out.off
                    have HOF := Lib.hid ho8.blk
                    have HHX : Hid (hi ≤ wr.heap.size) := Lib.hid HI8.out.hhi
                    clear ho8 d11
                    go_upto_region 22 with (fail)
                    try simp only [Act.put, List.setIfInBounds_toArray, List.set_cons_zero, List.set_cons_succ]
                    refine wp_region_soft_last [Is (.pointer (some ⟨o, 0, none⟩)), Is (.pointer (some ⟨o, 0, none⟩)), Is (.pointer (some ⟨o, 3, none⟩)), Is (.map (some mb)), Is (.pointer (some ⟨g, 0, none⟩)), Is (.string x.d.num), Is (.agg #[.string x.d.num, .string x.d.sel, .string x.d.buy, .string x.d.car, .string x.d.iss, .string x.d.hou, .string x.d.ins, .string x.d.fr, .string x.d.dst, .string x.d.cur, .int .i64 x.d.amt, .slice A6 x.n c6, .int .i64 x.d.term, .int .i64 x.d.lat, .int .i64 x.d.exp, .int .i64 x.d.ten, .int .i64 x.d.dut]), Is (.agg #[.string x.d.num, .string x.d.sel, .string x.d.buy, .string x.d.car, .string x.d.iss, .string x.d.hou, .string x.d.ins, .string x.d.fr, .string x.d.dst, .string x.d.cur, .int .i64 x.d.amt, .slice A6 x.n c6, .int .i64 x.d.term, .int .i64 x.d.lat, .int .i64 x.d.exp, .int .i64 x.d.ten, .int .i64 x.d.dut, .int .i64 0, .int .i64 0]), DeV wr.heap.size x.d A6 x.n c6] ⟨stab_is _, stab_is _, stab_is _, stab_is _, stab_is _, stab_is _, stab_is _, stab_is _, stab_dev _ _ _ _ _, trivial⟩ (by kernel_rfl) (by kernel_rfl) (by kernel_rfl) (by simp) ?_
                    refine ⟨?_, ?_, ?_, ?_, ?_, ?_, ?_, ?_, ?_, ?_⟩
                    all_goals intro done vs ac W1 hdep hB hR hE
                    all_goals have ec : ∀ v : Value, ac.eval (.const v) = v := fun _ => rfl
                    all_goals try simp [Region.binds] at hdep
                    · have e5 : ac.eval (.tmp 5) = .pointer (some ⟨o, 0, none⟩) := (hE 5 (by simp)).trans (by simp [evF, Act.eval])
                      exact soft_value (.pointer (some ⟨o, 0, none⟩)) (by unfold execOp; simp only [e5, ec]; rfl) rfl
                    · have d0 : vs 0 = .pointer (some ⟨o, 0, none⟩) := hR 0 (by simp [hdep])
                      have e108 : ac.eval (.tmp 108) = .pointer (some ⟨o, 0, none⟩) := (hE 108 (by simp)).trans (by simp [evF, hdep, d0])
                      exact soft_value (.pointer (some ⟨o, 0, none⟩)) (by unfold execOp; simp only [e108]; go_simp) rfl
                    · have d1 : vs 1 = .pointer (some ⟨o, 0, none⟩) := hR 1 (by simp [hdep])
                      have e109 : ac.eval (.tmp 109) = .pointer (some ⟨o, 0, none⟩) := (hE 109 (by simp)).trans (by simp [evF, hdep, d1])
                      exact soft_value (.pointer (some ⟨o, 3, none⟩)) (by unfold execOp; simp only [e109]; kernel_rfl) rfl
                    · have d2 : vs 2 = .pointer (some ⟨o, 3, none⟩) := hR 2 (by simp [hdep])
                      have e110 : ac.eval (.tmp 110) = .pointer (some ⟨o, 3, none⟩) := (hE 110 (by simp)).trans (by simp [evF, hdep, d2])
                      have hc3 : W1.cell? ⟨o, 3, none⟩ = some (.map (some mb)) := (HOF.out.below hB HOF.out.lt).cell 3
                      exact soft_value (.map (some mb)) (by unfold execOp; simp only [e110]; go_simp) rfl
                    · have e10 : ac.eval (.tmp 10) = .pointer (some ⟨g, 0, none⟩) := (hE 10 (by simp)).trans (by simp [evF, Act.eval])
                      exact soft_value (.pointer (some ⟨g, 0, none⟩)) (by unfold execOp; simp only [e10]; kernel_rfl) rfl
                    · have d4 : vs 4 = .pointer (some ⟨g, 0, none⟩) := hR 4 (by simp [hdep])
                      have e112 : ac.eval (.tmp 112) = .pointer (some ⟨g, 0, none⟩) := (hE 112 (by simp)).trans (by simp [evF, hdep, d4])
                      have hc0 : W1.cell? ⟨g, 0, none⟩ = some (.string x.d.num) := (HG8.out.below hB HG8.out.lt).cell 0
                      exact soft_value (.string x.d.num) (by unfold execOp; simp only [e112]; go_simp) rfl
                    · have e10 : ac.eval (.tmp 10) = .pointer (some ⟨g, 0, none⟩) := (hE 10 (by simp)).trans (by simp [evF, Act.eval])
                      exact wp_load_row 53 _ rfl (g) e10 53 _ (0, 0) _ (HG8.out.below hB HG8.out.lt) Tryz.underlying53 rfl (by kernel_rfl) ⟨_, rfl, Below.refl _ _, rfl⟩
                    · have d6 : vs 6 = .agg #[.string x.d.num, .string x.d.sel, .string x.d.buy, .string x.d.car, .string x.d.iss, .string x.d.hou, .string x.d.ins, .string x.d.fr, .string x.d.dst, .string x.d.cur, .int .i64 x.d.amt, .slice A6 x.n c6, .int .i64 x.d.term, .int .i64 x.d.lat, .int .i64 x.d.exp, .int .i64 x.d.ten, .int .i64 x.d.dut] := hR 6 (by simp [hdep])
                      have e114 : ac.eval (.tmp 114) = .agg #[.string x.d.num, .string x.d.sel, .string x.d.buy, .string x.d.car, .string x.d.iss, .string x.d.hou, .string x.d.ins, .string x.d.fr, .string x.d.dst, .string x.d.cur, .int .i64 x.d.amt, .slice A6 x.n c6, .int .i64 x.d.term, .int .i64 x.d.lat, .int .i64 x.d.exp, .int .i64 x.d.ten, .int .i64 x.d.dut] := (hE 114 (by simp)).trans (by simp [evF, hdep, d6])
                      exact soft_value (.agg #[.string x.d.num, .string x.d.sel, .string x.d.buy, .string x.d.car, .string x.d.iss, .string x.d.hou, .string x.d.ins, .string x.d.fr, .string x.d.dst, .string x.d.cur, .int .i64 x.d.amt, .slice A6 x.n c6, .int .i64 x.d.term, .int .i64 x.d.lat, .int .i64 x.d.exp, .int .i64 x.d.ten, .int .i64 x.d.dut, .int .i64 0, .int .i64 0]) (by simp [execOp, e114, debuild, Result.andThen]) rfl
                    · have d7 : vs 7 = .agg #[.string x.d.num, .string x.d.sel, .string x.d.buy, .string x.d.car, .string x.d.iss, .string x.d.hou, .string x.d.ins, .string x.d.fr, .string x.d.dst, .string x.d.cur, .int .i64 x.d.amt, .slice A6 x.n c6, .int .i64 x.d.term, .int .i64 x.d.lat, .int .i64 x.d.exp, .int .i64 x.d.ten, .int .i64 x.d.dut, .int .i64 0, .int .i64 0] := hR 7 (by simp [hdep])
                      have e115 : ac.eval (.tmp 115) = .agg #[.string x.d.num, .string x.d.sel, .string x.d.buy, .string x.d.car, .string x.d.iss, .string x.d.hou, .string x.d.ins, .string x.d.fr, .string x.d.dst, .string x.d.cur, .int .i64 x.d.amt, .slice A6 x.n c6, .int .i64 x.d.term, .int .i64 x.d.lat, .int .i64 x.d.exp, .int .i64 x.d.ten, .int .i64 x.d.dut, .int .i64 0, .int .i64 0] := (hE 115 (by simp)).trans (by simp [evF, hdep, d7])
                      exact wp_box 83 (.tmp 115) rfl _ _ e115 (debox W1 x.d A6 x.n c6) ⟨_, rfl, one_alloc _ _, ⟨_, rfl, hB.size, Blk.new _ _ _⟩⟩
                    · have hall := hdep
                      have d3 : vs 3 = .map (some mb) := hR 3 (by omega)
                      have e111 : ac.eval (.tmp 111) = .map (some mb) := (hE 111 (by simp)).trans (by simp [evF, hall 3 (by omega), d3])
                      have d5 : vs 5 = .string x.d.num := hR 5 (by omega)
                      have e113 : ac.eval (.tmp 113) = .string x.d.num := (hE 113 (by simp)).trans (by simp [evF, hall 5 (by omega), d5])
                      obtain ⟨b8, d8, b8l, b8d⟩ := (show (DeV wr.heap.size x.d A6 x.n c6) (vs 8) W1 from hR 8 (by omega))
                      have e116 : ac.eval (.tmp 116) = .pointer (some ⟨b8, 0, none⟩) := (hE 116 (by simp)).trans (by simp [evF, hall 8 (by omega), d8])
                      have hi8 := HI8.out.below hB
                      have hb8 : hi ≤ b8 := Nat.le_trans HHX.out b8l
                      obtain ⟨w9, hup, hI9⟩ := NewI.add (b := b8) (nb := x.n) (c := c6) (A := A6) hi8 HX.out HSN.out HMI.out HOK.out hb8 b8d
                      clear hi8 hb8
                      have HI9 := Lib.hid hI9
                      refine wp_upd (.tmp 111) (.tmp 113) (.tmp 116) 73 rfl _ _ _ e111 e113 e116 hup ⟨_, rfl, ?_⟩
                      clear hup hI9 hB hR hE hdep e111 e113 e116 HI8 HG8 HR8 b8d
                      simp only [fillA, Act.put, List.setIfInBounds_toArray, List.set_cons_zero, List.set_cons_succ, if_true]
                      go_wp2_with fail
                      go_roundw
                      case rel => exact ⟨k + 1, _, by omega, by go_num, HI9⟩
                      case measure => simp [intOf]; omega
          · have HN := Lib.hid (HI1.out.skip HX.out hsn)
            obtain ⟨ns, hsm⟩ := HI1.out.seen
            have hlk := hsm.look keyStr (P := Tryz.prog) (mty := 88) Tryz.underlying88 Tryz.underlying9 _ zero_b x.d.num false
            unfold seenF at hlk
            rw [hsn] at hlk
            simp only [if_true, Option.map_some, Option.getD_some, Bool.false_eq_true, if_false] at hlk
            clear hsn hsm
            go_wp2_with fail
            go_roundw
            case rel => exact ⟨k + 1, hi, by omega, by go_num, HN⟩
            case measure => simp [intOf]; omega
        · have hkn : dn = k := by omega
          have i0 : ¬ (k : Int) < (dn : Int) := by omega
          have HE : Hid (dealsOf nm kind (xs.take k) = dealsOf nm kind xs) := Lib.hid (by rw [List.take_of_length_le (by omega)])
          clear hkn
          go_wp2_with fail
          go_ret
          obtain ⟨n0, m0, ho5⟩ := HI.out.off
          rw [HE.out] at ho5
          unfold NewP
          rw [HWH.out.1, HWH.out.2]
          exact ⟨o, mb, n0, m0, rfl, ho5.hi HI.out.hhi, HI.out.bel⟩
end Go.Proofs.YtdanjegnhdpnlaaGreatDoor.kit
