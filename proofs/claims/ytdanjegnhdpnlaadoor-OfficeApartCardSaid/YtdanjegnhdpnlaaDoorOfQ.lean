/- OfficeApart: its walk. Condition: the table of powers of ten. -/
import Derived.Test.YtdanjegnhdpnlaaDoorOfL
namespace Go.Proofs.YtdanjegnhdpnlaaDoor.kit
open Go.RowKit Go.PlainAid
set_option linter.unusedVariables false
set_option linter.unusedSimpArgs false
theorem SuOK.below_ {W W' : World} {s : Su} {ps : List Pty} {xs : List Dx} (h : SuOK W s ps xs) (hb : Below W.heap.size W W') : SuOK W' s ps xs := h.below hb
set_option maxRecDepth 100000 in
set_option maxHeartbeats 12800000 in
theorem apart_walk (s : Su) (nm : ByteArray) (A : Option Addr) (n c : Nat) (deal : ByteArray) (ps : List Pty) (xs : List Dx) (ls : List Lt) (w : World) (hp : SliceOf w 3 ptyC s.pA s.pn ps) (hd : SliceOf w 17 dxC s.dA s.dn xs) (hbx : ∀ x ∈ xs, BoxOK w x) (hok : ∀ x ∈ xs, x.d.ok) (h1 : s.pn ≤ maxLen) (h2 : s.dn ≤ maxLen)
    (hl : SliceOf w 14 ltC A n ls) (hli : ∀ l ∈ ls, I64 l.amt) (hn : n ≤ maxLen) (ht : PowTab w) :
    Calls Tryd.prog 3 #[.agg #[.slice s.pA s.pn s.pc, .slice s.dA s.dn s.dc, .slice s.fA s.fn s.fc, .slice s.rA s.rn s.rc, .slice s.hA s.hn s.hc], .string nm, .slice A n c, .string deal] w fun e w' => e = .returned (.bool true) ∧ Below w.heap.size w w' := by
  have HTB := Lib.hid (Lib.tabBelow_of_tabIs ht)
  have HP := Lib.hid hp; have HD := Lib.hid hd; have HBX := Lib.hid hbx; have HOK := Lib.hid hok; have HL := Lib.hid hl; have HLI := Lib.hid hli
  have H12 := Lib.hid (And.intro h1 (And.intro h2 hn))
  have HB0 := Lib.hid (one_alloc w (.cells #[.slice s.pA s.pn s.pc, .slice s.dA s.dn s.dc, .slice s.fA s.fn s.fc, .slice s.rA s.rn s.rc, .slice s.hA s.hn s.hc] 29))
  have HK0 : Hid (Blk (w.alloc (.cells #[.slice s.pA s.pn s.pc, .slice s.dA s.dn s.dc, .slice s.fA s.fn s.fc, .slice s.rA s.rn s.rc, .slice s.hA s.hn s.hc] 29)) w.heap.size 29 #[.slice s.pA s.pn s.pc, .slice s.dA s.dn s.dc, .slice s.fA s.fn s.fc, .slice s.rA s.rn s.rc, .slice s.hA s.hn s.hc]) := Lib.hid (Blk.new _ _ _)
  clear hp hd hbx hok hl hli h1 h2 hn ht
  go_enter Tryd.func3, Tryd.ntmps3
  go_upto_region 1 with (fail)
  generalize Value.agg #[.slice s.pA s.pn s.pc, .slice s.dA s.dn s.dc, .slice s.fA s.fn s.fc, .slice s.rA s.rn s.rc, .slice s.hA s.hn s.hc] = SV
  obtain ⟨w0, hw0⟩ : ∃ W, w.alloc (.cells #[.slice s.pA s.pn s.pc, .slice s.dA s.dn s.dc, .slice s.fA s.fn s.fc, .slice s.rA s.rn s.rc, .slice s.hA s.hn s.hc] 29) = W := ⟨_, rfl⟩
  obtain ⟨gs, hgs⟩ : ∃ g, w.heap.size = g := ⟨_, rfl⟩
  rw [hw0] at HB0 HK0 ⊢
  rw [hgs] at HK0
  simp only [hgs]
  clear hw0 hgs
  go_wp2_with ((refine stop_load 29 _ rfl ?_; refine wpList_load_want rfl 29 _ rfl gs rfl 29 _ _ HK0.out Tryd.underlying29 rfl (by kernel_rfl) ?_))
  refine (wide_any s ps xs w0 (HP.out.below HB0.out) (HD.out.below HB0.out) H12.out.1 H12.out.2.1).mono ?_
  rintro e w1 ⟨b1, rfl, hw, hb1⟩
  have HW := Lib.hid hw
  have HB1 := Lib.hid (HB0.out.trans (hb1.mono HB0.out.size))
  have HK1 := Lib.hid (HK0.out.below hb1 HK0.out.lt)
  clear hb1 hw HB0 HK0
  cases b1
  · go_wp2_with fail
    refine (long_any A n c ls w1 (HL.out.below HB1.out) H12.out.2.2).mono ?_
    rintro e w2 ⟨b2, rfl, hlo, hb2⟩
    have HN := Lib.hid hlo
    have HB2 := Lib.hid (HB1.out.trans (hb2.mono HB1.out.size))
    have HK2 := Lib.hid (HK1.out.below hb2 HK1.out.lt)
    clear hb2 hlo HB1 HK1
    cases b2
    · have HSU : Hid (SuOK w s ps xs) := Lib.hid ⟨HP.out, HD.out, HBX.out, HOK.out, (HW.out trivial).1, (HW.out trivial).2⟩
      have NGS : ¬ w2.heap.size ≤ gs := by have := HK2.out.lt; omega
      have hn30 : n ≤ 30 := by first | exact HN.out rfl | exact HN.out trivial
      go_upto_region 3 with (fail)
      · go_wp2_with fail
        refine (awake_any _ (HTB.out.on (HB2.out)).here).mono ?_
        rintro e w9 ⟨rfl, hb9⟩
        have HB9 := Lib.hid ((HB2.out).trans (hb9.mono (HB2.out).size))
        go_wp2_with fail
        go_ret
        exact ⟨rfl, HB9.out⟩
      · try simp only [Act.put, List.setIfInBounds_toArray, List.set_cons_zero, List.set_cons_succ]
        refine wp_region_softX [Is (.string nm), Is (.agg #[.slice s.pA s.pn s.pc, .slice s.dA s.dn s.dc, .slice s.fA s.fn s.fc, .slice s.rA s.rn s.rc, .slice s.hA s.hn s.hc]), AnyV, Is (.string nm), Is (.agg #[.slice s.pA s.pn s.pc, .slice s.dA s.dn s.dc, .slice s.fA s.fn s.fc, .slice s.rA s.rn s.rc, .slice s.hA s.hn s.hc]), AnyV, AnyV, AnyV] ⟨stab_is _, stab_is _, stab_anyv, stab_is _, stab_is _, stab_anyv, stab_anyv, stab_anyv, trivial⟩ (fun k => w2.heap.size ≤ k) ⟨stabf_is _ _, stabf_is _ _, stabf_anyv _, stabf_is _ _, stabf_is _ _, stabf_anyv _, stabf_anyv _, stabf_anyv _, trivial⟩ [false, false, true, false, false, true, true, true] (fun done vs W => PairX w2.heap.size nm ps xs (done 2) (done 5) (vs 2) (vs 5) W ∧ (done 6 = true → done 2 = true ∧ vs 6 = vs 2) ∧ (done 7 = true → done 5 = true ∧ vs 7 = vs 5)) ?_ ?_ (by kernel_rfl) (by kernel_rfl) ?_ ?_
        · intro q_ hq_ done vs v_ W W' h hnd hb
          have n2 : upDn done q_ 2 = done 2 := up_ne done (fun e => by subst e; exact absurd hq_ (by decide))
          have n5 : upDn done q_ 5 = done 5 := up_ne done (fun e => by subst e; exact absurd hq_ (by decide))
          have n6 : upDn done q_ 6 = done 6 := up_ne done (fun e => by subst e; exact absurd hq_ (by decide))
          have n7 : upDn done q_ 7 = done 7 := up_ne done (fun e => by subst e; exact absurd hq_ (by decide))
          have m2 : upVs vs q_ v_ 2 = vs 2 := upv_ne vs v_ (fun e => by subst e; exact absurd hq_ (by decide))
          have m5 : upVs vs q_ v_ 5 = vs 5 := upv_ne vs v_ (fun e => by subst e; exact absurd hq_ (by decide))
          have m6 : upVs vs q_ v_ 6 = vs 6 := upv_ne vs v_ (fun e => by subst e; exact absurd hq_ (by decide))
          have m7 : upVs vs q_ v_ 7 = vs 7 := upv_ne vs v_ (fun e => by subst e; exact absurd hq_ (by decide))
          rw [n2, n5, n6, n7, m2, m5, m6, m7]
          exact ⟨h.1.on hb, h.2.1, h.2.2⟩
        · exact ⟨PairX.start, fun h => (by cases h), fun h => (by cases h)⟩
        · refine ⟨?_, ?_, ?_, ?_, ?_, ?_, ?_, ?_, trivial⟩
          all_goals intro done vs ac W1 hdep hnd hB hR hX hE
          all_goals try simp only [Nat.zero_add, Nat.reduceAdd] at hnd ⊢
          all_goals have ec : ∀ v : Value, ac.eval (.const v) = v := fun _ => rfl
          all_goals try simp [Region.binds] at hdep
          · have e1 : ac.eval (.tmp 1) = .string nm := (hE 1 (by simp)).trans (by simp [evF, Act.eval])
            exact soft_value (.string nm) (by unfold execOp; simp only [e1, ec]; rfl) rfl
          · have e4 : ac.eval (.tmp 4) = .pointer (some ⟨gs, 0, none⟩) := (hE 4 (by simp)).trans (by simp [evF, Act.eval])
            exact wp_load_row 29 _ rfl (gs) e4 29 _ (0, 0) _ (HK2.out.fr hB NGS) Tryd.underlying29 rfl (by kernel_rfl) ⟨_, rfl, Below.refl _ _, rfl⟩
          · have d0 : vs 0 = .string nm := hR 0 (by simp [hdep])
            have e29 : ac.eval (.tmp 29) = .string nm := (hE 29 (by simp)).trans (by simp [evF, hdep, d0])
            have d1 : vs 1 = .agg #[.slice s.pA s.pn s.pc, .slice s.dA s.dn s.dc, .slice s.fA s.fn s.fc, .slice s.rA s.rn s.rc, .slice s.hA s.hn s.hc] := hR 1 (by simp [hdep])
            have e30 : ac.eval (.tmp 30) = .agg #[.slice s.pA s.pn s.pc, .slice s.dA s.dn s.dc, .slice s.fA s.fn s.fc, .slice s.rA s.rn s.rc, .slice s.hA s.hn s.hc] := (hE 30 (by simp)).trans (by simp [evF, hdep, d1])
            obtain ⟨hx1, hx2, hx3⟩ := hX
            have hbw : Below w.heap.size w W1 := hB.bel HB2.out (fun k hk => Nat.le_trans HB2.out.size hk) HB2.out.size
            have hsu := HSU.out.below_ hbw
            have hd6 : done 6 = false := not_of (fun h => (hx2 h).1) hnd
            refine wp_call_fn 7 _ _ rfl (enters_fn Tryd.func7 (by kernel_rfl) rfl) #[.string nm, .agg #[.slice s.pA s.pn s.pc, .slice s.dA s.dn s.dc, .slice s.fA s.fn s.fc, .slice s.rA s.rn s.rc, .slice s.hA s.hn s.hc]] (by simp [e29, e30]) ?_
            refine (new_any nm s ps xs W1 hsu).mono ?_
            rintro e9 w9 ⟨o9, mb9, n9, m9, rfl, hO9, hb9⟩
            refine ⟨_, rfl, _, rfl, (Fr.refl _ _).on hb9, ?_, trivial⟩
            obtain ⟨v', hv'⟩ : ∃ v', Value.pointer (some ⟨o9, 0, none⟩) = v' := ⟨_, rfl⟩
            rw [hv']
            have n5 : upDn done 2 5 = done 5 := up_ne done (by decide)
            have n6 : upDn done 2 6 = done 6 := up_ne done (by decide)
            have n7 : upDn done 2 7 = done 7 := up_ne done (by decide)
            have m5 : upVs vs 2 v' 5 = vs 5 := upv_ne vs _ (by decide)
            have m6 : upVs vs 2 v' 6 = vs 6 := upv_ne vs _ (by decide)
            have m7 : upVs vs 2 v' 7 = vs 7 := upv_ne vs _ (by decide)
            rw [up_same, upv_same, n5, n6, n7, m5, m6, m7]
            rw [hnd] at hx1
            refine ⟨hx1.first hb9 hB.size ⟨o9, mb9, n9, m9, by rw [hv'], hO9, hb9⟩, fun h => (by rw [hd6] at h; cases h), hx3⟩
          · have e1 : ac.eval (.tmp 1) = .string nm := (hE 1 (by simp)).trans (by simp [evF, Act.eval])
            exact soft_value (.string nm) (by unfold execOp; simp only [e1, ec]; rfl) rfl
          · have e4 : ac.eval (.tmp 4) = .pointer (some ⟨gs, 0, none⟩) := (hE 4 (by simp)).trans (by simp [evF, Act.eval])
            exact wp_load_row 29 _ rfl (gs) e4 29 _ (0, 0) _ (HK2.out.fr hB NGS) Tryd.underlying29 rfl (by kernel_rfl) ⟨_, rfl, Below.refl _ _, rfl⟩
          · have d3 : vs 3 = .string nm := hR 3 (by simp [hdep])
            have e32 : ac.eval (.tmp 32) = .string nm := (hE 32 (by simp)).trans (by simp [evF, hdep, d3])
            have d4 : vs 4 = .agg #[.slice s.pA s.pn s.pc, .slice s.dA s.dn s.dc, .slice s.fA s.fn s.fc, .slice s.rA s.rn s.rc, .slice s.hA s.hn s.hc] := hR 4 (by simp [hdep])
            have e33 : ac.eval (.tmp 33) = .agg #[.slice s.pA s.pn s.pc, .slice s.dA s.dn s.dc, .slice s.fA s.fn s.fc, .slice s.rA s.rn s.rc, .slice s.hA s.hn s.hc] := (hE 33 (by simp)).trans (by simp [evF, hdep, d4])
            obtain ⟨hx1, hx2, hx3⟩ := hX
            have hbw : Below w.heap.size w W1 := hB.bel HB2.out (fun k hk => Nat.le_trans HB2.out.size hk) HB2.out.size
            have hsu := HSU.out.below_ hbw
            have hd7 : done 7 = false := not_of (fun h => (hx3 h).1) hnd
            refine wp_call_fn 7 _ _ rfl (enters_fn Tryd.func7 (by kernel_rfl) rfl) #[.string nm, .agg #[.slice s.pA s.pn s.pc, .slice s.dA s.dn s.dc, .slice s.fA s.fn s.fc, .slice s.rA s.rn s.rc, .slice s.hA s.hn s.hc]] (by simp [e32, e33]) ?_
            refine (new_any nm s ps xs W1 hsu).mono ?_
            rintro e9 w9 ⟨o9, mb9, n9, m9, rfl, hO9, hb9⟩
            refine ⟨_, rfl, _, rfl, (Fr.refl _ _).on hb9, ?_, trivial⟩
            obtain ⟨v', hv'⟩ : ∃ v', Value.pointer (some ⟨o9, 0, none⟩) = v' := ⟨_, rfl⟩
            rw [hv']
            have n2 : upDn done 5 2 = done 2 := up_ne done (by decide)
            have n6 : upDn done 5 6 = done 6 := up_ne done (by decide)
            have n7 : upDn done 5 7 = done 7 := up_ne done (by decide)
            have m2 : upVs vs 5 v' 2 = vs 2 := upv_ne vs _ (by decide)
            have m6 : upVs vs 5 v' 6 = vs 6 := upv_ne vs _ (by decide)
            have m7 : upVs vs 5 v' 7 = vs 7 := upv_ne vs _ (by decide)
            rw [up_same, upv_same, n2, n6, n7, m2, m6, m7]
            rw [hnd] at hx1
            refine ⟨hx1.second hb9 hB.size ⟨o9, mb9, n9, m9, by rw [hv'], hO9, hb9⟩, hx2, fun h => (by rw [hd7] at h; cases h)⟩
          · have d2 : vs 2 = vs 2 := rfl
            have e31 : ac.eval (.tmp 31) = (vs 2) := (hE 31 (by simp)).trans (by simp [evF, hdep, d2])
            obtain ⟨hx1, hx2, hx3⟩ := hX
            have hdd : done 2 = true := by simp [hdep]
            refine wp_value (vs 2) (by unfold execOp; simp only [e31]; rfl) ⟨_, rfl, Fr.refl _ _, ?_, trivial⟩
            have n2 : upDn done 6 2 = done 2 := up_ne done (by decide)
            have n5 : upDn done 6 5 = done 5 := up_ne done (by decide)
            have n7 : upDn done 6 7 = done 7 := up_ne done (by decide)
            have m2 : upVs vs 6 (vs 2) 2 = vs 2 := upv_ne vs _ (by decide)
            have m5 : upVs vs 6 (vs 2) 5 = vs 5 := upv_ne vs _ (by decide)
            have m7 : upVs vs 6 (vs 2) 7 = vs 7 := upv_ne vs _ (by decide)
            rw [up_same, upv_same, n2, n5, n7, m2, m5, m7]
            exact ⟨hx1, fun _ => ⟨hdd, rfl⟩, hx3⟩
          · have d5 : vs 5 = vs 5 := rfl
            have e34 : ac.eval (.tmp 34) = (vs 5) := (hE 34 (by simp)).trans (by simp [evF, hdep, d5])
            obtain ⟨hx1, hx2, hx3⟩ := hX
            have hdd : done 5 = true := by simp [hdep]
            refine wp_value (vs 5) (by unfold execOp; simp only [e34]; rfl) ⟨_, rfl, Fr.refl _ _, ?_, trivial⟩
            have n2 : upDn done 7 2 = done 2 := up_ne done (by decide)
            have n5 : upDn done 7 5 = done 5 := up_ne done (by decide)
            have n6 : upDn done 7 6 = done 6 := up_ne done (by decide)
            have m2 : upVs vs 7 (vs 5) 2 = vs 2 := upv_ne vs _ (by decide)
            have m5 : upVs vs 7 (vs 5) 5 = vs 5 := upv_ne vs _ (by decide)
            have m6 : upVs vs 7 (vs 5) 6 = vs 6 := upv_ne vs _ (by decide)
            rw [up_same, upv_same, n2, n5, n6, m2, m5, m6]
            exact ⟨hx1, hx2, fun _ => ⟨hdd, rfl⟩⟩
        · intro done vs W hall hB hR hX
          obtain ⟨hx1, hx2, hx3⟩ := hX
          rw [hall 2 (by simp), hall 5 (by simp)] at hx1
          obtain ⟨la, ha, lb, hb, qa, qb, hap⟩ := hx1.c rfl rfl
          have r6 : vs 6 = vs 2 := (hx2 (hall 6 (by simp))).2
          have r7 : vs 7 = vs 5 := (hx3 (hall 7 (by simp))).2
          obtain ⟨oa, ma, na, ka, ea, qa1, qa2, qa3⟩ := qa
          obtain ⟨ob, mb, nb, kb, eb, qb1, qb2, qb3⟩ := qb
          rw [ea] at r6
          rw [eb] at r7
          have HB3 := Lib.hid (hB.bel HB2.out (fun k hk => Nat.le_trans HB2.out.size hk) HB2.out.size)
          have HI3 : Hid (ApI w la ha lb hb oa ob nm (whoV nm ps).2 (whoV nm ps).1 (dealsOf nm (whoV nm ps).1 xs) deal W) := Lib.hid ⟨HB3.out, ⟨ma, na, ka, mb, nb, kb, _, _, qa1, qb1, rfl⟩, qa3, qb3, Nat.le_trans HB2.out.size qa2, Nat.le_trans HB2.out.size qb2, hap⟩
          clear hR hB hall hx1 hx2 hx3 qa1 qb1 ea eb
          simp only [fillA, Act.put, List.setIfInBounds_toArray, List.set_cons_zero, List.set_cons_succ, if_true, r6, r7]
          go_wp2_with fail
          obtain ⟨bank, hbank⟩ : ∃ z, (whoV nm ps).2 = z := ⟨_, rfl⟩
          obtain ⟨kind, hkind⟩ : ∃ z, (whoV nm ps).1 = z := ⟨_, rfl⟩
          rw [hbank, hkind] at HI3
          obtain ⟨ds, hds⟩ : ∃ z, dealsOf nm kind xs = z := ⟨_, rfl⟩
          rw [hds] at HI3
          clear hbank hkind hds qa2 qb2 qa3 qb3 hap HSU
          go_loopw [43] (fun i wr => ∃ k : Nat, k ≤ n ∧ i = .int .i64 k ∧ Hid (ApI w la ha lb hb oa ob nm bank kind ds deal wr)) (fun i _ => n - (intOf i).toNat)
          case atStart => exact ⟨0, by omega, rfl, HI3⟩
          case round =>
            obtain ⟨k, hk, rfl, HI⟩ := hrel
            have hlen := HL.out.len
            by_cases hlt : k < n
            · obtain ⟨bl, off, x, hA, hxk, hc⟩ := el_at (HL.out.below HI.out.bel) hlt
              subst hA
              have HC := Lib.hid hc
              have HAM := Lib.hid (HLI.out x (List.mem_of_getElem? hxk))
              have i0 : (k : Int) < (n : Int) := by omega
              have HI2 := Lib.hid (HI.out.below (one_alloc wr (.cells #[.string x.fr, .string x.to, .int .i64 x.num, .int .i64 x.kind, .int .i64 x.ack, .string x.deal, .string x.text, .string x.party, .int .i64 x.idx, .int .i64 x.day, .string x.cur, .int .i64 x.amt, .slice x.A1 x.n1 x.c1, .slice x.A2 x.n2 x.c2] 41)))
              have HX : Hid (Blk (wr.alloc (.cells #[.string x.fr, .string x.to, .int .i64 x.num, .int .i64 x.kind, .int .i64 x.ack, .string x.deal, .string x.text, .string x.party, .int .i64 x.idx, .int .i64 x.day, .string x.cur, .int .i64 x.amt, .slice x.A1 x.n1 x.c1, .slice x.A2 x.n2 x.c2] 41)) wr.heap.size 41 #[.string x.fr, .string x.to, .int .i64 x.num, .int .i64 x.kind, .int .i64 x.ack, .string x.deal, .string x.text, .string x.party, .int .i64 x.idx, .int .i64 x.day, .string x.cur, .int .i64 x.amt, .slice x.A1 x.n1 x.c1, .slice x.A2 x.n2 x.c2]) := Lib.hid (Blk.new _ _ _)
              have HZ : Hid (ha ≤ wr.heap.size ∧ hb ≤ wr.heap.size) := Lib.hid ⟨HI.out.ha_, HI.out.hb_⟩
              clear hxk hc
              go_upto_region 9 with (first | ((refine stop_store 41 _ _ rfl ?_; refine wpList_store_new rfl 41 _ _ rfl _ rfl rfl (by kernel_rfl) rfl rfl ?_)) | (refine stop_load 41 _ rfl ?_; refine wpList_load_at rfl 41 _ rfl bl (off + k * 14) rfl (ltC x) _ HC.out Tryd.underlying41 rfl (by kernel_rfl) ?_))
              obtain ⟨w4, hw4⟩ : ∃ W, wr.alloc (.cells #[.string x.fr, .string x.to, .int .i64 x.num, .int .i64 x.kind, .int .i64 x.ack, .string x.deal, .string x.text, .string x.party, .int .i64 x.idx, .int .i64 x.day, .string x.cur, .int .i64 x.amt, .slice x.A1 x.n1 x.c1, .slice x.A2 x.n2 x.c2] 41) = W := ⟨_, rfl⟩
              obtain ⟨g, hg⟩ : ∃ g, wr.heap.size = g := ⟨_, rfl⟩
              rw [hw4] at HX HI2
              change Code.wp _ _ _ _ (wr.alloc (.cells #[.string x.fr, .string x.to, .int .i64 x.num, .int .i64 x.kind, .int .i64 x.ack, .string x.deal, .string x.text, .string x.party, .int .i64 x.idx, .int .i64 x.day, .string x.cur, .int .i64 x.amt, .slice x.A1 x.n1 x.c1, .slice x.A2 x.n2 x.c2] 41))
              rw [hw4]
              rw [hg] at HX HZ
              simp only [hg]
              clear hw4 hg
              obtain ⟨ma, na, ka, mb, nb, kb, sa, sb, qa, qb, hs⟩ := HI2.out.two
              have HTK := Lib.hid (take_any la ha oa ma na nm bank kind ka ds sa x k w4 qa HAM.out HI2.out.ha_ (fun W hW => HTB.out W (hW.bel HI2.out.bel (fun q hq => Nat.le_trans HI2.out.la_ hq.1) HI2.out.bel.size)))
              have HQB := Lib.hid qb
              have HSE := Lib.hid hs
              clear qa qb hs
              go_wp2_with ((refine stop_load 41 _ rfl ?_; refine wpList_load_want rfl 41 _ rfl g rfl 41 _ _ HX.out Tryd.underlying41 rfl (by kernel_rfl) ?_))
              refine HTK.out.mono ?_
              rintro e w5 ⟨v, rfl, hv, hOa, hF⟩
              have HV := Lib.hid hv
              have HOA := Lib.hid hOa
              have HOB := Lib.hid (HQB.out.fr hF (fun q h1 h2 hs => by have h3 := HI2.out.ap; omega))
              have HX5 := Lib.hid (HX.out.fr hF (fun hs => by have h3 := HZ.out; omega))
              have HB5 := Lib.hid (hF.bel HI2.out.bel (fun q hq => Nat.le_trans HI2.out.la_ hq.1) HI2.out.bel.size)
              have HZ5 : Hid (ha ≤ w5.heap.size ∧ hb ≤ w5.heap.size) := Lib.hid ⟨Nat.le_trans HI2.out.ha_ hF.size, Nat.le_trans HI2.out.hb_ hF.size⟩
              clear hv hOa hF HTK HQB HX
              have x5 := HX5.out.cell 5
              simp only [List.getElem?_toArray, List.getElem?_cons_zero, List.getElem?_cons_succ] at x5
              by_cases he : x.deal = deal
              · have q1 : (x.deal.toList == deal.toList) = true := by rw [eq_str]; exact decide_eq_true he
                have HSX : Hid (sa x.deal = sb x.deal) := Lib.hid (by rw [he]; exact HSE.out)
                have HTB2 := Lib.hid (take_any lb hb ob mb nb nm bank kind kb ds sb x k w5 HOB.out HAM.out HZ5.out.2 (fun W hW => HTB.out W (hW.bel HB5.out (fun q hq => Nat.le_trans HI2.out.lb_ hq.1) HB5.out.size)))
                have HDE := Lib.hid he
                clear he
                go_wp2_with ((refine stop_load 41 _ rfl ?_; refine wpList_load_want rfl 41 _ rfl g rfl 41 _ _ HX5.out Tryd.underlying41 rfl (by kernel_rfl) ?_))
                refine HTB2.out.mono ?_
                rintro e w6 ⟨v', rfl, hv', hOb, hF2⟩
                rw [← HSX.out] at hv' hOb
                have hv6 := HV.out.fr hF2 (fun q h1 h2 hs => by have h3 := HI2.out.hb_; omega)
                have HAL := Lib.hid (all_any x.deal k _ v' v _ _ w6 hv' hv6 out_docs)
                have HI6 : Hid (ApI w la ha lb hb oa ob nm bank kind ds deal w6) := Lib.hid ⟨hF2.bel HB5.out (fun q hq => Nat.le_trans HI2.out.lb_ hq.1) HB5.out.size, ⟨ma, na, ka, mb, nb, kb, _, _, HOA.out.fr hF2 (fun q h1 h2 hs => by have h3 := HI2.out.ap; omega), hOb, by rw [← HDE.out]; unfold setS; rw [if_pos rfl, if_pos rfl]⟩, Nat.le_trans HZ5.out.1 hF2.size, Nat.le_trans HZ5.out.2 hF2.size, HI2.out.la_, HI2.out.lb_, HI2.out.ap⟩
                clear hv' hv6 hOb hF2 HTB2 x5
                go_wp2_with fail
                refine HAL.out.mono ?_
                rintro e w7 ⟨rfl, hb7⟩
                have HI7 := Lib.hid (HI6.out.below hb7)
                clear hb7
                go_wp2_with fail
                go_roundw
                case rel => (repeat apply Exists.intro); exact ⟨⟨k + 1, by omega, by go_num, HI7⟩, rfl⟩
                case measure => simp [intOf]; omega
              · have q1 : (x.deal.toList == deal.toList) = false := by rw [eq_str]; exact decide_eq_false he
                have HI5 : Hid (ApI w la ha lb hb oa ob nm bank kind ds deal w5) := Lib.hid ⟨HB5.out, ⟨ma, na, ka, mb, nb, kb, _, _, HOA.out, HOB.out, by unfold setS; rw [if_neg (fun h => he h.symm)]; exact HSE.out⟩, HZ5.out.1, HZ5.out.2, HI2.out.la_, HI2.out.lb_, HI2.out.ap⟩
                clear he
                go_wp2_with fail
                go_roundw
                case rel => (repeat apply Exists.intro); exact ⟨⟨k + 1, by omega, by go_num, HI5⟩, rfl⟩
                case measure => simp [intOf]; omega
            · have i0 : ¬ (k : Int) < (n : Int) := by omega
              obtain ⟨ma, na, ka, mb, nb, kb, sa, sb, qa, qb, hs⟩ := HI.out.two
              have HSA := Lib.hid (state_any la ha oa ma na nm bank kind ka ds sa deal wr qa)
              have HSB := Lib.hid (state_any lb hb ob mb nb nm bank kind kb ds sb deal wr qb)
              have HEQ : Hid (stateV ds sa deal = stateV ds sb deal) := Lib.hid (by unfold stateV; rw [hs])
              clear qa qb hs
              have HBW := Lib.hid HI.out.bel
              go_wp2_with fail
              refine HSA.out.mono ?_
              rintro e w5 ⟨rfl, rfl⟩
              go_wp2_with fail
              refine HSB.out.mono ?_
              rintro e w5 ⟨rfl, rfl⟩
              rw [HEQ.out]
              have q1 : (stateV ds sb deal == stateV ds sb deal) = true := by simp
              go_wp2_with fail
              refine (awake_any _ (HTB.out.on (HBW.out)).here).mono ?_
              rintro e w9 ⟨rfl, hb9⟩
              have HB9 := Lib.hid ((HBW.out).trans (hb9.mono (HBW.out).size))
              go_wp2_with fail
              go_ret
              exact ⟨rfl, HB9.out⟩
    · go_wp2_with fail
      refine (awake_any _ (HTB.out.on (HB2.out)).here).mono ?_
      rintro e w9 ⟨rfl, hb9⟩
      have HB9 := Lib.hid ((HB2.out).trans (hb9.mono (HB2.out).size))
      go_wp2_with fail
      go_ret
      exact ⟨rfl, HB9.out⟩
  · go_wp2_with fail
    refine (awake_any _ (HTB.out.on (HB1.out)).here).mono ?_
    rintro e w9 ⟨rfl, hb9⟩
    have HB9 := Lib.hid ((HB1.out).trans (hb9.mono (HB1.out).size))
    go_wp2_with fail
    go_ret
    exact ⟨rfl, HB9.out⟩
end Go.Proofs.YtdanjegnhdpnlaaDoor.kit
