/- The document's office: a new state; its two letters; what is due. No condition. -/
import Derived.Test.YtdanjegnhdpnlaaGreatDoorPlB
namespace Go.Proofs.YtdanjegnhdpnlaaGreatDoor.kit
open Go.RowKit Go.PlainAid
set_option linter.unusedVariables false
set_option linter.unusedSimpArgs false
set_option maxRecDepth 100000
set_option maxHeartbeats 6400000
theorem own_ne2 {W : World} {B B' n n' : Nat} {e e' : TypeId} {v v' : Value} {xs xs' : List Value} (h : W.ownsRow B e 1 v n xs) (h' : W.ownsRow B' e' 1 v' n' xs') (hne : e ≠ e') : v.ownBlock = none ∨ v.ownBlock ≠ v'.ownBlock := by
  rcases h.2 with ⟨rfl, _⟩ | ⟨g, cap, cur, rfl, _, hg, _⟩
  · exact .inl rfl
  · refine .inr ?_
    rcases h'.2 with ⟨rfl, _⟩ | ⟨g', cap', cur', rfl, _, hg', _⟩
    · simp [Value.ownBlock]
    · intro q
      simp only [Value.ownBlock, Option.some.injEq] at q
      subst q
      rw [hg] at hg'
      injection hg' with hg'
      injection hg' with _ hg' _
      exact hne hg'
theorem rep_snoc (k : Nat) : (List.replicate k (0 : Int)).flatMap inC ++ [(0 : Int)].flatMap inC = (List.replicate (k + 1) (0 : Int)).flatMap inC := by
  rw [List.replicate_succ', List.flatMap_append]
theorem reads_one (W : World) (t : TypeId) : Reads (W.alloc (.cells #[.int .i64 0] t)) (W.alloc (.cells #[.int .i64 0] t)).heap.size 1 (some ⟨W.heap.size, 0, none⟩) 1 ([(0 : Int)].flatMap inC) :=
  (SliceOf.blk (en := inC) (Blk.new W t _) [0] rfl in_len rfl).reads in_len
theorem rnew_any (s : Su) (xs : List Dx) (w : World) (h2 : s.dn ≤ 100) :
    Calls Tryz.prog 17 #[.agg #[.slice s.pA s.pn s.pc, .slice s.dA s.dn s.dc, .slice s.fA s.fn s.fc, .slice s.rA s.rn s.rc, .slice s.hA s.hn s.hc]] w fun e w' => ∃ v, e = .returned v ∧ Below w.heap.size w w' ∧ StV (List.replicate s.dn 0) (List.replicate s.dn 0) v w' := by
  obtain ⟨pA, pn, pc, dA, dn, dc, fA, fn, fc, rA, rn, rc, hA, hn, hc⟩ := s
  dsimp only at h2 ⊢
  have HB0 : Hid (Below w.heap.size w (((w.alloc (.cells #[.slice pA pn pc, .slice dA dn dc, .slice fA fn fc, .slice rA rn rc, .slice hA hn hc] 29)).alloc (.cells #[.slice none 0 0, .slice none 0 0] 37)).alloc (.cells #[.slice none 0 0, .slice none 0 0] 37))) := Lib.hid ((two_alloc w _ _).alloc (by simp; omega) _)
  have HK0 : Hid (Blk (((w.alloc (.cells #[.slice pA pn pc, .slice dA dn dc, .slice fA fn fc, .slice rA rn rc, .slice hA hn hc] 29)).alloc (.cells #[.slice none 0 0, .slice none 0 0] 37)).alloc (.cells #[.slice none 0 0, .slice none 0 0] 37)) w.heap.size 29 #[.slice pA pn pc, .slice dA dn dc, .slice fA fn fc, .slice rA rn rc, .slice hA hn hc]) := Lib.hid (((Blk.new _ _ _).alloc _).alloc _)
  have HR0 : Hid (Blk (((w.alloc (.cells #[.slice pA pn pc, .slice dA dn dc, .slice fA fn fc, .slice rA rn rc, .slice hA hn hc] 29)).alloc (.cells #[.slice none 0 0, .slice none 0 0] 37)).alloc (.cells #[.slice none 0 0, .slice none 0 0] 37)) (w.heap.size + 1) 37 #[.slice none 0 0, .slice none 0 0]) := Lib.hid ((blk_second _ _ _ _).alloc _)
  have HX0 : Hid (Blk (((w.alloc (.cells #[.slice pA pn pc, .slice dA dn dc, .slice fA fn fc, .slice rA rn rc, .slice hA hn hc] 29)).alloc (.cells #[.slice none 0 0, .slice none 0 0] 37)).alloc (.cells #[.slice none 0 0, .slice none 0 0] 37)) (w.heap.size + 1 + 1) 37 #[.slice none 0 0, .slice none 0 0]) := Lib.hid (Blk.new_at _ _ _ _ (by simp))
  have HZ0 : Hid (w.heap.size + 1 + 1 < ((((w.alloc (.cells #[.slice pA pn pc, .slice dA dn dc, .slice fA fn fc, .slice rA rn rc, .slice hA hn hc] 29)).alloc (.cells #[.slice none 0 0, .slice none 0 0] 37)).alloc (.cells #[.slice none 0 0, .slice none 0 0] 37))).heap.size) := Lib.hid (by simp)
  obtain ⟨i1, hi1, hz0, hz1, hz2⟩ := info_parts infoI
  obtain ⟨i2, hi2, hy0, hy1, hy2⟩ := info_parts infoL
  have hb0 := fun w => st_build0 w
  go_enter Tryz.func17, Tryz.ntmps17
  go_upto_region 2 with ((refine stop_store 37 _ _ rfl ?_; refine wpList_store_new rfl 37 _ _ rfl _ rfl rfl (by kernel_rfl) rfl rfl ?_))
  obtain ⟨w1, hw1⟩ : ∃ W, (((w.alloc (.cells #[.slice pA pn pc, .slice dA dn dc, .slice fA fn fc, .slice rA rn rc, .slice hA hn hc] 29)).alloc (.cells #[.slice none 0 0, .slice none 0 0] 37)).alloc (.cells #[.slice none 0 0, .slice none 0 0] 37)) = W := ⟨_, rfl⟩
  rw [hw1] at HB0 HK0 HR0 HX0 HZ0
  change Code.wp _ _ _ _ (((w.alloc (.cells #[.slice pA pn pc, .slice dA dn dc, .slice fA fn fc, .slice rA rn rc, .slice hA hn hc] 29)).alloc (.cells #[.slice none 0 0, .slice none 0 0] 37)).alloc (.cells #[.slice none 0 0, .slice none 0 0] 37))
  rw [hw1]
  obtain ⟨gs, hg⟩ : ∃ g, w.heap.size = g := ⟨_, rfl⟩
  have HGE := Lib.hid hg
  rw [hg] at HK0 HR0 HX0 HZ0
  simp only [hg]
  clear hw1 hg
  go_wp2_with fail
  go_loopw [4] (fun i wr => ∃ (k : Nat) (v1 v2 : Value), k ≤ dn ∧ i = .int .i64 k ∧ Hid (Blk wr (gs + 1 + 1) 37 #[v1, v2]) ∧ Hid (wr.ownsRow (gs + 3) 3 1 v1 k ((List.replicate k (0 : Int)).flatMap inC)) ∧ Hid (wr.ownsRow (gs + 3) 2 1 v2 k ((List.replicate k (0 : Int)).flatMap inC)) ∧ Hid (Fr (fun q => gs + 2 ≤ q) w1 wr)) (fun i _ => dn - (intOf i).toNat)
  case atStart => exact ⟨0, _, _, by omega, rfl, HX0, Lib.hid ⟨rfl, .inl ⟨rfl, rfl⟩⟩, Lib.hid ⟨rfl, .inl ⟨rfl, rfl⟩⟩, Lib.hid (Fr.refl _ _)⟩
  case round =>
    obtain ⟨k, v1, v2, hk, rfl, HX, HO1, HO2, HF⟩ := hrel
    have HKS := Lib.hid (HK0.out.fr HF.out (by omega))
    have s1 := HKS.out.cell 1
    simp only [List.getElem?_toArray, List.getElem?_cons_zero, List.getElem?_cons_succ] at s1
    have x0 := HX.out.cell 0; have f0 := HX.out.frozen 0
    simp only [List.getElem?_toArray, List.getElem?_cons_zero, List.getElem?_cons_succ] at x0
    have HSZ : Hid (gs + 3 ≤ wr.heap.size) := Lib.hid (by have := HF.out.size; have := HZ0.out; omega)
    by_cases hlt : k < dn
    · have i0 : (k : Int) < (dn : Int) := by omega
      go_upto_region 6 with (at_builtin; refine wpList_append_any_s _ rfl (.tmp 14) (.tmp 15) 25 rfl (gs + 3) 3 i1 _ 1 8 Tryz.underlying25 hi1 hz0 hz1 hz2 rfl (by omega) v1 k _ rfl (HO1.out.alloc _) _ (some ⟨wr.heap.size, 0, none⟩) 1 1 ([(0 : Int)].flatMap inC) rfl (reads_one wr _) (in_one _) (by unfold maxLen; omega) (by omega) (by have := HSZ.out; simp; omega) ?_; intro A9 c9 w9 hown9 hg9 hloc9; have hx9 := (HX.out.alloc (.cells #[.int .i64 0] 3)).grown hg9 (fun e => by have := (HO1.out.lt _ e.symm).1; omega); have HX9 := Lib.hid hx9; have HF9 := Lib.hid ((HF.out.alloc (.cells #[.int .i64 0] 3)).grown hg9 (fun q hq => .inl (by have := (HO1.out.lt _ hq).1; omega))); have HP9 := Lib.hid ((HO2.out.alloc (.cells #[.int .i64 0] 3)).kept hg9 (own_ne2 HO2.out HO1.out (by decide))); rw [rep_snoc] at hown9; have HO9 := Lib.hid hown9; clear x0 f0 hown9 hg9 hloc9; have x0 := hx9.cell 0; have f0 := hx9.frozen 0; simp only [List.getElem?_toArray, List.getElem?_cons_zero, List.getElem?_cons_succ] at x0; clear hx9)
      have HX10 : Hid (Blk (w9.setCell ⟨gs + 1 + 1, 0, none⟩ (.slice A9 (k + 1) c9)) (gs + 1 + 1) 37 #[.slice A9 (k + 1) c9, v2]) := Lib.hid (by have q := HX9.out.set_ 0 (.slice A9 (k + 1) c9); simpa using q)
      have HO10 : Hid ((w9.setCell ⟨gs + 1 + 1, 0, none⟩ (.slice A9 (k + 1) c9)).ownsRow (gs + 3) 3 1 (.slice A9 (k + 1) c9) (k + 1) ((List.replicate (k + 1) (0 : Int)).flatMap inC)) := Lib.hid (own_fr HO9.out ((Fr.refl (fun q => q = gs + 1 + 1) w9).setCell (p := ⟨gs + 1 + 1, 0, none⟩) (.inl rfl) _) (fun q hq e => by have := (HO9.out.lt _ hq).1; omega))
      have HP10 : Hid ((w9.setCell ⟨gs + 1 + 1, 0, none⟩ (.slice A9 (k + 1) c9)).ownsRow (gs + 3) 2 1 v2 k ((List.replicate k (0 : Int)).flatMap inC)) := Lib.hid (own_fr HP9.out ((Fr.refl (fun q => q = gs + 1 + 1) w9).setCell (p := ⟨gs + 1 + 1, 0, none⟩) (.inl rfl) _) (fun q hq e => by have := (HP9.out.lt _ hq).1; omega))
      have HF10 : Hid (Fr (fun q => gs + 2 ≤ q) w1 (w9.setCell ⟨gs + 1 + 1, 0, none⟩ (.slice A9 (k + 1) c9))) := Lib.hid (HF9.out.setCell (p := ⟨gs + 1 + 1, 0, none⟩) (.inl (by simp)) _)
      obtain ⟨wv, hwv⟩ : ∃ W, w9.setCell ⟨gs + 1 + 1, 0, none⟩ (.slice A9 (k + 1) c9) = W := ⟨_, rfl⟩
      rw [hwv] at HX10 HO10 HP10 HF10 ⊢
      clear hwv x0 f0 HX9 HF9 HP9 HO9 HX HO1 HO2 HF s1 HKS
      have y1 := HX10.out.cell 1; have g1 := HX10.out.frozen 1
      simp only [List.getElem?_toArray, List.getElem?_cons_zero, List.getElem?_cons_succ] at y1
      have HSV : Hid (gs + 3 ≤ wv.heap.size) := Lib.hid (by have := HF10.out.size; have := HZ0.out; omega)
      go_wp2_with (at_builtin; refine wpList_append_any_s _ rfl (.tmp 19) (.tmp 20) 35 rfl (gs + 3) 2 i2 _ 1 8 Tryz.underlying35 hi2 hy0 hy1 hy2 rfl (by omega) v2 k _ rfl (HP10.out.alloc _) _ (some ⟨wv.heap.size, 0, none⟩) 1 1 ([(0 : Int)].flatMap inC) rfl (reads_one wv _) (in_one _) (by unfold maxLen; omega) (by omega) (by have := HSV.out; simp; omega) ?_; intro A8 c8 w8 hown8 hg8 hloc8; have hx8 := (HX10.out.alloc (.cells #[.int .i64 0] 2)).grown hg8 (fun e => by have := (HP10.out.lt _ e.symm).1; omega); have HX8 := Lib.hid hx8; have HF8 := Lib.hid ((HF10.out.alloc (.cells #[.int .i64 0] 2)).grown hg8 (fun q hq => .inl (by have := (HP10.out.lt _ hq).1; omega))); have HP8 := Lib.hid ((HO10.out.alloc (.cells #[.int .i64 0] 2)).kept hg8 (own_ne2 HO10.out HP10.out (by decide))); rw [rep_snoc] at hown8; have HO8 := Lib.hid hown8; clear y1 g1 hown8 hg8 hloc8; have y1 := hx8.cell 1; have g1 := hx8.frozen 1; simp only [List.getElem?_toArray, List.getElem?_cons_zero, List.getElem?_cons_succ] at y1; clear hx8)
      have HX11 : Hid (Blk (w8.setCell ⟨gs + 1 + 1, 1, none⟩ (.slice A8 (k + 1) c8)) (gs + 1 + 1) 37 #[.slice A9 (k + 1) c9, .slice A8 (k + 1) c8]) := Lib.hid (by have q := HX8.out.set_ 1 (.slice A8 (k + 1) c8); simpa using q)
      have HO11 : Hid ((w8.setCell ⟨gs + 1 + 1, 1, none⟩ (.slice A8 (k + 1) c8)).ownsRow (gs + 3) 2 1 (.slice A8 (k + 1) c8) (k + 1) ((List.replicate (k + 1) (0 : Int)).flatMap inC)) := Lib.hid (own_fr HO8.out ((Fr.refl (fun q => q = gs + 1 + 1) w8).setCell (p := ⟨gs + 1 + 1, 1, none⟩) (.inl rfl) _) (fun q hq e => by have := (HO8.out.lt _ hq).1; omega))
      have HP11 : Hid ((w8.setCell ⟨gs + 1 + 1, 1, none⟩ (.slice A8 (k + 1) c8)).ownsRow (gs + 3) 3 1 (.slice A9 (k + 1) c9) (k + 1) ((List.replicate (k + 1) (0 : Int)).flatMap inC)) := Lib.hid (own_fr HP8.out ((Fr.refl (fun q => q = gs + 1 + 1) w8).setCell (p := ⟨gs + 1 + 1, 1, none⟩) (.inl rfl) _) (fun q hq e => by have := (HP8.out.lt _ hq).1; omega))
      have HF11 : Hid (Fr (fun q => gs + 2 ≤ q) w1 (w8.setCell ⟨gs + 1 + 1, 1, none⟩ (.slice A8 (k + 1) c8))) := Lib.hid (HF8.out.setCell (p := ⟨gs + 1 + 1, 1, none⟩) (.inl (by simp)) _)
      go_roundw
      case rel => exact ⟨k + 1, _, _, by omega, by go_num, HX11, HP11, HO11, HF11⟩
      case measure => simp [intOf]; omega
    · have i0 : ¬ (k : Int) < (dn : Int) := by omega
      have hkd : k = dn := by omega
      subst hkd
      obtain ⟨A1, c1, rfl⟩ := own_form HO1.out
      obtain ⟨A2, c2, rfl⟩ := own_form HO2.out
      have x1 := HX.out.cell 1
      simp only [List.getElem?_toArray, List.getElem?_cons_zero, List.getElem?_cons_succ] at x1
      have HRW := Lib.hid (HR0.out.fr HF.out (by omega))
      go_wp2_with (refine stop_store 37 _ _ rfl ?_; refine wpList_store_fr rfl 37 _ _ rfl _ rfl rfl HRW.out (by kernel_rfl) rfl rfl ?_; intro w6 hm6 fr6)
      have r0 := hm6.cell 0; have r1 := hm6.cell 1
      simp only [List.getElem?_toArray, List.getElem?_cons_zero, List.getElem?_cons_succ] at r0 r1
      have hb6 : Below w.heap.size w w6 := fr6.bel (HF.out.bel HB0.out (fun q hq => by have := HGE.out; omega) HB0.out.size) (fun q e => by have := HGE.out; omega) (by have := HSZ.out; have := HGE.out; omega)
      have hs6 : StV (List.replicate k 0) (List.replicate k 0) (.agg #[.slice A1 k c1, .slice A2 k c2]) w6 := by
        have e1 : (List.replicate k (0 : Int)).length = k := List.length_replicate
        refine ⟨A1, c1, A2, c2, by rw [e1], ?_, ?_⟩
        · rw [e1]; exact SliceOf.of_own_s (own_fr HO1.out fr6 (fun q hq e => by have := (HO1.out.lt _ hq).1; omega)) in_len rfl e1
        · rw [e1]; exact SliceOf.of_own_s (own_fr HO2.out fr6 (fun q hq e => by have := (HO2.out.lt _ hq).1; omega)) in_len rfl e1
      refine bodyPost_ret (v := .agg #[.slice A1 k c1, .slice A2 k c2]) (by simp [results, Tryz.results17, go_sem, r0, r1]) rfl ?_
      exact ⟨_, rfl, hb6, hs6⟩
/-! two letters -/
theorem rlbuild (w : World) (a dl : ByteArray) (k dy : Int) : (Instr.build 57 #[(1, .string a), (3, .int .i64 k), (5, .string dl), (9, .int .i64 dy)]).run Tryz.prog w = .ok (.agg #[.string ⟨#[]⟩, .string a, .int .i64 0, .int .i64 k, .int .i64 0, .string dl, .string ⟨#[]⟩, .string ⟨#[]⟩, .int .i64 0, .int .i64 dy, .string ⟨#[]⟩, .int .i64 0, .slice none 0 0, .slice none 0 0]) w := run_build w _ _ _ (by kernel_rfl)
theorem rlslice2 (w : World) (a b dl : ByteArray) (k dy : Int) : (Instr.buildSlice 30 2 #[(0, .agg #[.string ⟨#[]⟩, .string a, .int .i64 0, .int .i64 k, .int .i64 0, .string dl, .string ⟨#[]⟩, .string ⟨#[]⟩, .int .i64 0, .int .i64 dy, .string ⟨#[]⟩, .int .i64 0, .slice none 0 0, .slice none 0 0]), (1, .agg #[.string ⟨#[]⟩, .string b, .int .i64 0, .int .i64 k, .int .i64 0, .string dl, .string ⟨#[]⟩, .string ⟨#[]⟩, .int .i64 0, .int .i64 dy, .string ⟨#[]⟩, .int .i64 0, .slice none 0 0, .slice none 0 0])]).run Tryz.prog w = .ok (.slice (some ⟨w.heap.size, 0, none⟩) 2 2) (w.alloc (.cells #[.string ⟨#[]⟩, .string a, .int .i64 0, .int .i64 k, .int .i64 0, .string dl, .string ⟨#[]⟩, .string ⟨#[]⟩, .int .i64 0, .int .i64 dy, .string ⟨#[]⟩, .int .i64 0, .slice none 0 0, .slice none 0 0, .string ⟨#[]⟩, .string b, .int .i64 0, .int .i64 k, .int .i64 0, .string dl, .string ⟨#[]⟩, .string ⟨#[]⟩, .int .i64 0, .int .i64 dy, .string ⟨#[]⟩, .int .i64 0, .slice none 0 0, .slice none 0 0] 57)) := by kernel_rfl
theorem rrel_any (d : Dl) (A : Option Addr) (nb c : Nat) (dy : Int) (w : World) :
    Calls Tryz.prog 35 #[.agg #[.string d.num, .string d.sel, .string d.buy, .string d.car, .string d.iss, .string d.hou, .string d.ins, .string d.fr, .string d.dst, .string d.cur, .int .i64 d.amt, .slice A nb c, .int .i64 d.term, .int .i64 d.lat, .int .i64 d.exp, .int .i64 d.ten, .int .i64 d.dut], .int .i64 dy] w fun e w' => ∃ v, e = .returned v ∧ Below w.heap.size w w' ∧ OlAt w' w.heap.size v d.num dy (freeL d) := by
  have HB0 := Lib.hid (one_alloc w (.cells #[.string d.num, .string d.sel, .string d.buy, .string d.car, .string d.iss, .string d.hou, .string d.ins, .string d.fr, .string d.dst, .string d.cur, .int .i64 d.amt, .slice A nb c, .int .i64 d.term, .int .i64 d.lat, .int .i64 d.exp, .int .i64 d.ten, .int .i64 d.dut] 53))
  have HK0 : Hid (Blk (w.alloc (.cells #[.string d.num, .string d.sel, .string d.buy, .string d.car, .string d.iss, .string d.hou, .string d.ins, .string d.fr, .string d.dst, .string d.cur, .int .i64 d.amt, .slice A nb c, .int .i64 d.term, .int .i64 d.lat, .int .i64 d.exp, .int .i64 d.ten, .int .i64 d.dut] 53)) w.heap.size 53 #[.string d.num, .string d.sel, .string d.buy, .string d.car, .string d.iss, .string d.hou, .string d.ins, .string d.fr, .string d.dst, .string d.cur, .int .i64 d.amt, .slice A nb c, .int .i64 d.term, .int .i64 d.lat, .int .i64 d.exp, .int .i64 d.ten, .int .i64 d.dut]) := Lib.hid (Blk.new _ _ _)
  go_enter Tryz.func35, Tryz.ntmps35
  go_upto_region 1 with (fail)
  obtain ⟨w1, hw1⟩ : ∃ W, w.alloc (.cells #[.string d.num, .string d.sel, .string d.buy, .string d.car, .string d.iss, .string d.hou, .string d.ins, .string d.fr, .string d.dst, .string d.cur, .int .i64 d.amt, .slice A nb c, .int .i64 d.term, .int .i64 d.lat, .int .i64 d.exp, .int .i64 d.ten, .int .i64 d.dut] 53) = W := ⟨_, rfl⟩
  obtain ⟨g, hg⟩ : ∃ g, w.heap.size = g := ⟨_, rfl⟩
  have HGE := Lib.hid hg
  rw [hw1] at HB0 HK0 ⊢
  rw [hg] at HK0
  simp only [hg]
  clear hw1 hg
  have d0 := HK0.out.cell 0; have d2 := HK0.out.cell 2; have d3 := HK0.out.cell 3
  simp only [List.getElem?_toArray, List.getElem?_cons_zero, List.getElem?_cons_succ] at d0 d2 d3
  have b1 := fun w a => rlbuild w a d.num 19 dy
  have b2 := fun w => rlslice2 w d.car d.buy d.num 19 dy
  have HO : Hid (OlAt (w1.alloc (.cells #[.string ⟨#[]⟩, .string d.car, .int .i64 0, .int .i64 19, .int .i64 0, .string d.num, .string ⟨#[]⟩, .string ⟨#[]⟩, .int .i64 0, .int .i64 dy, .string ⟨#[]⟩, .int .i64 0, .slice none 0 0, .slice none 0 0, .string ⟨#[]⟩, .string d.buy, .int .i64 0, .int .i64 19, .int .i64 0, .string d.num, .string ⟨#[]⟩, .string ⟨#[]⟩, .int .i64 0, .int .i64 dy, .string ⟨#[]⟩, .int .i64 0, .slice none 0 0, .slice none 0 0] 57)) w.heap.size (.slice (some ⟨w1.heap.size, 0, none⟩) 2 2) d.num dy (freeL d)) := Lib.hid (.inr (.inr ⟨_, _, _, rfl, rfl, HB0.out.size, Blk.new _ _ _, rfl, rfl⟩))
  have HB1 := Lib.hid (HB0.out.alloc HB0.out.size (.cells #[.string ⟨#[]⟩, .string d.car, .int .i64 0, .int .i64 19, .int .i64 0, .string d.num, .string ⟨#[]⟩, .string ⟨#[]⟩, .int .i64 0, .int .i64 dy, .string ⟨#[]⟩, .int .i64 0, .slice none 0 0, .slice none 0 0, .string ⟨#[]⟩, .string d.buy, .int .i64 0, .int .i64 19, .int .i64 0, .string d.num, .string ⟨#[]⟩, .string ⟨#[]⟩, .int .i64 0, .int .i64 dy, .string ⟨#[]⟩, .int .i64 0, .slice none 0 0, .slice none 0 0] 57))
  go_wp2_with fail
  go_ret
  exact ⟨_, rfl, HB1.out, HO.out⟩
/-! what is due -/
theorem rdue_any (d : Dl) (A : Option Addr) (nb c : Nat) (w : World) (ho : d.ok) :
    Calls Tryz.prog 31 #[.agg #[.string d.num, .string d.sel, .string d.buy, .string d.car, .string d.iss, .string d.hou, .string d.ins, .string d.fr, .string d.dst, .string d.cur, .int .i64 d.amt, .slice A nb c, .int .i64 d.term, .int .i64 d.lat, .int .i64 d.exp, .int .i64 d.ten, .int .i64 d.dut]] w fun e w' => e = .returned (.int .i64 (dueV d)) ∧ Below w.heap.size w w' := by
  have HB0 := Lib.hid (one_alloc w (.cells #[.string d.num, .string d.sel, .string d.buy, .string d.car, .string d.iss, .string d.hou, .string d.ins, .string d.fr, .string d.dst, .string d.cur, .int .i64 d.amt, .slice A nb c, .int .i64 d.term, .int .i64 d.lat, .int .i64 d.exp, .int .i64 d.ten, .int .i64 d.dut] 53))
  have HK0 : Hid (Blk (w.alloc (.cells #[.string d.num, .string d.sel, .string d.buy, .string d.car, .string d.iss, .string d.hou, .string d.ins, .string d.fr, .string d.dst, .string d.cur, .int .i64 d.amt, .slice A nb c, .int .i64 d.term, .int .i64 d.lat, .int .i64 d.exp, .int .i64 d.ten, .int .i64 d.dut] 53)) w.heap.size 53 #[.string d.num, .string d.sel, .string d.buy, .string d.car, .string d.iss, .string d.hou, .string d.ins, .string d.fr, .string d.dst, .string d.cur, .int .i64 d.amt, .slice A nb c, .int .i64 d.term, .int .i64 d.lat, .int .i64 d.exp, .int .i64 d.ten, .int .i64 d.dut]) := Lib.hid (Blk.new _ _ _)
  obtain ⟨r, hr⟩ : ∃ r, scaleV ⟨d.cur, d.amt⟩ (max d.dut 0) 1000 1 = r := ⟨_, rfl⟩
  have HSC : Hid (∀ W, Calls Tryz.prog 32 #[.agg #[.string d.cur, .int .i64 d.amt], .agg #[.int .i64 (max d.dut 0), .int .i64 1000], .int .i64 1] W fun e w' => e = .returned (.tuple #[.agg #[.string r.1.cur, .int .i64 r.1.amt], .bool r.2]) ∧ Below W.heap.size W w') := Lib.hid (fun W => by
    have := rscale1 ⟨d.cur, d.amt⟩ (max d.dut 0) 1000 W ho.cur ⟨by have := ho.dut.1; omega, by have := ho.dut.2; omega⟩ ⟨by omega, by omega⟩
    rw [hr] at this
    exact this)
  have HV : Hid (dueV d = if r.2 = true ∧ 0 ≤ r.1.amt then r.1.amt else 0) := Lib.hid (by unfold dueV; rw [hr])
  clear ho hr
  go_enter Tryz.func31, Tryz.ntmps31
  go_upto_region 1 with (fail)
  obtain ⟨w1, hw1⟩ : ∃ W, w.alloc (.cells #[.string d.num, .string d.sel, .string d.buy, .string d.car, .string d.iss, .string d.hou, .string d.ins, .string d.fr, .string d.dst, .string d.cur, .int .i64 d.amt, .slice A nb c, .int .i64 d.term, .int .i64 d.lat, .int .i64 d.exp, .int .i64 d.ten, .int .i64 d.dut] 53) = W := ⟨_, rfl⟩
  obtain ⟨g, hg⟩ : ∃ g, w.heap.size = g := ⟨_, rfl⟩
  have HGE := Lib.hid hg
  rw [hw1] at HB0 HK0 ⊢
  rw [hg] at HK0
  simp only [hg]
  clear hw1 hg
  have c9 := HK0.out.cell 9; have c10 := HK0.out.cell 10; have c16 := HK0.out.cell 16
  simp only [List.getElem?_toArray, List.getElem?_cons_zero, List.getElem?_cons_succ] at c9 c10 c16
  by_cases hneg : d.dut < 0
  · have e0 : max d.dut 0 = 0 := by omega
    rw [e0] at HSC
    have hrb := fun w => rbuild w 0 1000
    clear e0
    go_wp2_with fail
    refine (HSC.out _).mono ?_
    rintro e w4 ⟨rfl, hb4⟩
    have HB5 := Lib.hid ((HB0.out.trans (hb4.mono HB0.out.size)).alloc (Nat.le_trans HB0.out.size hb4.size) (.cells #[.string r.1.cur, .int .i64 r.1.amt] 50))
    have HM5 : Hid (Blk (w4.alloc (.cells #[.string r.1.cur, .int .i64 r.1.amt] 50)) w4.heap.size 50 #[.string r.1.cur, .int .i64 r.1.amt]) := Lib.hid (Blk.new _ _ _)
    clear hb4 c9 c10 c16 hrb
    go_upto_region 5 with ((refine stop_store 50 _ _ rfl ?_; refine wpList_store_new rfl 50 _ _ rfl _ rfl rfl (by kernel_rfl) rfl rfl ?_))
    obtain ⟨w5, hw5⟩ : ∃ W, w4.alloc (.cells #[.string r.1.cur, .int .i64 r.1.amt] 50) = W := ⟨_, rfl⟩
    obtain ⟨g5, hg5⟩ : ∃ g, w4.heap.size = g := ⟨_, rfl⟩
    rw [hw5] at HB5 HM5
    change Code.wp _ _ _ _ (w4.alloc (.cells #[.string r.1.cur, .int .i64 r.1.amt] 50))
    rw [hw5]
    rw [hg5] at HM5
    simp only [hg5]
    clear hw5 hg5
    have m1 := HM5.out.cell 1
    simp only [List.getElem?_toArray, List.getElem?_cons_zero, List.getElem?_cons_succ] at m1
    cases hr2 : r.2
    · have HV2 := HV.out
      rw [hr2] at HV2
      simp only [Bool.false_eq_true, false_and, if_false] at HV2
      have HV3 := Lib.hid HV2
      clear HV2
      go_wp2_with fail
      go_ret
      exact ⟨by rw [HV3.out]; rfl, HB5.out⟩
    · have HV2 := HV.out
      rw [hr2] at HV2
      by_cases h0 : 0 ≤ r.1.amt
      · rw [if_pos ⟨rfl, h0⟩] at HV2
        have HV3 := Lib.hid HV2
        have h1 : ¬ r.1.amt < 0 := by omega
        clear HV2
        go_wp2_with fail
        go_ret
        exact ⟨by rw [HV3.out]; rfl, HB5.out⟩
      · rw [if_neg (fun h => h0 h.2)] at HV2
        have HV3 := Lib.hid HV2
        have h1 : r.1.amt < 0 := by omega
        clear HV2 h0
        go_wp2_with fail
        go_ret
        exact ⟨by rw [HV3.out]; rfl, HB5.out⟩
  · have e0 : max d.dut 0 = d.dut := by omega
    rw [e0] at HSC
    have hrb := fun w => rbuild w d.dut 1000
    clear e0
    go_wp2_with fail
    refine (HSC.out _).mono ?_
    rintro e w4 ⟨rfl, hb4⟩
    have HB5 := Lib.hid ((HB0.out.trans (hb4.mono HB0.out.size)).alloc (Nat.le_trans HB0.out.size hb4.size) (.cells #[.string r.1.cur, .int .i64 r.1.amt] 50))
    have HM5 : Hid (Blk (w4.alloc (.cells #[.string r.1.cur, .int .i64 r.1.amt] 50)) w4.heap.size 50 #[.string r.1.cur, .int .i64 r.1.amt]) := Lib.hid (Blk.new _ _ _)
    clear hb4 c9 c10 c16 hrb
    go_upto_region 5 with ((refine stop_store 50 _ _ rfl ?_; refine wpList_store_new rfl 50 _ _ rfl _ rfl rfl (by kernel_rfl) rfl rfl ?_))
    obtain ⟨w5, hw5⟩ : ∃ W, w4.alloc (.cells #[.string r.1.cur, .int .i64 r.1.amt] 50) = W := ⟨_, rfl⟩
    obtain ⟨g5, hg5⟩ : ∃ g, w4.heap.size = g := ⟨_, rfl⟩
    rw [hw5] at HB5 HM5
    change Code.wp _ _ _ _ (w4.alloc (.cells #[.string r.1.cur, .int .i64 r.1.amt] 50))
    rw [hw5]
    rw [hg5] at HM5
    simp only [hg5]
    clear hw5 hg5
    have m1 := HM5.out.cell 1
    simp only [List.getElem?_toArray, List.getElem?_cons_zero, List.getElem?_cons_succ] at m1
    cases hr2 : r.2
    · have HV2 := HV.out
      rw [hr2] at HV2
      simp only [Bool.false_eq_true, false_and, if_false] at HV2
      have HV3 := Lib.hid HV2
      clear HV2
      go_wp2_with fail
      go_ret
      exact ⟨by rw [HV3.out]; rfl, HB5.out⟩
    · have HV2 := HV.out
      rw [hr2] at HV2
      by_cases h0 : 0 ≤ r.1.amt
      · rw [if_pos ⟨rfl, h0⟩] at HV2
        have HV3 := Lib.hid HV2
        have h1 : ¬ r.1.amt < 0 := by omega
        clear HV2
        go_wp2_with fail
        go_ret
        exact ⟨by rw [HV3.out]; rfl, HB5.out⟩
      · rw [if_neg (fun h => h0 h.2)] at HV2
        have HV3 := Lib.hid HV2
        have h1 : r.1.amt < 0 := by omega
        clear HV2 h0
        go_wp2_with fail
        go_ret
        exact ⟨by rw [HV3.out]; rfl, HB5.out⟩
end Go.Proofs.YtdanjegnhdpnlaaGreatDoor.kit
