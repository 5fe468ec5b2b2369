/- netting.netted of two debts against one another. No condition. -/
import Derived.Test.YtlicmhgpldmliaaNtO
import Derived.Deep.DeepCutAuto
namespace Go.Proofs.Ytlicmhgpldmliaa.kit
open Go.RowKit Go.PlainAid Go.ChangeMaps
set_option linter.unusedVariables false
set_option maxRecDepth 100000 in
set_option maxHeartbeats 3200000 in
/-- The first loop: each debt is laid into the map. -/
theorem netted_any (g off c : Nat) (w : World) (hx : SliceOf w 4 dbC (some ⟨g, off, none⟩) 2 [dA, dB]) :
    Calls Try.prog 63 #[.slice (some ⟨g, off, none⟩) 2 c] w fun e w' => ∃ b, e = .returned (.tuple #[.map (some b), .int .i64 0]) ∧ MapAt w' b m5 2 ∧ w.heap.size ≤ b ∧ Below w.heap.size w w' := by
  have H := Lib.hid hx
  have HC := Lib.hid (mayAll_ok (some ⟨g, off, none⟩) 2 c [dA, dB] w hx (by omega) (fun x hx => by
    simp only [List.mem_cons, List.not_mem_nil, or_false] at hx
    rcases hx with rfl | rfl
    · exact dA_ok
    · exact dB_ok))
  clear hx
  have hmk : ∀ W : World, (Instr.makeMap 146 none).run Try.prog W = .ok (.map (some W.heap.size)) (W.alloc (.map #[] 0)) := fun W => by kernel_rfl
  go_enter Try.func63, Try.ntmps63
  go_wp2_with fail
  refine HC.out.mono ?_
  rintro e w1 ⟨rfl, hb1⟩
  obtain ⟨b, hbb⟩ : ∃ b, w1.heap.size = b := ⟨_, rfl⟩
  have hM1 : MapAt (w1.alloc (.map #[] 0)) b #[] 0 := by rw [← hbb]; exact heap_alloc_new w1 _
  have hB1 : Below w.heap.size w (w1.alloc (.map #[] 0)) := hb1.alloc hb1.size _
  have hwb : w.heap.size ≤ b := by rw [← hbb]; exact hb1.size
  have HM1 := Lib.hid hM1
  have HB1 := Lib.hid hB1
  have HMK := hmk w1
  rw [hbb] at HMK
  clear hM1 hB1 hb1 hbb HC hmk
  go_wp2_with fail
  go_loopw [21] (fun i wr => ∃ k : Nat, k ≤ 2 ∧ i = .int .i64 k ∧ Hid (MapAt wr b (st1 k).1 (st1 k).2) ∧ Hid (Below w.heap.size w wr)) (fun i _ => 2 - (intOf i).toNat)
  case atStart => exact ⟨0, by omega, rfl, HM1, HB1⟩
  case round =>
    obtain ⟨k, hk, rfl, hM, hbw⟩ := hrel
    by_cases hlt : k < 2
    · obtain ⟨b', off', x, hA, hxk, a0, a1, a2, a3⟩ := get_db (H.out.below hbw.out) hlt
      injection hA with hA
      injection hA with hA1 hA2
      subst hA1 hA2
      obtain ⟨esB, ckB, st, had, hck⟩ := adds_k hlt hxk
      have ham := db_amt hxk
      obtain ⟨f, t, cu, n⟩ := x
      have HAD := Lib.hid had
      dsimp only [keyD] at HAD a0 a1 a2 a3 ham
      rw [hck] at HAD
      obtain ⟨esA, hesA⟩ : ∃ e, (st1 k).1 = e := ⟨_, rfl⟩
      obtain ⟨ckA, hckA⟩ : ∃ e, (st1 k).2 = e := ⟨_, rfl⟩
      rw [hesA, hckA] at HAD hM
      have i0 : (k : Int) < 2 := by omega
      have hlt' := hbw.out.size
      have hwn : IntKind.i64.wrap n = n := IntWalk.i64_in _ (by omega)
      clear had hck hesA hckA hxk
      go_wp2_with ((refine stop_store 118 _ _ rfl ?_; refine wpList_store_new rfl 118 _ _ rfl _ rfl rfl (by kernel_rfl) rfl rfl ?_))
      obtain ⟨g6, hg6⟩ : ∃ g, wr.heap.size = g := ⟨_, rfl⟩
      have hgb : g6 ≠ b := by have := hM.out.lt; omega
      have HG6 : Hid (Blk (wr.alloc (.cells #[.string f, .string t, .string cu, .int .i64 n] 118)) g6 118 #[.string f, .string t, .string cu, .int .i64 n]) := Lib.hid (by rw [← hg6]; exact Blk.new _ _ _)
      have HM6 := Lib.hid (hM.out.alloc (.cells #[.string f, .string t, .string cu, .int .i64 n] 118))
      have HB6 := Lib.hid (hbw.out.alloc hbw.out.size (.cells #[.string f, .string t, .string cu, .int .i64 n] 118))
      have hs6 : w.heap.size ≤ (wr.alloc (.cells #[.string f, .string t, .string cu, .int .i64 n] 118)).heap.size := HB6.out.size
      rw [hg6]
      clear hg6 hlt'

      refine wp_region_book2 (fun done vs W => Cst [(0, .map (some b)), (1, (.pointer (some ⟨g6, 2, none⟩))), (2, .string cu), (3, (.pointer (some ⟨g6, 0, none⟩))), (4, .string f), (5, (.pointer (some ⟨g6, 1, none⟩))), (6, .string t), (7, .agg #[.string cu, .string f, .string t]), (8, .int .i64 0), (9, (.pointer (some ⟨g6, 3, none⟩))), (10, .int .i64 n), (11, .int .i64 n), (12, .tuple #[.int .i64 0, .int .i64 st]), (13, .int .i64 st)] done vs ∧ Chain [(13, 12), (11, 8), (14, 8), (14, 12)] done ∧ RJ w W w.heap.size b g6 118 #[.string f, .string t, .string cu, .int .i64 n] esA ckA esB (st1 (k + 1)).2 (st1 (k + 1)).1 (done 12) (done 14)) (by kernel_rfl) (by kernel_rfl) ?_ ?_ ?_
      · exact ⟨Cst.none_ _ _, Chain.none_ _, ⟨HB6.out.drew, hs6, HG6.out.drew, fun _ => HM6.out.drew, fun h => (by cases h), fun h => (by cases h)⟩⟩
      · refine ⟨?_, ?_, ?_, ?_, ?_, ?_, ?_, ?_, ?_, ?_, ?_, ?_, ?_, ?_, ?_, trivial⟩
        all_goals intro done vs ac W1 hnd hdep hJ hE hsz
        all_goals simp [Region.binds] at hdep
        · have e4 : ac.eval (.tmp 4) = .map (some b) := (hE 4 (by simp)).trans (by simp [evF, Act.eval])
          exact wp_value (.map (some b)) (by unfold execOp; simp only [e4]; rfl) ⟨_, rfl, ⟨hJ.1.up 0 (.map (some b)) (by simp), hJ.2.1.up 0 (by simp), hJ.2.2⟩⟩
        · have e6 : ac.eval (.tmp 6) = (.pointer (some ⟨g6, 0, none⟩)) := (hE 6 (by simp)).trans (by simp [evF, Act.eval])
          exact wp_value ((.pointer (some ⟨g6, 2, none⟩))) (by unfold execOp; simp only [e6]; kernel_rfl) ⟨_, rfl, ⟨hJ.1.up 1 ((.pointer (some ⟨g6, 2, none⟩))) (by simp), hJ.2.1.up 1 (by simp), hJ.2.2⟩⟩
        · have e26 : ac.eval (.tmp 26) = (.pointer (some ⟨g6, 2, none⟩)) := (hE 26 (by simp)).trans (by simp [evF, hdep, hJ.1 (1, (.pointer (some ⟨g6, 2, none⟩))) (by simp) (by simp [hdep])])
          have hc : W1.cell? ⟨g6, 2, none⟩ = some (.string cu) := hJ.2.2.gk.cell 2
          exact wp_value (.string cu) (by unfold execOp; simp only [e26]; go_simp) ⟨_, rfl, ⟨hJ.1.up 2 (.string cu) (by simp), hJ.2.1.up 2 (by simp), hJ.2.2⟩⟩
        · have e6 : ac.eval (.tmp 6) = (.pointer (some ⟨g6, 0, none⟩)) := (hE 6 (by simp)).trans (by simp [evF, Act.eval])
          exact wp_value ((.pointer (some ⟨g6, 0, none⟩))) (by unfold execOp; simp only [e6]; kernel_rfl) ⟨_, rfl, ⟨hJ.1.up 3 ((.pointer (some ⟨g6, 0, none⟩))) (by simp), hJ.2.1.up 3 (by simp), hJ.2.2⟩⟩
        · have e28 : ac.eval (.tmp 28) = (.pointer (some ⟨g6, 0, none⟩)) := (hE 28 (by simp)).trans (by simp [evF, hdep, hJ.1 (3, (.pointer (some ⟨g6, 0, none⟩))) (by simp) (by simp [hdep])])
          have hc : W1.cell? ⟨g6, 0, none⟩ = some (.string f) := hJ.2.2.gk.cell 0
          exact wp_value (.string f) (by unfold execOp; simp only [e28]; go_simp) ⟨_, rfl, ⟨hJ.1.up 4 (.string f) (by simp), hJ.2.1.up 4 (by simp), hJ.2.2⟩⟩
        · have e6 : ac.eval (.tmp 6) = (.pointer (some ⟨g6, 0, none⟩)) := (hE 6 (by simp)).trans (by simp [evF, Act.eval])
          exact wp_value ((.pointer (some ⟨g6, 1, none⟩))) (by unfold execOp; simp only [e6]; kernel_rfl) ⟨_, rfl, ⟨hJ.1.up 5 ((.pointer (some ⟨g6, 1, none⟩))) (by simp), hJ.2.1.up 5 (by simp), hJ.2.2⟩⟩
        · have e30 : ac.eval (.tmp 30) = (.pointer (some ⟨g6, 1, none⟩)) := (hE 30 (by simp)).trans (by simp [evF, hdep, hJ.1 (5, (.pointer (some ⟨g6, 1, none⟩))) (by simp) (by simp [hdep])])
          have hc : W1.cell? ⟨g6, 1, none⟩ = some (.string t) := hJ.2.2.gk.cell 1
          exact wp_value (.string t) (by unfold execOp; simp only [e30]; go_simp) ⟨_, rfl, ⟨hJ.1.up 6 (.string t) (by simp), hJ.2.1.up 6 (by simp), hJ.2.2⟩⟩
        · have e27 : ac.eval (.tmp 27) = .string cu := (hE 27 (by simp)).trans (by simp [evF, hdep, hJ.1 (2, .string cu) (by simp) (by simp [hdep])])
          have e29 : ac.eval (.tmp 29) = .string f := (hE 29 (by simp)).trans (by simp [evF, hdep, hJ.1 (4, .string f) (by simp) (by simp [hdep])])
          have e31 : ac.eval (.tmp 31) = .string t := (hE 31 (by simp)).trans (by simp [evF, hdep, hJ.1 (6, .string t) (by simp) (by simp [hdep])])
          exact wp_value (.agg #[.string cu, .string f, .string t]) (by unfold execOp; simp [e27, e29, e31]; kernel_rfl) ⟨_, rfl, ⟨hJ.1.up 7 (.agg #[.string cu, .string f, .string t]) (by simp), hJ.2.1.up 7 (by simp), hJ.2.2⟩⟩
        · have e25 : ac.eval (.tmp 25) = .map (some b) := (hE 25 (by simp)).trans (by simp [evF, hdep, hJ.1 (0, .map (some b)) (by simp) (by simp [hdep])])
          have e32 : ac.eval (.tmp 32) = .agg #[.string cu, .string f, .string t] := (hE 32 (by simp)).trans (by simp [evF, hdep, hJ.1 (7, .agg #[.string cu, .string f, .string t]) (by simp) (by simp [hdep])])
          have hl : (Instr.lookup 146 (.map (some b)) (.agg #[.string cu, .string f, .string t]) false).run Try.prog W1 = .ok (.int .i64 0) W1 := by
            cases h14 : done 14
            · cases h12 : done 12
              · exact HAD.out.l0 (hJ.2.2.m0 h12)
              · exact HAD.out.l1 (hJ.2.2.m1 h12 h14)
            · have := hJ.2.1 (14, 8) (by simp) h14
              rw [hnd] at this; cases this
          exact wp_value (.int .i64 0) (by unfold execOp; simp [e25, e32, hl, Result.andThen]) ⟨_, rfl, ⟨hJ.1.up 8 (.int .i64 0) (by simp), hJ.2.1.up 8 (by simp), hJ.2.2⟩⟩
        · have e6 : ac.eval (.tmp 6) = (.pointer (some ⟨g6, 0, none⟩)) := (hE 6 (by simp)).trans (by simp [evF, Act.eval])
          exact wp_value ((.pointer (some ⟨g6, 3, none⟩))) (by unfold execOp; simp only [e6]; kernel_rfl) ⟨_, rfl, ⟨hJ.1.up 9 ((.pointer (some ⟨g6, 3, none⟩))) (by simp), hJ.2.1.up 9 (by simp), hJ.2.2⟩⟩
        · have e34 : ac.eval (.tmp 34) = (.pointer (some ⟨g6, 3, none⟩)) := (hE 34 (by simp)).trans (by simp [evF, hdep, hJ.1 (9, (.pointer (some ⟨g6, 3, none⟩))) (by simp) (by simp [hdep])])
          have hc : W1.cell? ⟨g6, 3, none⟩ = some (.int .i64 n) := hJ.2.2.gk.cell 3
          exact wp_value (.int .i64 n) (by unfold execOp; simp only [e34]; go_simp) ⟨_, rfl, ⟨hJ.1.up 10 (.int .i64 n) (by simp), hJ.2.1.up 10 (by simp), hJ.2.2⟩⟩
        · have e33 : ac.eval (.tmp 33) = .int .i64 0 := (hE 33 (by simp)).trans (by simp [evF, hdep, hJ.1 (8, .int .i64 0) (by simp) (by simp [hdep])])
          have e35 : ac.eval (.tmp 35) = .int .i64 n := (hE 35 (by simp)).trans (by simp [evF, hdep, hJ.1 (10, .int .i64 n) (by simp) (by simp [hdep])])
          exact wp_value (.int .i64 n) (by unfold execOp; simp only [e33, e35]; go_simp) ⟨_, rfl, ⟨hJ.1.up 11 (.int .i64 n) (by simp), hJ.2.1.up 11 (by simp [hdep]), hJ.2.2⟩⟩
        · have e25 : ac.eval (.tmp 25) = .map (some b) := (hE 25 (by simp)).trans (by simp [evF, hdep, hJ.1 (0, .map (some b)) (by simp) (by simp [hdep])])
          have e32 : ac.eval (.tmp 32) = .agg #[.string cu, .string f, .string t] := (hE 32 (by simp)).trans (by simp [evF, hdep, hJ.1 (7, .agg #[.string cu, .string f, .string t]) (by simp) (by simp [hdep])])
          have h14 : done 14 = false := by
            cases h : done 14
            · rfl
            · have := hJ.2.1 (14, 12) (by simp) h
              rw [hnd] at this; cases this
          obtain ⟨w9, hr, ht⟩ := HAD.out.e (hJ.2.2.m0 hnd)
          have h2 := hJ.2.2
          rw [hnd, h14] at h2
          refine wp_val (w' := w9) (.tuple #[.int .i64 0, .int .i64 st]) (by unfold execOp; simp [e25, e32, hr, Result.andThen]) ⟨_, rfl, ⟨hJ.1.up 12 _ (by simp), hJ.2.1.up 12 (by simp), ?_⟩⟩
          show RJ _ _ _ _ _ _ _ _ _ _ _ _ true (done 14)
          rw [h14]
          exact h2.ent ht hwb hgb
        · have e37 : ac.eval (.tmp 37) = .tuple #[.int .i64 0, .int .i64 st] := (hE 37 (by simp)).trans (by simp [evF, hdep, hJ.1 (12, .tuple #[.int .i64 0, .int .i64 st]) (by simp) (by simp [hdep])])
          exact wp_value (.int .i64 st) (by unfold execOp; simp only [e37]; kernel_rfl) ⟨_, rfl, ⟨hJ.1.up 13 (.int .i64 st) (by simp), hJ.2.1.up 13 (by simp [hdep]), hJ.2.2⟩⟩
        · have e25 : ac.eval (.tmp 25) = .map (some b) := (hE 25 (by simp)).trans (by simp [evF, hdep, hJ.1 (0, .map (some b)) (by simp) (by simp [hdep])])
          have e38 : ac.eval (.tmp 38) = .int .i64 st := (hE 38 (by simp)).trans (by simp [evF, hdep, hJ.1 (13, .int .i64 st) (by simp) (by simp [hdep])])
          have e36 : ac.eval (.tmp 36) = .int .i64 n := (hE 36 (by simp)).trans (by simp [evF, hdep, hJ.1 (11, .int .i64 n) (by simp) (by simp [hdep])])
          have c8 := hJ.2.1 (11, 8) (by simp) (by simp [hdep])
          have c12 := hJ.2.1 (13, 12) (by simp) (by simp [hdep])
          obtain ⟨w9, hr, ht⟩ := HAD.out.s (hJ.2.2.m1 c12 hnd)
          have h2 := hJ.2.2
          rw [hnd, c12] at h2
          refine wp_skip (w' := w9) (by unfold execOp; simp [e25, e38, e36, hr, Result.andThen]) ⟨_, rfl, ⟨hJ.1.up 14 _ (by simp), hJ.2.1.up 14 (by simp [c8, c12]), ?_⟩⟩
          show RJ _ _ _ _ _ _ _ _ _ _ _ _ (done 12) true
          rw [c12]
          exact h2.sto ht hwb hgb
      · intro done vs W hall hJ
        have h2 := hJ.2.2
        have HM9 := Lib.hid (h2.m2 (hall 14 (by simp)))
        have HB9 := Lib.hid h2.bw
        simp only [fillA, Act.put, List.setIfInBounds_toArray, List.set_cons_zero, List.set_cons_succ, if_true]
        clear hJ hall h2
        go_wp2_with fail
        exact ⟨⟨k + 1, by omega, by go_num, HM9, HB9⟩, by simp [intOf]; omega⟩
    · have hk2 : k = 2 := by omega
      subst hk2
      have hM2 : MapAt wr b m2 2 := hM.out
      have hrg := run_range_map wr 146 166 2 b m2 2 Try.underlying146 hM2
      have hI2 : IterAt (wr.alloc (.mapIter (some b) 2 #[] 2)) wr.heap.size b 2 #[] 2 := heap_alloc_new wr _
      have HMa := Lib.hid (hM2.alloc (.mapIter (some b) 2 #[] 2))
      have HBa := Lib.hid (hbw.out.alloc hbw.out.size (.mapIter (some b) 2 #[] 2))
      have hrw := hbw.out.size
      have hlb := hM2.lt
      obtain ⟨r, hr⟩ : ∃ r, wr.heap.size = r := ⟨_, rfl⟩
      rw [hr] at hrg hI2
      have hrb : r ≠ b := by omega
      have hwr : w.heap.size ≤ r := by omega
      have HIa := Lib.hid hI2
      clear hI2 hr hM hbw hM2 hrw hlb
      go_wp2_with (at_range; refine wpList_range rfl _ _ rfl _ _ rfl hrg ?_)
      go_frame
      go_loopw [8] (fun _ wr => ∃ es seen, LoopSt es seen ∧ Hid (MapAt wr b es 2) ∧ Hid (IterAt wr r b 2 seen 2) ∧ Hid (Below w.heap.size w wr)) (fun _ wr => wr.rangeLeft b r)
      case atStart => exact ⟨m2, #[], .inl ⟨rfl, rfl⟩, HMa, HIa, HBa⟩
      case round =>
        clear HMa HIa HBa hrg
        obtain ⟨es, seen, hst, hqm, hqi, hqb⟩ := hrel
        have hms := left_of hqm.out hqi.out
        have hnx := next_step 0 hqi.out hqm.out (loop_old hst).1 (Nat.le_refl _) hrb (loop_old hst).2
        rcases hst with ⟨rfl, rfl⟩ | ⟨rfl, rfl⟩ | ⟨rfl, rfl⟩ | ⟨rfl, rfl⟩
        · rcases hnx with ⟨h0, _⟩ | ⟨e, he, w2, hrun, hit, hen⟩
          · rw [left_m2] at h0; cases h0
          · obtain ⟨f, t, v, v', st, st', eM, sn, hd, hk1, hv1, hb1, hls, hlf⟩ := first_key he
            rw [hk1, hv1] at hrun hen
            rw [hb1] at hit
            rcases hd.vv with ⟨rfl, rfl⟩ | ⟨rfl, rfl⟩
            · have hms2 := Lib.hid (hms.trans (show _ = 2 by rw [left_m2]; rfl))
              have HD := Lib.hid hd
              clear hms hd hk1 hv1 hb1
              have hqs := hqb.out.size
              have HM2 := Lib.hid (hqm.out.kept hit.grown (fun e => by injection e with e; exact hrb e.symm))
              have HI2 := Lib.hid hit.at_
              have HB2 := Lib.hid (hit.bel hqb.out hqs hwr)
              clear hqm hqi hqb hqs
              go_upto_region 12 with (first | (at_next; refine wpList_next rfl _ rfl _ _ rfl 0 hrun ?_) | ((refine stop_store 166 _ _ rfl ?_; refine wpList_store_new rfl 166 _ _ rfl _ rfl rfl (by kernel_rfl) rfl rfl ?_)))
              have hx7 := Blk.new w2 166 #[.string ⟨#[85, 83, 68]⟩, .string f, .string t]
              have HMx := Lib.hid (HM2.out.alloc (.cells #[.string ⟨#[85, 83, 68]⟩, .string f, .string t] 166))
              have HIx := Lib.hid (HI2.out.alloc (.cells #[.string ⟨#[85, 83, 68]⟩, .string f, .string t] 166))
              have HBx := Lib.hid (HB2.out.alloc HB2.out.size (.cells #[.string ⟨#[85, 83, 68]⟩, .string f, .string t] 166))
              obtain ⟨g7, hg7⟩ : ∃ g, w2.heap.size = g := ⟨_, rfl⟩
              obtain ⟨wx, hwx⟩ : ∃ W, w2.alloc (.cells #[.string ⟨#[85, 83, 68]⟩, .string f, .string t] 166) = W := ⟨_, rfl⟩
              rw [hwx] at hx7 HMx HIx HBx ⊢
              rw [hg7] at hx7 ⊢
              clear hwx hg7 HM2 HI2 HB2 hrun hen hit he
              have z0 := hx7.cell 0; have z1 := hx7.cell 1; have z2 := hx7.cell 2
              simp only [List.getElem?_toArray, List.getElem?_cons_zero, List.getElem?_cons_succ] at z0 z1 z2
              go_upto_region 13 with ((refine stop_store 166 _ _ rfl ?_; refine wpList_store_new rfl 166 _ _ rfl _ rfl rfl (by kernel_rfl) rfl rfl ?_))
              have hx9 := Blk.new wx 166 #[.string ⟨#[85, 83, 68]⟩, .string t, .string f]
              have hx7b := hx7.alloc (.cells #[.string ⟨#[85, 83, 68]⟩, .string t, .string f] 166)
              have HMy := Lib.hid (HMx.out.alloc (.cells #[.string ⟨#[85, 83, 68]⟩, .string t, .string f] 166))
              have HIy := Lib.hid (HIx.out.alloc (.cells #[.string ⟨#[85, 83, 68]⟩, .string t, .string f] 166))
              have HBy := Lib.hid (HBx.out.alloc HBx.out.size (.cells #[.string ⟨#[85, 83, 68]⟩, .string t, .string f] 166))
              obtain ⟨g9, hg9⟩ : ∃ g, wx.heap.size = g := ⟨_, rfl⟩
              obtain ⟨wy, hwy⟩ : ∃ W, wx.alloc (.cells #[.string ⟨#[85, 83, 68]⟩, .string t, .string f] 166) = W := ⟨_, rfl⟩
              rw [hwy] at hx9 hx7b HMy HIy HBy ⊢
              rw [hg9] at hx9 ⊢
              clear hwy hg9 HMx HIx HBx z0 z1 z2 hx7
              have z0 := hx7b.cell 0; have z1 := hx7b.cell 1; have z2 := hx7b.cell 2; have y0 := hx9.cell 0; have y1 := hx9.cell 1; have y2 := hx9.cell 2
              simp only [List.getElem?_toArray, List.getElem?_cons_zero, List.getElem?_cons_succ] at z0 z1 z2 y0 y1 y2
              clear hx7b hx9
              have hlk := HD.out.back HMy.out
              go_wp2_with fail
              go_loopw [64] (fun i wr => ∃ j : Nat, j ≤ 2 ∧ i = .int .i64 j ∧ Hid (MapAt wr b (st3 eM j) 2) ∧ Hid (IterAt wr r b 2 #[sn] 2) ∧ Hid (Below w.heap.size w wr)) (fun i _ => 2 - (intOf i).toNat)
              case atStart => exact ⟨0, by omega, rfl, HMy, HIy, HBy⟩
              case round =>
                clear HMy HIy HBy hlk z0 z1 z2 y0 y1 y2
                obtain ⟨j, hj, rfl, hzm, hzi, hzb⟩ := hrel
                by_cases hj2 : j < 2
                · obtain ⟨f', t', u, s, eC, hsu, hix⟩ := duo_k HD.out hj2
                  have hu35 := hsu.b
                  have hsub := Lib.hid hsu
                  obtain ⟨esA, hesA⟩ : ∃ e, st3 eM j = e := ⟨_, rfl⟩
                  rw [hesA] at hsub hzm
                  have hixw := hix wr
                  have j0 : (j : Int) < 2 := by omega
                  have hw3 : IntKind.i64.wrap (u - 3) = u - 3 := IntWalk.i64_in _ (by omega)
                  have hzl := hzm.out.lt
                  clear hsu hix hesA
                  go_upto_region 18 with ((refine stop_store 166 _ _ rfl ?_; refine wpList_store_new rfl 166 _ _ rfl _ rfl rfl (by kernel_rfl) rfl rfl ?_))
                  try go_frame
                  have HK12 : Hid (Blk (wr.alloc (.cells #[.string ⟨#[85, 83, 68]⟩, .string f', .string t'] 166)) wr.heap.size 166 #[.string ⟨#[85, 83, 68]⟩, .string f', .string t']) := Lib.hid (Blk.new _ _ _)
                  have HM12 := Lib.hid (hzm.out.alloc (.cells #[.string ⟨#[85, 83, 68]⟩, .string f', .string t'] 166))
                  have HI12 := Lib.hid (hzi.out.alloc (.cells #[.string ⟨#[85, 83, 68]⟩, .string f', .string t'] 166))
                  have HB12 := Lib.hid (hzb.out.alloc hzb.out.size (.cells #[.string ⟨#[85, 83, 68]⟩, .string f', .string t'] 166))
                  have hs12 : w.heap.size ≤ (wr.alloc (.cells #[.string ⟨#[85, 83, 68]⟩, .string f', .string t'] 166)).heap.size := HB12.out.size
                  obtain ⟨g12, hg12⟩ : ∃ g, wr.heap.size = g := ⟨_, rfl⟩
                  rw [hg12] at HK12 hzl ⊢
                  have hgb : g12 ≠ b := by omega
                  clear hg12 hzm hzi hzb
                  refine wp_region_book2 (fun done vs W => Cst [(0, .map (some b)), (1, .agg #[.string ⟨#[85, 83, 68]⟩, .string f', .string t']), (2, .int .i64 u), (3, .int .i64 3), (4, .int .i64 (u - 3)), (5, .tuple #[.int .i64 u, .int .i64 s]), (6, .int .i64 s)] done vs ∧ Chain [(6, 5), (4, 2), (7, 2), (7, 5)] done ∧ RJ w W w.heap.size b g12 166 #[.string ⟨#[85, 83, 68]⟩, .string f', .string t'] esA 2 esA 2 eC (done 5) (done 7) ∧ IterAt W r b 2 #[sn] 2) (by kernel_rfl) (by kernel_rfl) ?_ ?_ ?_
                  · exact ⟨Cst.none_ _ _, Chain.none_ _, ⟨HB12.out.drew, hs12, HK12.out.drew, fun _ => HM12.out.drew, fun h => (by cases h), fun h => (by cases h)⟩, HI12.out⟩
                  · refine ⟨?_, ?_, ?_, ?_, ?_, ?_, ?_, ?_, trivial⟩
                    all_goals intro done vs ac W1 hnd hdep hJ hE hsz
                    all_goals simp [Region.binds] at hdep
                    · have e4 : ac.eval (.tmp 4) = .map (some b) := (hE 4 (by simp)).trans (by simp [evF, Act.eval])
                      exact wp_value (.map (some b)) (by unfold execOp; simp only [e4]; rfl) ⟨_, rfl, ⟨hJ.1.up 0 (.map (some b)) (by simp), hJ.2.1.up 0 (by simp), hJ.2.2⟩⟩
                    · have e12 : ac.eval (.tmp 12) = (.pointer (some ⟨g12, 0, none⟩)) := (hE 12 (by simp)).trans (by simp [evF, Act.eval])
                      have q0 := hJ.2.2.1.gk.cell 0; have q1 := hJ.2.2.1.gk.cell 1; have q2 := hJ.2.2.1.gk.cell 2
                      simp only [List.getElem?_toArray, List.getElem?_cons_zero, List.getElem?_cons_succ] at q0 q1 q2
                      exact wp_value (.agg #[.string ⟨#[85, 83, 68]⟩, .string f', .string t']) (by unfold execOp; simp only [e12]; go_simp) ⟨_, rfl, ⟨hJ.1.up 1 (.agg #[.string ⟨#[85, 83, 68]⟩, .string f', .string t']) (by simp), hJ.2.1.up 1 (by simp), hJ.2.2⟩⟩
                    · have e67 : ac.eval (.tmp 67) = .map (some b) := (hE 67 (by simp)).trans (by simp [evF, hdep, hJ.1 (0, .map (some b)) (by simp) (by simp [hdep])])
                      have e68 : ac.eval (.tmp 68) = .agg #[.string ⟨#[85, 83, 68]⟩, .string f', .string t'] := (hE 68 (by simp)).trans (by simp [evF, hdep, hJ.1 (1, .agg #[.string ⟨#[85, 83, 68]⟩, .string f', .string t']) (by simp) (by simp [hdep])])
                      have h7 : done 7 = false := by
                        cases h : done 7
                        · rfl
                        · have := hJ.2.1 (7, 2) (by simp) h
                          rw [hnd] at this; cases this
                      have hm1 : MapAt W1 b esA 2 := by
                        cases h5 : done 5
                        · exact hJ.2.2.1.m0 h5
                        · exact hJ.2.2.1.m1 h5 h7
                      have hl := hsub.out.l hm1
                      exact wp_value (.int .i64 u) (by unfold execOp; simp [e67, e68, hl, Result.andThen]) ⟨_, rfl, ⟨hJ.1.up 2 (.int .i64 u) (by simp), hJ.2.1.up 2 (by simp), hJ.2.2⟩⟩
                    · have e10 : ac.eval (.tmp 10) = .int .i64 3 := (hE 10 (by simp)).trans (by simp [evF, Act.eval])
                      exact wp_value (.int .i64 3) (by unfold execOp; simp only [e10]; rfl) ⟨_, rfl, ⟨hJ.1.up 3 (.int .i64 3) (by simp), hJ.2.1.up 3 (by simp), hJ.2.2⟩⟩
                    · have e69 : ac.eval (.tmp 69) = .int .i64 u := (hE 69 (by simp)).trans (by simp [evF, hdep, hJ.1 (2, .int .i64 u) (by simp) (by simp [hdep])])
                      have e70 : ac.eval (.tmp 70) = .int .i64 3 := (hE 70 (by simp)).trans (by simp [evF, hdep, hJ.1 (3, .int .i64 3) (by simp) (by simp [hdep])])
                      exact wp_value (.int .i64 (u - 3)) (by unfold execOp; simp only [e69, e70]; go_simp) ⟨_, rfl, ⟨hJ.1.up 4 (.int .i64 (u - 3)) (by simp), hJ.2.1.up 4 (by simp [hdep]), hJ.2.2⟩⟩
                    · have e67 : ac.eval (.tmp 67) = .map (some b) := (hE 67 (by simp)).trans (by simp [evF, hdep, hJ.1 (0, .map (some b)) (by simp) (by simp [hdep])])
                      have e68 : ac.eval (.tmp 68) = .agg #[.string ⟨#[85, 83, 68]⟩, .string f', .string t'] := (hE 68 (by simp)).trans (by simp [evF, hdep, hJ.1 (1, .agg #[.string ⟨#[85, 83, 68]⟩, .string f', .string t']) (by simp) (by simp [hdep])])
                      have h7 : done 7 = false := by
                        cases h : done 7
                        · rfl
                        · have := hJ.2.1 (7, 5) (by simp) h
                          rw [hnd] at this; cases this
                      obtain ⟨w9, hr, ht⟩ := hsub.out.e (hJ.2.2.1.m0 hnd)
                      have h2 := hJ.2.2.1
                      rw [hnd, h7] at h2
                      refine wp_val (w' := w9) (.tuple #[.int .i64 u, .int .i64 s]) (by unfold execOp; simp [e67, e68, hr, Result.andThen]) ⟨_, rfl, ⟨hJ.1.up 5 _ (by simp), hJ.2.1.up 5 (by simp), ?_, hJ.2.2.2.kept ht.grown (fun e => by injection e with e; exact hrb e)⟩⟩
                      show RJ _ _ _ _ _ _ _ _ _ _ _ _ true (done 7)
                      rw [h7]
                      exact h2.ent ht hwb hgb
                    · have e72 : ac.eval (.tmp 72) = .tuple #[.int .i64 u, .int .i64 s] := (hE 72 (by simp)).trans (by simp [evF, hdep, hJ.1 (5, .tuple #[.int .i64 u, .int .i64 s]) (by simp) (by simp [hdep])])
                      exact wp_value (.int .i64 s) (by unfold execOp; simp only [e72]; kernel_rfl) ⟨_, rfl, ⟨hJ.1.up 6 (.int .i64 s) (by simp), hJ.2.1.up 6 (by simp [hdep]), hJ.2.2⟩⟩
                    · have e67 : ac.eval (.tmp 67) = .map (some b) := (hE 67 (by simp)).trans (by simp [evF, hdep, hJ.1 (0, .map (some b)) (by simp) (by simp [hdep])])
                      have e73 : ac.eval (.tmp 73) = .int .i64 s := (hE 73 (by simp)).trans (by simp [evF, hdep, hJ.1 (6, .int .i64 s) (by simp) (by simp [hdep])])
                      have e71 : ac.eval (.tmp 71) = .int .i64 (u - 3) := (hE 71 (by simp)).trans (by simp [evF, hdep, hJ.1 (4, .int .i64 (u - 3)) (by simp) (by simp [hdep])])
                      have c2 := hJ.2.1 (4, 2) (by simp) (by simp [hdep])
                      have c5 := hJ.2.1 (6, 5) (by simp) (by simp [hdep])
                      obtain ⟨w9, hr, ht⟩ := hsub.out.s (hJ.2.2.1.m1 c5 hnd)
                      have h2 := hJ.2.2.1
                      rw [hnd, c5] at h2
                      refine wp_skip (w' := w9) (by unfold execOp; simp [e67, e73, e71, hr, Result.andThen]) ⟨_, rfl, ⟨hJ.1.up 7 _ (by simp), hJ.2.1.up 7 (by simp [c2, c5]), ?_, hJ.2.2.2.kept ht.grown (fun e => by injection e with e; exact hrb e)⟩⟩
                      show RJ _ _ _ _ _ _ _ _ _ _ _ _ (done 5) true
                      rw [c5]
                      exact h2.sto ht hwb hgb
                  · intro done vs W hall hJ
                    have h2 := hJ.2.2.1
                    have HM9 := Lib.hid (h2.m2 (hall 7 (by simp)))
                    have HB9 := Lib.hid h2.bw
                    have HI9 := Lib.hid hJ.2.2.2
                    have q0 := h2.gk.cell 0; have q1 := h2.gk.cell 1; have q2 := h2.gk.cell 2
                    simp only [List.getElem?_toArray, List.getElem?_cons_zero, List.getElem?_cons_succ] at q0 q1 q2
                    simp only [fillA, Act.put, List.setIfInBounds_toArray, List.set_cons_zero, List.set_cons_succ, if_true]
                    clear hJ hall h2
                    have hz := hsub.out.z HM9.out
                    have hs9 := HB9.out.size
                    by_cases hu : u - 3 = 0
                    · obtain ⟨w9, hr9, ht9⟩ := hsub.out.d hu 0 HM9.out
                      have hu1 : (u - 3 == 0) = true := by simpa using hu
                      have HMd := Lib.hid ht9.at_
                      have HId := Lib.hid (HI9.out.kept ht9.grown (fun e => by injection e with e; exact hrb e))
                      have HBd := Lib.hid (ht9.bel HB9.out hs9 hwb)
                      go_wp2_with (at_delete; refine wpList_del rfl _ _ _ _ rfl _ _ rfl rfl hr9 ?_)
                      exact ⟨⟨j + 1, by omega, by go_num, HMd, HId, HBd⟩, by simp [intOf]; omega⟩
                    · have hu1 : (u - 3 == 0) = false := by simpa using hu
                      have HMd : Hid (MapAt W b (st3 eM (j + 1)) 2) := Lib.hid (by rw [hsub.out.k hu]; exact HM9.out)
                      go_wp2_with fail
                      exact ⟨⟨j + 1, by omega, by go_num, HMd, HI9, HB9⟩, by simp [intOf]; omega⟩
                · have hj3 : j = 2 := by omega
                  subst hj3
                  have j0 : ¬ (((2 : Nat) : Int) < 2) := by omega
                  go_wp2_with fail
                  refine ⟨(by first | exact ⟨m5, #[sn], hls, hzm, hzi, hzb⟩ | exact ⟨m5, #[sn], hls, hzm, hzi⟩), ?_⟩
                  rw [hms2.out, left_of hzm.out hzi.out]; exact hlf
            · have hms2 := Lib.hid (hms.trans (show _ = 2 by rw [left_m2]; rfl))
              have HD := Lib.hid hd
              clear hms hd hk1 hv1 hb1
              have hqs := hqb.out.size
              have HM2 := Lib.hid (hqm.out.kept hit.grown (fun e => by injection e with e; exact hrb e.symm))
              have HI2 := Lib.hid hit.at_
              have HB2 := Lib.hid (hit.bel hqb.out hqs hwr)
              clear hqm hqi hqb hqs
              go_upto_region 12 with (first | (at_next; refine wpList_next rfl _ rfl _ _ rfl 0 hrun ?_) | ((refine stop_store 166 _ _ rfl ?_; refine wpList_store_new rfl 166 _ _ rfl _ rfl rfl (by kernel_rfl) rfl rfl ?_)))
              have hx7 := Blk.new w2 166 #[.string ⟨#[85, 83, 68]⟩, .string f, .string t]
              have HMx := Lib.hid (HM2.out.alloc (.cells #[.string ⟨#[85, 83, 68]⟩, .string f, .string t] 166))
              have HIx := Lib.hid (HI2.out.alloc (.cells #[.string ⟨#[85, 83, 68]⟩, .string f, .string t] 166))
              have HBx := Lib.hid (HB2.out.alloc HB2.out.size (.cells #[.string ⟨#[85, 83, 68]⟩, .string f, .string t] 166))
              obtain ⟨g7, hg7⟩ : ∃ g, w2.heap.size = g := ⟨_, rfl⟩
              obtain ⟨wx, hwx⟩ : ∃ W, w2.alloc (.cells #[.string ⟨#[85, 83, 68]⟩, .string f, .string t] 166) = W := ⟨_, rfl⟩
              rw [hwx] at hx7 HMx HIx HBx ⊢
              rw [hg7] at hx7 ⊢
              clear hwx hg7 HM2 HI2 HB2 hrun hen hit he
              have z0 := hx7.cell 0; have z1 := hx7.cell 1; have z2 := hx7.cell 2
              simp only [List.getElem?_toArray, List.getElem?_cons_zero, List.getElem?_cons_succ] at z0 z1 z2
              go_upto_region 13 with ((refine stop_store 166 _ _ rfl ?_; refine wpList_store_new rfl 166 _ _ rfl _ rfl rfl (by kernel_rfl) rfl rfl ?_))
              have hx9 := Blk.new wx 166 #[.string ⟨#[85, 83, 68]⟩, .string t, .string f]
              have hx7b := hx7.alloc (.cells #[.string ⟨#[85, 83, 68]⟩, .string t, .string f] 166)
              have HMy := Lib.hid (HMx.out.alloc (.cells #[.string ⟨#[85, 83, 68]⟩, .string t, .string f] 166))
              have HIy := Lib.hid (HIx.out.alloc (.cells #[.string ⟨#[85, 83, 68]⟩, .string t, .string f] 166))
              have HBy := Lib.hid (HBx.out.alloc HBx.out.size (.cells #[.string ⟨#[85, 83, 68]⟩, .string t, .string f] 166))
              obtain ⟨g9, hg9⟩ : ∃ g, wx.heap.size = g := ⟨_, rfl⟩
              obtain ⟨wy, hwy⟩ : ∃ W, wx.alloc (.cells #[.string ⟨#[85, 83, 68]⟩, .string t, .string f] 166) = W := ⟨_, rfl⟩
              rw [hwy] at hx9 hx7b HMy HIy HBy ⊢
              rw [hg9] at hx9 ⊢
              clear hwy hg9 HMx HIx HBx z0 z1 z2 hx7
              have z0 := hx7b.cell 0; have z1 := hx7b.cell 1; have z2 := hx7b.cell 2; have y0 := hx9.cell 0; have y1 := hx9.cell 1; have y2 := hx9.cell 2
              simp only [List.getElem?_toArray, List.getElem?_cons_zero, List.getElem?_cons_succ] at z0 z1 z2 y0 y1 y2
              clear hx7b hx9
              have hlk := HD.out.back HMy.out
              go_wp2_with fail
              go_loopw [64] (fun i wr => ∃ j : Nat, j ≤ 2 ∧ i = .int .i64 j ∧ Hid (MapAt wr b (st3 eM j) 2) ∧ Hid (IterAt wr r b 2 #[sn] 2) ∧ Hid (Below w.heap.size w wr)) (fun i _ => 2 - (intOf i).toNat)
              case atStart => exact ⟨0, by omega, rfl, HMy, HIy, HBy⟩
              case round =>
                clear HMy HIy HBy hlk z0 z1 z2 y0 y1 y2
                obtain ⟨j, hj, rfl, hzm, hzi, hzb⟩ := hrel
                by_cases hj2 : j < 2
                · obtain ⟨f', t', u, s, eC, hsu, hix⟩ := duo_k HD.out hj2
                  have hu35 := hsu.b
                  have hsub := Lib.hid hsu
                  obtain ⟨esA, hesA⟩ : ∃ e, st3 eM j = e := ⟨_, rfl⟩
                  rw [hesA] at hsub hzm
                  have hixw := hix wr
                  have j0 : (j : Int) < 2 := by omega
                  have hw3 : IntKind.i64.wrap (u - 3) = u - 3 := IntWalk.i64_in _ (by omega)
                  have hzl := hzm.out.lt
                  clear hsu hix hesA
                  go_upto_region 18 with ((refine stop_store 166 _ _ rfl ?_; refine wpList_store_new rfl 166 _ _ rfl _ rfl rfl (by kernel_rfl) rfl rfl ?_))
                  try go_frame
                  have HK12 : Hid (Blk (wr.alloc (.cells #[.string ⟨#[85, 83, 68]⟩, .string f', .string t'] 166)) wr.heap.size 166 #[.string ⟨#[85, 83, 68]⟩, .string f', .string t']) := Lib.hid (Blk.new _ _ _)
                  have HM12 := Lib.hid (hzm.out.alloc (.cells #[.string ⟨#[85, 83, 68]⟩, .string f', .string t'] 166))
                  have HI12 := Lib.hid (hzi.out.alloc (.cells #[.string ⟨#[85, 83, 68]⟩, .string f', .string t'] 166))
                  have HB12 := Lib.hid (hzb.out.alloc hzb.out.size (.cells #[.string ⟨#[85, 83, 68]⟩, .string f', .string t'] 166))
                  have hs12 : w.heap.size ≤ (wr.alloc (.cells #[.string ⟨#[85, 83, 68]⟩, .string f', .string t'] 166)).heap.size := HB12.out.size
                  obtain ⟨g12, hg12⟩ : ∃ g, wr.heap.size = g := ⟨_, rfl⟩
                  rw [hg12] at HK12 hzl ⊢
                  have hgb : g12 ≠ b := by omega
                  clear hg12 hzm hzi hzb
                  refine wp_region_book2 (fun done vs W => Cst [(0, .map (some b)), (1, .agg #[.string ⟨#[85, 83, 68]⟩, .string f', .string t']), (2, .int .i64 u), (3, .int .i64 3), (4, .int .i64 (u - 3)), (5, .tuple #[.int .i64 u, .int .i64 s]), (6, .int .i64 s)] done vs ∧ Chain [(6, 5), (4, 2), (7, 2), (7, 5)] done ∧ RJ w W w.heap.size b g12 166 #[.string ⟨#[85, 83, 68]⟩, .string f', .string t'] esA 2 esA 2 eC (done 5) (done 7) ∧ IterAt W r b 2 #[sn] 2) (by kernel_rfl) (by kernel_rfl) ?_ ?_ ?_
                  · exact ⟨Cst.none_ _ _, Chain.none_ _, ⟨HB12.out.drew, hs12, HK12.out.drew, fun _ => HM12.out.drew, fun h => (by cases h), fun h => (by cases h)⟩, HI12.out⟩
                  · refine ⟨?_, ?_, ?_, ?_, ?_, ?_, ?_, ?_, trivial⟩
                    all_goals intro done vs ac W1 hnd hdep hJ hE hsz
                    all_goals simp [Region.binds] at hdep
                    · have e4 : ac.eval (.tmp 4) = .map (some b) := (hE 4 (by simp)).trans (by simp [evF, Act.eval])
                      exact wp_value (.map (some b)) (by unfold execOp; simp only [e4]; rfl) ⟨_, rfl, ⟨hJ.1.up 0 (.map (some b)) (by simp), hJ.2.1.up 0 (by simp), hJ.2.2⟩⟩
                    · have e12 : ac.eval (.tmp 12) = (.pointer (some ⟨g12, 0, none⟩)) := (hE 12 (by simp)).trans (by simp [evF, Act.eval])
                      have q0 := hJ.2.2.1.gk.cell 0; have q1 := hJ.2.2.1.gk.cell 1; have q2 := hJ.2.2.1.gk.cell 2
                      simp only [List.getElem?_toArray, List.getElem?_cons_zero, List.getElem?_cons_succ] at q0 q1 q2
                      exact wp_value (.agg #[.string ⟨#[85, 83, 68]⟩, .string f', .string t']) (by unfold execOp; simp only [e12]; go_simp) ⟨_, rfl, ⟨hJ.1.up 1 (.agg #[.string ⟨#[85, 83, 68]⟩, .string f', .string t']) (by simp), hJ.2.1.up 1 (by simp), hJ.2.2⟩⟩
                    · have e67 : ac.eval (.tmp 67) = .map (some b) := (hE 67 (by simp)).trans (by simp [evF, hdep, hJ.1 (0, .map (some b)) (by simp) (by simp [hdep])])
                      have e68 : ac.eval (.tmp 68) = .agg #[.string ⟨#[85, 83, 68]⟩, .string f', .string t'] := (hE 68 (by simp)).trans (by simp [evF, hdep, hJ.1 (1, .agg #[.string ⟨#[85, 83, 68]⟩, .string f', .string t']) (by simp) (by simp [hdep])])
                      have h7 : done 7 = false := by
                        cases h : done 7
                        · rfl
                        · have := hJ.2.1 (7, 2) (by simp) h
                          rw [hnd] at this; cases this
                      have hm1 : MapAt W1 b esA 2 := by
                        cases h5 : done 5
                        · exact hJ.2.2.1.m0 h5
                        · exact hJ.2.2.1.m1 h5 h7
                      have hl := hsub.out.l hm1
                      exact wp_value (.int .i64 u) (by unfold execOp; simp [e67, e68, hl, Result.andThen]) ⟨_, rfl, ⟨hJ.1.up 2 (.int .i64 u) (by simp), hJ.2.1.up 2 (by simp), hJ.2.2⟩⟩
                    · have e10 : ac.eval (.tmp 10) = .int .i64 3 := (hE 10 (by simp)).trans (by simp [evF, Act.eval])
                      exact wp_value (.int .i64 3) (by unfold execOp; simp only [e10]; rfl) ⟨_, rfl, ⟨hJ.1.up 3 (.int .i64 3) (by simp), hJ.2.1.up 3 (by simp), hJ.2.2⟩⟩
                    · have e69 : ac.eval (.tmp 69) = .int .i64 u := (hE 69 (by simp)).trans (by simp [evF, hdep, hJ.1 (2, .int .i64 u) (by simp) (by simp [hdep])])
                      have e70 : ac.eval (.tmp 70) = .int .i64 3 := (hE 70 (by simp)).trans (by simp [evF, hdep, hJ.1 (3, .int .i64 3) (by simp) (by simp [hdep])])
                      exact wp_value (.int .i64 (u - 3)) (by unfold execOp; simp only [e69, e70]; go_simp) ⟨_, rfl, ⟨hJ.1.up 4 (.int .i64 (u - 3)) (by simp), hJ.2.1.up 4 (by simp [hdep]), hJ.2.2⟩⟩
                    · have e67 : ac.eval (.tmp 67) = .map (some b) := (hE 67 (by simp)).trans (by simp [evF, hdep, hJ.1 (0, .map (some b)) (by simp) (by simp [hdep])])
                      have e68 : ac.eval (.tmp 68) = .agg #[.string ⟨#[85, 83, 68]⟩, .string f', .string t'] := (hE 68 (by simp)).trans (by simp [evF, hdep, hJ.1 (1, .agg #[.string ⟨#[85, 83, 68]⟩, .string f', .string t']) (by simp) (by simp [hdep])])
                      have h7 : done 7 = false := by
                        cases h : done 7
                        · rfl
                        · have := hJ.2.1 (7, 5) (by simp) h
                          rw [hnd] at this; cases this
                      obtain ⟨w9, hr, ht⟩ := hsub.out.e (hJ.2.2.1.m0 hnd)
                      have h2 := hJ.2.2.1
                      rw [hnd, h7] at h2
                      refine wp_val (w' := w9) (.tuple #[.int .i64 u, .int .i64 s]) (by unfold execOp; simp [e67, e68, hr, Result.andThen]) ⟨_, rfl, ⟨hJ.1.up 5 _ (by simp), hJ.2.1.up 5 (by simp), ?_, hJ.2.2.2.kept ht.grown (fun e => by injection e with e; exact hrb e)⟩⟩
                      show RJ _ _ _ _ _ _ _ _ _ _ _ _ true (done 7)
                      rw [h7]
                      exact h2.ent ht hwb hgb
                    · have e72 : ac.eval (.tmp 72) = .tuple #[.int .i64 u, .int .i64 s] := (hE 72 (by simp)).trans (by simp [evF, hdep, hJ.1 (5, .tuple #[.int .i64 u, .int .i64 s]) (by simp) (by simp [hdep])])
                      exact wp_value (.int .i64 s) (by unfold execOp; simp only [e72]; kernel_rfl) ⟨_, rfl, ⟨hJ.1.up 6 (.int .i64 s) (by simp), hJ.2.1.up 6 (by simp [hdep]), hJ.2.2⟩⟩
                    · have e67 : ac.eval (.tmp 67) = .map (some b) := (hE 67 (by simp)).trans (by simp [evF, hdep, hJ.1 (0, .map (some b)) (by simp) (by simp [hdep])])
                      have e73 : ac.eval (.tmp 73) = .int .i64 s := (hE 73 (by simp)).trans (by simp [evF, hdep, hJ.1 (6, .int .i64 s) (by simp) (by simp [hdep])])
                      have e71 : ac.eval (.tmp 71) = .int .i64 (u - 3) := (hE 71 (by simp)).trans (by simp [evF, hdep, hJ.1 (4, .int .i64 (u - 3)) (by simp) (by simp [hdep])])
                      have c2 := hJ.2.1 (4, 2) (by simp) (by simp [hdep])
                      have c5 := hJ.2.1 (6, 5) (by simp) (by simp [hdep])
                      obtain ⟨w9, hr, ht⟩ := hsub.out.s (hJ.2.2.1.m1 c5 hnd)
                      have h2 := hJ.2.2.1
                      rw [hnd, c5] at h2
                      refine wp_skip (w' := w9) (by unfold execOp; simp [e67, e73, e71, hr, Result.andThen]) ⟨_, rfl, ⟨hJ.1.up 7 _ (by simp), hJ.2.1.up 7 (by simp [c2, c5]), ?_, hJ.2.2.2.kept ht.grown (fun e => by injection e with e; exact hrb e)⟩⟩
                      show RJ _ _ _ _ _ _ _ _ _ _ _ _ (done 5) true
                      rw [c5]
                      exact h2.sto ht hwb hgb
                  · intro done vs W hall hJ
                    have h2 := hJ.2.2.1
                    have HM9 := Lib.hid (h2.m2 (hall 7 (by simp)))
                    have HB9 := Lib.hid h2.bw
                    have HI9 := Lib.hid hJ.2.2.2
                    have q0 := h2.gk.cell 0; have q1 := h2.gk.cell 1; have q2 := h2.gk.cell 2
                    simp only [List.getElem?_toArray, List.getElem?_cons_zero, List.getElem?_cons_succ] at q0 q1 q2
                    simp only [fillA, Act.put, List.setIfInBounds_toArray, List.set_cons_zero, List.set_cons_succ, if_true]
                    clear hJ hall h2
                    have hz := hsub.out.z HM9.out
                    have hs9 := HB9.out.size
                    by_cases hu : u - 3 = 0
                    · obtain ⟨w9, hr9, ht9⟩ := hsub.out.d hu 0 HM9.out
                      have hu1 : (u - 3 == 0) = true := by simpa using hu
                      have HMd := Lib.hid ht9.at_
                      have HId := Lib.hid (HI9.out.kept ht9.grown (fun e => by injection e with e; exact hrb e))
                      have HBd := Lib.hid (ht9.bel HB9.out hs9 hwb)
                      go_wp2_with (at_delete; refine wpList_del rfl _ _ _ _ rfl _ _ rfl rfl hr9 ?_)
                      exact ⟨⟨j + 1, by omega, by go_num, HMd, HId, HBd⟩, by simp [intOf]; omega⟩
                    · have hu1 : (u - 3 == 0) = false := by simpa using hu
                      have HMd : Hid (MapAt W b (st3 eM (j + 1)) 2) := Lib.hid (by rw [hsub.out.k hu]; exact HM9.out)
                      go_wp2_with fail
                      exact ⟨⟨j + 1, by omega, by go_num, HMd, HI9, HB9⟩, by simp [intOf]; omega⟩
                · have hj3 : j = 2 := by omega
                  subst hj3
                  have j0 : ¬ (((2 : Nat) : Int) < 2) := by omega
                  go_wp2_with fail
                  refine ⟨(by first | exact ⟨m5, #[sn], hls, hzm, hzi, hzb⟩ | exact ⟨m5, #[sn], hls, hzm, hzi⟩), ?_⟩
                  rw [hms2.out, left_of hzm.out hzi.out]; exact hlf
        · have hov : (Instr.next (.pointer (some ⟨r, 0, none⟩)) false 0).run Try.prog _ = .ok (.tuple #[.bool false]) _ := hnx.elim (fun h => h.2) (fun ⟨e, he, _⟩ => by rw [left_a] at he; cases he)
          clear hnx
          have hrg2 := run_range_map _ 146 166 2 b m5 2 Try.underlying146 hqm.out
          have hqs := hqb.out.size
          have hql := hqm.out.lt
          have hI2 : IterAt (wr.alloc (.mapIter (some b) 2 #[] 2)) wr.heap.size b 2 #[] 2 := heap_alloc_new wr _
          have HMa := Lib.hid (hqm.out.alloc (.mapIter (some b) 2 #[] 2))
          have HBa := Lib.hid (hqb.out.alloc hqb.out.size (.mapIter (some b) 2 #[] 2))
          obtain ⟨r2, hr2⟩ : ∃ r, wr.heap.size = r := ⟨_, rfl⟩
          rw [hr2] at hrg2 hI2 hqs hql
          have hrb2 : r2 ≠ b := by omega
          have HIa := Lib.hid hI2
          clear hI2 hr2 hqm hqi hqb
          go_wp2_with (first | (at_next; refine wpList_next rfl _ rfl _ _ rfl 0 hov ?_) | (at_range; refine wpList_range rfl _ _ rfl _ _ rfl hrg2 ?_))
          go_frame
          go_loopw [14] (fun _ wp => ∃ seen, (seen = #[] ∨ seen = #[0]) ∧ Hid (MapAt wp b m5 2) ∧ Hid (IterAt wp r2 b 2 seen 2) ∧ Hid (Below w.heap.size w wp)) (fun _ wp => wp.rangeLeft b r2)
          case atStart => exact ⟨#[], .inl rfl, HMa, HIa, HBa⟩
          case round =>
            clear HMa HIa HBa hrg2 hov
            obtain ⟨sn, hst2, hpm, hpi, hpb⟩ := hrel
            have hms2 := Lib.hid (left_of hpm.out hpi.out)
            have hnx2 := next_step 0 hpi.out hpm.out (loop_old (.inr (.inl ⟨rfl, rfl⟩))).1 (Nat.le_refl _) hrb2 (loop_old (.inr (.inl ⟨rfl, rfl⟩))).2
            rcases hst2 with rfl | rfl
            · rcases hnx2 with ⟨h0, _⟩ | ⟨e, he, w2, hrun, hit, hen⟩
              · rw [left_e] at h0; cases h0
              · have he2 : e = ⟨k1, .int .i64 2, 0⟩ := by rw [left_e] at he; simpa [m5] using he
                subst he2
                have hps := hpb.out.size
                have HM2 := Lib.hid (hpm.out.kept hit.grown (fun e => by injection e with e; exact hrb2 e.symm))
                have HI2 := Lib.hid hit.at_
                have HB2 := Lib.hid (hit.bel hpb.out hps hqs)
                clear hpm hpi hpb
                go_wp2_with (at_next; refine wpList_next rfl _ rfl _ _ rfl 0 hrun ?_)
                exact ⟨⟨#[0], .inr rfl, HM2, HI2, HB2⟩, by rw [hms2.out, left_of HM2.out HI2.out]; exact (show (leftOf m5 #[0]).size < (leftOf m5 #[]).size by rw [left_a, left_e]; decide)⟩
            · have hov2 : (Instr.next (.pointer (some ⟨r2, 0, none⟩)) false 0).run Try.prog _ = .ok (.tuple #[.bool false]) _ := hnx2.elim (fun h => h.2) (fun ⟨e, he, _⟩ => by rw [left_a] at he; cases he)
              go_wp2_with (at_next; refine wpList_next rfl _ rfl _ _ rfl 0 hov2 ?_)
              go_ret2
              exact ⟨b, rfl, hpm.out, hwb, hpb.out⟩
        · rcases hnx with ⟨h0, _⟩ | ⟨e, he, w2, hrun, hit, hen⟩
          · rw [left_b] at h0; cases h0
          · obtain rfl := last_key he
            have hms2 := Lib.hid (hms.trans (show _ = 1 by rw [left_b]; rfl))
            clear hms
            have hqs := hqb.out.size
            have HM2 := Lib.hid (hqm.out.kept hit.grown (fun e => by injection e with e; exact hrb e.symm))
            have HI2 := Lib.hid hit.at_
            have HB2 := Lib.hid (hit.bel hqb.out hqs hwr)
            clear hqm hqi hqb hqs
            go_upto_region 12 with (first | (at_next; refine wpList_next rfl _ rfl _ _ rfl 0 hrun ?_) | ((refine stop_store 166 _ _ rfl ?_; refine wpList_store_new rfl 166 _ _ rfl _ rfl rfl (by kernel_rfl) rfl rfl ?_)))
            have hx7 := Blk.new w2 166 #[.string ⟨#[85, 83, 68]⟩, .string ⟨#[97]⟩, .string ⟨#[98]⟩]
            have HMx := Lib.hid (HM2.out.alloc (.cells #[.string ⟨#[85, 83, 68]⟩, .string ⟨#[97]⟩, .string ⟨#[98]⟩] 166))
            have HIx := Lib.hid (HI2.out.alloc (.cells #[.string ⟨#[85, 83, 68]⟩, .string ⟨#[97]⟩, .string ⟨#[98]⟩] 166))
            have HBx := Lib.hid (HB2.out.alloc HB2.out.size (.cells #[.string ⟨#[85, 83, 68]⟩, .string ⟨#[97]⟩, .string ⟨#[98]⟩] 166))
            obtain ⟨g7, hg7⟩ : ∃ g, w2.heap.size = g := ⟨_, rfl⟩
            obtain ⟨wx, hwx⟩ : ∃ W, w2.alloc (.cells #[.string ⟨#[85, 83, 68]⟩, .string ⟨#[97]⟩, .string ⟨#[98]⟩] 166) = W := ⟨_, rfl⟩
            rw [hwx] at hx7 HMx HIx HBx ⊢
            rw [hg7] at hx7 ⊢
            clear hwx hg7 HM2 HI2 HB2 hrun hen hit he
            have z0 := hx7.cell 0; have z1 := hx7.cell 1; have z2 := hx7.cell 2
            simp only [List.getElem?_toArray, List.getElem?_cons_zero, List.getElem?_cons_succ] at z0 z1 z2
            go_upto_region 13 with ((refine stop_store 166 _ _ rfl ?_; refine wpList_store_new rfl 166 _ _ rfl _ rfl rfl (by kernel_rfl) rfl rfl ?_))
            have hx9 := Blk.new wx 166 #[.string ⟨#[85, 83, 68]⟩, .string ⟨#[98]⟩, .string ⟨#[97]⟩]
            have hx7b := hx7.alloc (.cells #[.string ⟨#[85, 83, 68]⟩, .string ⟨#[98]⟩, .string ⟨#[97]⟩] 166)
            have HMy := Lib.hid (HMx.out.alloc (.cells #[.string ⟨#[85, 83, 68]⟩, .string ⟨#[98]⟩, .string ⟨#[97]⟩] 166))
            have HIy := Lib.hid (HIx.out.alloc (.cells #[.string ⟨#[85, 83, 68]⟩, .string ⟨#[98]⟩, .string ⟨#[97]⟩] 166))
            have HBy := Lib.hid (HBx.out.alloc HBx.out.size (.cells #[.string ⟨#[85, 83, 68]⟩, .string ⟨#[98]⟩, .string ⟨#[97]⟩] 166))
            obtain ⟨g9, hg9⟩ : ∃ g, wx.heap.size = g := ⟨_, rfl⟩
            obtain ⟨wy, hwy⟩ : ∃ W, wx.alloc (.cells #[.string ⟨#[85, 83, 68]⟩, .string ⟨#[98]⟩, .string ⟨#[97]⟩] 166) = W := ⟨_, rfl⟩
            rw [hwy] at hx9 hx7b HMy HIy HBy ⊢
            rw [hg9] at hx9 ⊢
            clear hwy hg9 HMx HIx HBx z0 z1 z2 hx7
            have z0 := hx7b.cell 0; have z1 := hx7b.cell 1; have z2 := hx7b.cell 2; have y0 := hx9.cell 0; have y1 := hx9.cell 1; have y2 := hx9.cell 2
            simp only [List.getElem?_toArray, List.getElem?_cons_zero, List.getElem?_cons_succ] at z0 z1 z2 y0 y1 y2
            clear hx7b hx9
            have hlk := look_m5_2 HMy.out
            unfold k2 at hlk
            go_wp2_with fail
            go_roundw
            case rel => first | exact ⟨m5, #[1, 0], .inr (.inr (.inr ⟨rfl, rfl⟩)), HMy, HIy, HBy⟩ | exact ⟨m5, #[1, 0], .inr (.inr (.inr ⟨rfl, rfl⟩)), HMy, HIy⟩
            case measure => rw [hms2.out, left_of HMy.out HIy.out]; exact (show (leftOf m5 #[1, 0]).size < 1 by rw [left_c]; decide)
        · have hov : (Instr.next (.pointer (some ⟨r, 0, none⟩)) false 0).run Try.prog _ = .ok (.tuple #[.bool false]) _ := hnx.elim (fun h => h.2) (fun ⟨e, he, _⟩ => by rw [left_c] at he; cases he)
          clear hnx
          have hrg2 := run_range_map _ 146 166 2 b m5 2 Try.underlying146 hqm.out
          have hqs := hqb.out.size
          have hql := hqm.out.lt
          have hI2 : IterAt (wr.alloc (.mapIter (some b) 2 #[] 2)) wr.heap.size b 2 #[] 2 := heap_alloc_new wr _
          have HMa := Lib.hid (hqm.out.alloc (.mapIter (some b) 2 #[] 2))
          have HBa := Lib.hid (hqb.out.alloc hqb.out.size (.mapIter (some b) 2 #[] 2))
          obtain ⟨r2, hr2⟩ : ∃ r, wr.heap.size = r := ⟨_, rfl⟩
          rw [hr2] at hrg2 hI2 hqs hql
          have hrb2 : r2 ≠ b := by omega
          have HIa := Lib.hid hI2
          clear hI2 hr2 hqm hqi hqb
          go_wp2_with (first | (at_next; refine wpList_next rfl _ rfl _ _ rfl 0 hov ?_) | (at_range; refine wpList_range rfl _ _ rfl _ _ rfl hrg2 ?_))
          go_frame
          go_loopw [14] (fun _ wp => ∃ seen, (seen = #[] ∨ seen = #[0]) ∧ Hid (MapAt wp b m5 2) ∧ Hid (IterAt wp r2 b 2 seen 2) ∧ Hid (Below w.heap.size w wp)) (fun _ wp => wp.rangeLeft b r2)
          case atStart => exact ⟨#[], .inl rfl, HMa, HIa, HBa⟩
          case round =>
            clear HMa HIa HBa hrg2 hov
            obtain ⟨sn, hst2, hpm, hpi, hpb⟩ := hrel
            have hms2 := Lib.hid (left_of hpm.out hpi.out)
            have hnx2 := next_step 0 hpi.out hpm.out (loop_old (.inr (.inl ⟨rfl, rfl⟩))).1 (Nat.le_refl _) hrb2 (loop_old (.inr (.inl ⟨rfl, rfl⟩))).2
            rcases hst2 with rfl | rfl
            · rcases hnx2 with ⟨h0, _⟩ | ⟨e, he, w2, hrun, hit, hen⟩
              · rw [left_e] at h0; cases h0
              · have he2 : e = ⟨k1, .int .i64 2, 0⟩ := by rw [left_e] at he; simpa [m5] using he
                subst he2
                have hps := hpb.out.size
                have HM2 := Lib.hid (hpm.out.kept hit.grown (fun e => by injection e with e; exact hrb2 e.symm))
                have HI2 := Lib.hid hit.at_
                have HB2 := Lib.hid (hit.bel hpb.out hps hqs)
                clear hpm hpi hpb
                go_wp2_with (at_next; refine wpList_next rfl _ rfl _ _ rfl 0 hrun ?_)
                exact ⟨⟨#[0], .inr rfl, HM2, HI2, HB2⟩, by rw [hms2.out, left_of HM2.out HI2.out]; exact (show (leftOf m5 #[0]).size < (leftOf m5 #[]).size by rw [left_a, left_e]; decide)⟩
            · have hov2 : (Instr.next (.pointer (some ⟨r2, 0, none⟩)) false 0).run Try.prog _ = .ok (.tuple #[.bool false]) _ := hnx2.elim (fun h => h.2) (fun ⟨e, he, _⟩ => by rw [left_a] at he; cases he)
              go_wp2_with (at_next; refine wpList_next rfl _ rfl _ _ rfl 0 hov2 ?_)
              go_ret2
              exact ⟨b, rfl, hpm.out, hwb, hpb.out⟩
end Go.Proofs.Ytlicmhgpldmliaa.kit
