/- Rows of letters that say the same are one; what the laws of an office leave out; the chapter's example. Condition: the table of powers of ten. -/
import Derived.Test.YtdanjegnhdpnlaaGreatDoorOfV
import Derived.Test.YtdanjegnhdpnlaaGreatDoorOfO
namespace Go.Proofs.YtdanjegnhdpnlaaGreatDoor.kit
open Go.RowKit Go.PlainAid
set_option linter.unusedVariables false
set_option linter.unusedSimpArgs false
theorem OlAt.get {W : World} {B : Nat} {v : Value} {dl : ByteArray} {dy : Int} {xs : List Ol} (h : OlAt W B v dl dy xs) : ∃ A n, v = .slice A n n ∧ n = xs.length ∧ n ≤ 2 ∧ ∀ i, i < n → ∃ b x D H, A = some ⟨b, 0, none⟩ ∧ xs[i]? = some x ∧ (∀ j u, (olC dl dy x D)[j]? = some u → W.cell? ⟨b, i * 14 + j, none⟩ = some u) ∧ DocsAt W B H D x.doc := by
  rcases h with ⟨rfl, rfl⟩ | ⟨g, x, D, rfl, rfl, h3, h4, h5⟩ | ⟨g, x, y, rfl, rfl, h3, h4, h5, h6⟩
  · exact ⟨none, 0, rfl, rfl, by omega, fun i hi => absurd hi (by omega)⟩
  · refine ⟨_, 1, rfl, rfl, by omega, fun i hi => ?_⟩
    obtain rfl : i = 0 := by omega
    exact ⟨g, x, D, g, rfl, rfl, fun j u hu => by rw [h4.cell, Nat.zero_mul, Nat.zero_add]; simpa using hu, h5⟩
  · refine ⟨_, 2, rfl, rfl, by omega, fun i hi => ?_⟩
    rcases (show i = 0 ∨ i = 1 by omega) with rfl | rfl
    · refine ⟨g, x, .slice none 0 0, 0, rfl, rfl, fun j u hu => ?_, by rw [h5]; rfl⟩
      rw [h4.cell, Nat.zero_mul, Nat.zero_add]
      have hj : j < 14 := (List.getElem?_eq_some_iff.1 hu).1
      simp only [List.getElem?_toArray]
      rw [List.getElem?_append_left (by rw [ol_len]; exact hj)]
      exact hu
    · refine ⟨g, y, .slice none 0 0, 0, rfl, rfl, fun j u hu => ?_, by rw [h6]; rfl⟩
      rw [h4.cell]
      simp only [List.getElem?_toArray]
      rw [List.getElem?_append_right (by rw [ol_len]; omega), ol_len, show 1 * 14 + j - 14 = j by omega]
      exact hu
set_option maxRecDepth 100000 in
set_option maxHeartbeats 6400000 in
theorem all_any (dl : ByteArray) (dy : Int) (xs : List Ol) (v v' : Value) (B B' : Nat) (w : World) (h1 : OlAt w B v dl dy xs) (h2 : OlAt w B' v' dl dy xs) (hm : ∀ x ∈ xs, ∀ p, x.doc = some p → p.fs.length ≤ 100) : Calls Tryz.prog 19 #[v, v'] w fun e w' => e = .returned (.bool true) ∧ Below w.heap.size w w' := by
  obtain ⟨A, n, rfl, hn, hn2, -⟩ := h1.get
  obtain ⟨A', n', rfl, hn', -, -⟩ := h2.get
  obtain rfl : n' = n := by omega
  have H1 := Lib.hid h1
  have H2 := Lib.hid h2
  have HM := Lib.hid hm
  have t3 : ((n' : Int) != (n' : Int)) = false := by simp
  clear h1 h2 hm hn hn'
  go_enter Tryz.func19, Tryz.ntmps19
  go_wp2_with fail
  go_loopw [5] (fun i wr => ∃ j : Nat, j ≤ n' ∧ i = .int .i64 j ∧ Hid (Below w.heap.size w wr)) (fun i _ => n' - (intOf i).toNat)
  case atStart => exact ⟨0, by omega, rfl, Lib.hid (Below.refl _ _)⟩
  case round =>
    obtain ⟨j, hj, rfl, hb⟩ := hrel
    by_cases hlt : j < n'
    · obtain ⟨A1, n1, e1, _, _, g1⟩ := (H1.out.below hb.out).get
      obtain ⟨A2, n2, e2, _, _, g2⟩ := (H2.out.below hb.out).get
      injection e1 with e1a e1b e1c
      injection e2 with e2a e2b e2c
      subst e1a e1b e2a e2b
      obtain ⟨ba, x, D, Ha, rfl, hx, hc, hd⟩ := g1 j hlt
      obtain ⟨bb, y, E, Hb, rfl, hy, hc', hd'⟩ := g2 j hlt
      have hxy : x = y := Option.some.inj (hx.symm.trans hy)
      subst hxy
      have HMX := Lib.hid (HM.out x (List.mem_of_getElem? hx))
      have HD := Lib.hid hd; have HD' := Lib.hid hd'; have HC := Lib.hid hc; have HC' := Lib.hid hc'
      have HLT := Lib.hid hlt
      have HLA : Hid (∀ W, Below wr.heap.size wr W → ∀ k u, (olC dl dy x D)[k]? = some u → W.cell? ⟨ba, j * 14 + k, none⟩ = some u) := Lib.hid (fun W hW k u hu => (hW.cell (World.block_lt_of_cell? wr _ (hc k u hu))).trans (hc k u hu))
      have HLB : Hid (∀ W, Below wr.heap.size wr W → ∀ k u, (olC dl dy x E)[k]? = some u → W.cell? ⟨bb, j * 14 + k, none⟩ = some u) := Lib.hid (fun W hW k u hu => (hW.cell (World.block_lt_of_cell? wr _ (hc' k u hu))).trans (hc' k u hu))
      have i0 : (j : Int) < (n' : Int) := by omega
      clear hx hy hc hc' hd hd' g1 g2 e1c e2c
      go_upto_region 6 with (fail)
      try simp only [Act.put, List.setIfInBounds_toArray, List.set_cons_zero, List.set_cons_succ]
      refine wp_region_soft [Is (.slice (some ⟨ba, 0, none⟩) n' n'), Is (.int .i64 (j : Int)), Is (.pointer (some ⟨ba, j * 14, none⟩)), Is (.agg #[.string ⟨#[]⟩, .string x.dst, .int .i64 0, .int .i64 x.kind, .int .i64 0, .string dl, .string ⟨#[]⟩, .string ⟨#[]⟩, .int .i64 0, .int .i64 dy, .string x.cur, .int .i64 x.amt, D, .slice none 0 0]), Is (.slice (some ⟨bb, 0, none⟩) n' n'), Is (.int .i64 (j : Int)), Is (.pointer (some ⟨bb, j * 14, none⟩)), Is (.agg #[.string ⟨#[]⟩, .string x.dst, .int .i64 0, .int .i64 x.kind, .int .i64 0, .string dl, .string ⟨#[]⟩, .string ⟨#[]⟩, .int .i64 0, .int .i64 dy, .string x.cur, .int .i64 x.amt, E, .slice none 0 0]), Is (.bool true), Is (.bool false)] ⟨stab_is _, stab_is _, stab_is _, stab_is _, stab_is _, stab_is _, stab_is _, stab_is _, stab_is _, stab_is _, trivial⟩ (by kernel_rfl) (by kernel_rfl) ?_ ?_
      · refine ⟨?_, ?_, ?_, ?_, ?_, ?_, ?_, ?_, ?_, ?_, trivial⟩
        all_goals intro done vs ac W1 hdep hB hR hE
        all_goals have ec : ∀ v : Value, ac.eval (.const v) = v := fun _ => rfl
        all_goals try simp [Region.binds] at hdep
        · have e0 : ac.eval (.tmp 0) = .slice (some ⟨ba, 0, none⟩) n' n' := (hE 0 (by simp)).trans (by simp [evF, Act.eval])
          exact soft_value (.slice (some ⟨ba, 0, none⟩) n' n') (by unfold execOp; simp only [e0, ec]; rfl) rfl
        · have e5 : ac.eval (.tmp 5) = .int .i64 (j : Int) := (hE 5 (by simp)).trans (by simp [evF, Act.eval])
          exact soft_value (.int .i64 (j : Int)) (by unfold execOp; simp only [e5, ec]; rfl) rfl
        · have d0 : vs 0 = .slice (some ⟨ba, 0, none⟩) n' n' := hR 0 (by simp [hdep])
          have e17 : ac.eval (.tmp 17) = .slice (some ⟨ba, 0, none⟩) n' n' := (hE 17 (by simp)).trans (by simp [evF, hdep, d0])
          have d1 : vs 1 = .int .i64 (j : Int) := hR 1 (by simp [hdep])
          have e18 : ac.eval (.tmp 18) = .int .i64 (j : Int) := (hE 18 (by simp)).trans (by simp [evF, hdep, d1])
          exact soft_value (.pointer (some ⟨ba, j * 14, none⟩)) (by simp [execOp, e17, e18, ixk 30 _ 14 Tryz.underlying30 (by kernel_rfl) ba 0 j n' n' HLT.out, Result.andThen]) rfl
        · have d2 : vs 2 = .pointer (some ⟨ba, j * 14, none⟩) := hR 2 (by simp [hdep])
          have e19 : ac.eval (.tmp 19) = .pointer (some ⟨ba, j * 14, none⟩) := (hE 19 (by simp)).trans (by simp [evF, hdep, d2])
          exact wp_load_at 57 (.tmp 19) rfl ba (j * 14) e19 (olC dl dy x D) _ (HLA.out W1 hB) Tryz.underlying57 rfl (by kernel_rfl) ⟨_, rfl, Below.refl _ _, rfl⟩
        · have e1 : ac.eval (.tmp 1) = .slice (some ⟨bb, 0, none⟩) n' n' := (hE 1 (by simp)).trans (by simp [evF, Act.eval])
          exact soft_value (.slice (some ⟨bb, 0, none⟩) n' n') (by unfold execOp; simp only [e1, ec]; rfl) rfl
        · have e5 : ac.eval (.tmp 5) = .int .i64 (j : Int) := (hE 5 (by simp)).trans (by simp [evF, Act.eval])
          exact soft_value (.int .i64 (j : Int)) (by unfold execOp; simp only [e5, ec]; rfl) rfl
        · have d4 : vs 4 = .slice (some ⟨bb, 0, none⟩) n' n' := hR 4 (by simp [hdep])
          have e21 : ac.eval (.tmp 21) = .slice (some ⟨bb, 0, none⟩) n' n' := (hE 21 (by simp)).trans (by simp [evF, hdep, d4])
          have d5 : vs 5 = .int .i64 (j : Int) := hR 5 (by simp [hdep])
          have e22 : ac.eval (.tmp 22) = .int .i64 (j : Int) := (hE 22 (by simp)).trans (by simp [evF, hdep, d5])
          exact soft_value (.pointer (some ⟨bb, j * 14, none⟩)) (by simp [execOp, e21, e22, ixk 30 _ 14 Tryz.underlying30 (by kernel_rfl) bb 0 j n' n' HLT.out, Result.andThen]) rfl
        · have d6 : vs 6 = .pointer (some ⟨bb, j * 14, none⟩) := hR 6 (by simp [hdep])
          have e23 : ac.eval (.tmp 23) = .pointer (some ⟨bb, j * 14, none⟩) := (hE 23 (by simp)).trans (by simp [evF, hdep, d6])
          exact wp_load_at 57 (.tmp 23) rfl bb (j * 14) e23 (olC dl dy x E) _ (HLB.out W1 hB) Tryz.underlying57 rfl (by kernel_rfl) ⟨_, rfl, Below.refl _ _, rfl⟩
        · have d3 : vs 3 = .agg #[.string ⟨#[]⟩, .string x.dst, .int .i64 0, .int .i64 x.kind, .int .i64 0, .string dl, .string ⟨#[]⟩, .string ⟨#[]⟩, .int .i64 0, .int .i64 dy, .string x.cur, .int .i64 x.amt, D, .slice none 0 0] := hR 3 (by simp [hdep])
          have e20 : ac.eval (.tmp 20) = .agg #[.string ⟨#[]⟩, .string x.dst, .int .i64 0, .int .i64 x.kind, .int .i64 0, .string dl, .string ⟨#[]⟩, .string ⟨#[]⟩, .int .i64 0, .int .i64 dy, .string x.cur, .int .i64 x.amt, D, .slice none 0 0] := (hE 20 (by simp)).trans (by simp [evF, hdep, d3])
          have d7 : vs 7 = .agg #[.string ⟨#[]⟩, .string x.dst, .int .i64 0, .int .i64 x.kind, .int .i64 0, .string dl, .string ⟨#[]⟩, .string ⟨#[]⟩, .int .i64 0, .int .i64 dy, .string x.cur, .int .i64 x.amt, E, .slice none 0 0] := hR 7 (by simp [hdep])
          have e24 : ac.eval (.tmp 24) = .agg #[.string ⟨#[]⟩, .string x.dst, .int .i64 0, .int .i64 x.kind, .int .i64 0, .string dl, .string ⟨#[]⟩, .string ⟨#[]⟩, .int .i64 0, .int .i64 dy, .string x.cur, .int .i64 x.amt, E, .slice none 0 0] := (hE 24 (by simp)).trans (by simp [evF, hdep, d7])
          refine soft_call 37 _ _ rfl (enters_fn Tryz.func37 (by kernel_rfl) rfl) #[.agg #[.string ⟨#[]⟩, .string x.dst, .int .i64 0, .int .i64 x.kind, .int .i64 0, .string dl, .string ⟨#[]⟩, .string ⟨#[]⟩, .int .i64 0, .int .i64 dy, .string x.cur, .int .i64 x.amt, D, .slice none 0 0], .agg #[.string ⟨#[]⟩, .string x.dst, .int .i64 0, .int .i64 x.kind, .int .i64 0, .string dl, .string ⟨#[]⟩, .string ⟨#[]⟩, .int .i64 0, .int .i64 dy, .string x.cur, .int .i64 x.amt, E, .slice none 0 0]] (by simp [e20, e24, ec]) ?_
          refine (lsame_any dl dy x D E B Ha B' Hb W1 (HD.out.below hB) (HD'.out.below hB) HMX.out).mono ?_
          rintro e9 w9 ⟨rfl, hb9⟩
          exact ⟨_, rfl, hb9, rfl⟩
        · have d8 : vs 8 = .bool true := hR 8 (by simp [hdep])
          have e25 : ac.eval (.tmp 25) = .bool true := (hE 25 (by simp)).trans (by simp [evF, hdep, d8])
          exact soft_value (.bool false) (by unfold execOp; simp only [e25]; first | rfl | go_simp) rfl
      · intro vs W hB hR
        have r9 : vs 9 = .bool false := hR 9 (by simp)
        have HB9 := Lib.hid (hb.out.trans (hB.mono hb.out.size))
        clear hR hB
        simp only [fillA, Act.put, List.setIfInBounds_toArray, List.set_cons_zero, List.set_cons_succ, if_true, r9]
        have i2 := HLT.out
        go_wp2_with fail
        go_roundw
        case rel => exact ⟨j + 1, by omega, by go_num, HB9⟩
        case measure => simp [intOf]; omega
    · have i0 : ¬ (j : Int) < (n' : Int) := by omega
      go_wp2_with fail
      go_ret
      exact ⟨rfl, hb.out⟩
end Go.Proofs.YtdanjegnhdpnlaaGreatDoor.kit

namespace Go.Proofs.YtdanjegnhdpnlaaGreatDoor.kit
open Go.RowKit
set_option linter.unusedVariables false
set_option linter.unusedSimpArgs false
/-- Some Bool; if it is false, so much holds. -/
def BoolP (w : World) (F : Prop) (e : Ending) (w' : World) : Prop := ∃ b : Bool, e = .returned (.bool b) ∧ (b = false → F) ∧ Below w.heap.size w w'
set_option maxRecDepth 100000 in
set_option maxHeartbeats 6400000 in
theorem wide_any (s : Su) (ps : List Pty) (xs : List Dx) (w : World) (hp : SliceOf w 3 ptyC s.pA s.pn ps) (hd : SliceOf w 17 dxC s.dA s.dn xs) (h1 : s.pn ≤ maxLen) (h2 : s.dn ≤ maxLen) :
    Calls Tryz.prog 4 #[.agg #[.slice s.pA s.pn s.pc, .slice s.dA s.dn s.dc, .slice s.fA s.fn s.fc, .slice s.rA s.rn s.rc, .slice s.hA s.hn s.hc]] w (BoolP w (s.pn ≤ 16 ∧ s.dn ≤ 16)) := by
  obtain ⟨pA, pn, pc, dA, dn, dc, fA, fn, fc, rA, rn, rc, hA, hn, hc⟩ := s
  dsimp only at hp hd h1 h2 ⊢
  have HP := Lib.hid hp
  have HD := Lib.hid hd
  have h1 : pn ≤ 9223372036854775807 := h1
  have h2 : dn ≤ 9223372036854775807 := h2
  have HB0 := Lib.hid (one_alloc w (.cells #[.slice pA pn pc, .slice dA dn dc, .slice fA fn fc, .slice rA rn rc, .slice hA hn hc] 29))
  have HK0 : Hid (Blk (w.alloc (.cells #[.slice pA pn pc, .slice dA dn dc, .slice fA fn fc, .slice rA rn rc, .slice hA hn hc] 29)) w.heap.size 29 #[.slice pA pn pc, .slice dA dn dc, .slice fA fn fc, .slice rA rn rc, .slice hA hn hc]) := Lib.hid (Blk.new _ _ _)
  clear hp hd
  go_enter Tryz.func4, Tryz.ntmps4
  go_upto_region 1 with (fail)
  generalize Value.agg #[.slice pA pn pc, .slice dA dn dc, .slice fA fn fc, .slice rA rn rc, .slice hA hn hc] = SV
  obtain ⟨w0, hw0⟩ : ∃ W, w.alloc (.cells #[.slice pA pn pc, .slice dA dn dc, .slice fA fn fc, .slice rA rn rc, .slice hA hn hc] 29) = W := ⟨_, rfl⟩
  obtain ⟨gs, hgs⟩ : ∃ g, w.heap.size = g := ⟨_, rfl⟩
  rw [hw0] at HB0 HK0 ⊢
  rw [hgs] at HK0
  simp only [hgs]
  have HGS := Lib.hid hgs
  clear hw0 hgs
  have s0 := HK0.out.cell 0
  simp only [List.getElem?_toArray, List.getElem?_cons_zero, List.getElem?_cons_succ] at s0
  go_wp2_with fail
  clear s0
  go_loopw [3, 11] (fun a i wr => ∃ (k : Nat) (z : Int), k ≤ pn ∧ a = .int .i64 z ∧ i = .int .i64 k ∧ Hid (Below w0.heap.size w0 wr)) (fun _ i _ => pn - (intOf i).toNat)
  case atStart => exact ⟨0, 0, by omega, rfl, rfl, Lib.hid (Below.refl _ _)⟩
  case round =>
    obtain ⟨k, z, hk, rfl, rfl, hb⟩ := hrel
    have hlen := HP.out.len
    by_cases hlt : k < pn
    · obtain ⟨b, off, p, hpA, hpk, hc⟩ := el_at (HP.out.below (HB0.out.trans (hb.out.mono HB0.out.size))) hlt
      subst hpA
      have c0 := hc 0 _ rfl; have c1 := hc 1 _ rfl; have c2 := hc 2 _ rfl
      rw [Nat.add_zero] at c0
      have i0 : (k : Int) < (pn : Int) := by omega
      have HB2 := Lib.hid (hb.out.alloc hb.out.size (.cells #[.string p.nm, .string p.bank, .int .i64 p.kind] 48))
      have HP2 : Hid (Blk (wr.alloc (.cells #[.string p.nm, .string p.bank, .int .i64 p.kind] 48)) wr.heap.size 48 #[.string p.nm, .string p.bank, .int .i64 p.kind]) := Lib.hid (Blk.new _ _ _)
      clear hpk hc
      go_upto_region 5 with ((refine stop_store 48 _ _ rfl ?_; refine wpList_store_new rfl 48 _ _ rfl _ rfl rfl (by kernel_rfl) rfl rfl ?_))
      obtain ⟨w2, hw2⟩ : ∃ W, wr.alloc (.cells #[.string p.nm, .string p.bank, .int .i64 p.kind] 48) = W := ⟨_, rfl⟩
      obtain ⟨gp, hgp⟩ : ∃ g, wr.heap.size = g := ⟨_, rfl⟩
      rw [hw2] at HB2 HP2 ⊢
      rw [hgp] at HP2
      simp only [hgp]
      clear hw2 hgp c0 c1 c2
      have p0 := HP2.out.cell 0; have p1 := HP2.out.cell 1
      simp only [List.getElem?_toArray, List.getElem?_cons_zero, List.getElem?_cons_succ] at p0 p1
      go_wp2_with fail
      go_roundw
      case rel => exact ⟨k + 1, _, by omega, rfl, by go_num, HB2⟩
      case measure => simp [intOf]; omega
    · have i0 : ¬ (k : Int) < (pn : Int) := by omega
      have HK1 := Lib.hid (HK0.out.below hb.out HK0.out.lt)
      have HB1 := Lib.hid (HB0.out.trans (hb.out.mono HB0.out.size))
      have s1 := HK1.out.cell 1
      simp only [List.getElem?_toArray, List.getElem?_cons_zero, List.getElem?_cons_succ] at s1
      go_wp2_with fail
      clear s1
      go_loopw [3, 28] (fun a i wr => ∃ (k : Nat) (z : Int), k ≤ dn ∧ a = .int .i64 z ∧ i = .int .i64 k ∧ Hid (Below w0.heap.size w0 wr)) (fun _ i _ => dn - (intOf i).toNat)
      case atStart => exact ⟨0, _, by omega, rfl, rfl, hb⟩
      case round =>
        obtain ⟨j, y, hj, rfl, rfl, hb2⟩ := hrel
        have hlen2 := HD.out.len
        by_cases hlj : j < dn
        · obtain ⟨b, off, x, hdA, hxk, hc⟩ := el_at (HD.out.below (HB0.out.trans (hb2.out.mono HB0.out.size))) hlj
          subst hdA
          have HC := Lib.hid hc
          have i1 : (j : Int) < (dn : Int) := by omega
          have HB2 := Lib.hid (hb2.out.alloc hb2.out.size (.cells #[.string x.d.num, .string x.d.sel, .string x.d.buy, .string x.d.car, .string x.d.iss, .string x.d.hou, .string x.d.ins, .string x.d.fr, .string x.d.dst, .string x.d.cur, .int .i64 x.d.amt, .slice x.A x.n x.c, .int .i64 x.d.term, .int .i64 x.d.lat, .int .i64 x.d.exp, .int .i64 x.d.ten, .int .i64 x.d.dut] 53))
          have HG10 : Hid (Blk (wr.alloc (.cells #[.string x.d.num, .string x.d.sel, .string x.d.buy, .string x.d.car, .string x.d.iss, .string x.d.hou, .string x.d.ins, .string x.d.fr, .string x.d.dst, .string x.d.cur, .int .i64 x.d.amt, .slice x.A x.n x.c, .int .i64 x.d.term, .int .i64 x.d.lat, .int .i64 x.d.exp, .int .i64 x.d.ten, .int .i64 x.d.dut] 53)) wr.heap.size 53 #[.string x.d.num, .string x.d.sel, .string x.d.buy, .string x.d.car, .string x.d.iss, .string x.d.hou, .string x.d.ins, .string x.d.fr, .string x.d.dst, .string x.d.cur, .int .i64 x.d.amt, .slice x.A x.n x.c, .int .i64 x.d.term, .int .i64 x.d.lat, .int .i64 x.d.exp, .int .i64 x.d.ten, .int .i64 x.d.dut]) := Lib.hid (Blk.new _ _ _)
          clear hxk hc
          go_upto_region 10 with (first | ((refine stop_store 53 _ _ rfl ?_; refine wpList_store_new rfl 53 _ _ rfl _ rfl rfl (by kernel_rfl) rfl rfl ?_)) | (refine stop_load 53 _ rfl ?_; refine wpList_load_at rfl 53 _ rfl b (off + j * 17) rfl (dlC x.d (.slice x.A x.n x.c)) _ HC.out Tryz.underlying53 rfl (by kernel_rfl) ?_))
          obtain ⟨w4, hw4⟩ : ∃ W, wr.alloc (.cells #[.string x.d.num, .string x.d.sel, .string x.d.buy, .string x.d.car, .string x.d.iss, .string x.d.hou, .string x.d.ins, .string x.d.fr, .string x.d.dst, .string x.d.cur, .int .i64 x.d.amt, .slice x.A x.n x.c, .int .i64 x.d.term, .int .i64 x.d.lat, .int .i64 x.d.exp, .int .i64 x.d.ten, .int .i64 x.d.dut] 53) = W := ⟨_, rfl⟩
          obtain ⟨g, hg⟩ : ∃ g, wr.heap.size = g := ⟨_, rfl⟩
          rw [hw4] at HG10 HB2
          change Code.wp _ _ _ _ (wr.alloc (.cells #[.string x.d.num, .string x.d.sel, .string x.d.buy, .string x.d.car, .string x.d.iss, .string x.d.hou, .string x.d.ins, .string x.d.fr, .string x.d.dst, .string x.d.cur, .int .i64 x.d.amt, .slice x.A x.n x.c, .int .i64 x.d.term, .int .i64 x.d.lat, .int .i64 x.d.exp, .int .i64 x.d.ten, .int .i64 x.d.dut] 53))
          rw [hw4]
          rw [hg] at HG10
          simp only [hg]
          clear hw4 hg
          have d0 := HG10.out.cell 0; have d1 := HG10.out.cell 1; have d2 := HG10.out.cell 2; have d3 := HG10.out.cell 3; have d4 := HG10.out.cell 4; have d5 := HG10.out.cell 5; have d6 := HG10.out.cell 6; have d7 := HG10.out.cell 7; have d8 := HG10.out.cell 8; have d9 := HG10.out.cell 9
          simp only [List.getElem?_toArray, List.getElem?_cons_zero, List.getElem?_cons_succ] at d0 d1 d2 d3 d4 d5 d6 d7 d8 d9
          go_wp2_with fail
          go_roundw
          case rel => exact ⟨j + 1, _, by omega, rfl, by go_num, HB2⟩
          case measure => simp [intOf]; omega
        · have i1 : ¬ (j : Int) < (dn : Int) := by omega
          have HK2 := Lib.hid (HK0.out.below hb2.out HK0.out.lt)
          have HB9 := Lib.hid (HB0.out.trans (hb2.out.mono HB0.out.size))
          have s0 := HK2.out.cell 0; have s1 := HK2.out.cell 1
          simp only [List.getElem?_toArray, List.getElem?_cons_zero, List.getElem?_cons_succ] at s0 s1
          by_cases hy : y > 2000
          · have q0 : decide (y > 2000) = true := decide_eq_true hy
            clear hy
            go_wp2_with fail
            go_ret
            exact ⟨true, rfl, fun h => (by cases h), HB9.out⟩
          · have q0 : decide (y > 2000) = false := decide_eq_false hy
            by_cases hp16 : (pn : Int) > 16
            · have q1 : decide ((pn : Int) > 16) = true := decide_eq_true hp16
              clear hy hp16
              go_wp2_with fail
              go_ret
              exact ⟨true, rfl, fun h => (by cases h), HB9.out⟩
            · have q1 : decide ((pn : Int) > 16) = false := decide_eq_false hp16
              by_cases hd16 : (dn : Int) > 16
              · have q2 : decide ((dn : Int) > 16) = true := decide_eq_true hd16
                clear hy hp16 hd16
                go_wp2_with fail
                go_ret
                exact ⟨true, rfl, fun h => (by cases h), HB9.out⟩
              · have q2 : decide ((dn : Int) > 16) = false := decide_eq_false hd16
                have HE : Hid (pn ≤ 16 ∧ dn ≤ 16) := Lib.hid ⟨by omega, by omega⟩
                clear hy hp16 hd16
                go_wp2_with fail
                go_ret
                exact ⟨false, rfl, fun _ => HE.out, HB9.out⟩
set_option maxRecDepth 100000 in
set_option maxHeartbeats 6400000 in
theorem long_any (A : Option Addr) (n c : Nat) (ls : List Lt) (w : World) (hl : SliceOf w 14 ltC A n ls) (h1 : n ≤ maxLen) :
    Calls Tryz.prog 5 #[.slice A n c] w (BoolP w (n ≤ 30)) := by
  have HL := Lib.hid hl
  have h1 : n ≤ 9223372036854775807 := h1
  clear hl
  go_enter Tryz.func5, Tryz.ntmps5
  go_wp2_with fail
  go_loopw [7] (fun i wr => ∃ (k : Nat), k ≤ n ∧ i = .int .i64 k ∧ Hid (Below w.heap.size w wr)) (fun i _ => n - (intOf i).toNat)
  case atStart => exact ⟨0, by omega, rfl, Lib.hid (Below.refl _ _)⟩
  case round =>
    obtain ⟨k, hk, rfl, hb⟩ := hrel
    have hlen := HL.out.len
    by_cases hlt : k < n
    · obtain ⟨b, off, x, hA, hxk, hc⟩ := el_at (HL.out.below hb.out) hlt
      subst hA
      have HC := Lib.hid hc
      have i0 : (k : Int) < (n : Int) := by omega
      have HB2 := Lib.hid (hb.out.alloc hb.out.size (.cells #[.string x.fr, .string x.to, .int .i64 x.num, .int .i64 x.kind, .int .i64 x.ack, .string x.deal, .string x.text, .string x.party, .int .i64 x.idx, .int .i64 x.day, .string x.cur, .int .i64 x.amt, .slice x.A1 x.n1 x.c1, .slice x.A2 x.n2 x.c2] 57))
      have HP2 : Hid (Blk (wr.alloc (.cells #[.string x.fr, .string x.to, .int .i64 x.num, .int .i64 x.kind, .int .i64 x.ack, .string x.deal, .string x.text, .string x.party, .int .i64 x.idx, .int .i64 x.day, .string x.cur, .int .i64 x.amt, .slice x.A1 x.n1 x.c1, .slice x.A2 x.n2 x.c2] 57)) wr.heap.size 57 #[.string x.fr, .string x.to, .int .i64 x.num, .int .i64 x.kind, .int .i64 x.ack, .string x.deal, .string x.text, .string x.party, .int .i64 x.idx, .int .i64 x.day, .string x.cur, .int .i64 x.amt, .slice x.A1 x.n1 x.c1, .slice x.A2 x.n2 x.c2]) := Lib.hid (Blk.new _ _ _)
      clear hxk hc
      go_upto_region 4 with (first | ((refine stop_store 57 _ _ rfl ?_; refine wpList_store_new rfl 57 _ _ rfl _ rfl rfl (by kernel_rfl) rfl rfl ?_)) | (refine stop_load 57 _ rfl ?_; refine wpList_load_at rfl 57 _ rfl b (off + k * 14) rfl (ltC x) _ HC.out Tryz.underlying57 rfl (by kernel_rfl) ?_))
      obtain ⟨w4, hw4⟩ : ∃ W, wr.alloc (.cells #[.string x.fr, .string x.to, .int .i64 x.num, .int .i64 x.kind, .int .i64 x.ack, .string x.deal, .string x.text, .string x.party, .int .i64 x.idx, .int .i64 x.day, .string x.cur, .int .i64 x.amt, .slice x.A1 x.n1 x.c1, .slice x.A2 x.n2 x.c2] 57) = W := ⟨_, rfl⟩
      obtain ⟨g, hg⟩ : ∃ g, wr.heap.size = g := ⟨_, rfl⟩
      rw [hw4] at HP2 HB2
      change Code.wp _ _ _ _ (wr.alloc (.cells #[.string x.fr, .string x.to, .int .i64 x.num, .int .i64 x.kind, .int .i64 x.ack, .string x.deal, .string x.text, .string x.party, .int .i64 x.idx, .int .i64 x.day, .string x.cur, .int .i64 x.amt, .slice x.A1 x.n1 x.c1, .slice x.A2 x.n2 x.c2] 57))
      rw [hw4]
      rw [hg] at HP2
      simp only [hg]
      clear hw4 hg
      have d0 := HP2.out.cell 0; have d5 := HP2.out.cell 5; have d10 := HP2.out.cell 10
      simp only [List.getElem?_toArray, List.getElem?_cons_zero, List.getElem?_cons_succ] at d0 d5 d10
      go_wp2_with fail
      · go_ret
        exact ⟨true, rfl, fun h => (by cases h), HB2.out⟩
      · go_roundw
        case rel => exact ⟨k + 1, by omega, by go_num, HB2⟩
        case measure => simp [intOf]; omega
    · have i0 : ¬ (k : Int) < (n : Int) := by omega
      go_wp2_with fail
      go_ret
      exact ⟨_, rfl, fun h => (by have q : (n : Int) ≤ 30 := (by simpa using h); omega), hb.out⟩
end Go.Proofs.YtdanjegnhdpnlaaGreatDoor.kit

namespace Go.Proofs.YtdanjegnhdpnlaaGreatDoor.kit
open Go.RowKit Go.PlainAid
set_option linter.unusedVariables false
set_option linter.unusedSimpArgs false
def awD : Dl := ⟨⟨#[100]⟩, ⟨#[]⟩, ⟨#[121]⟩, ⟨#[99]⟩, ⟨#[]⟩, ⟨#[104]⟩, ⟨#[]⟩, ⟨#[]⟩, ⟨#[]⟩, ⟨#[85, 83, 68]⟩, 500, 0, 0, 0, 0, 50⟩
def awX : Dx := ⟨awD, none, 0, 0⟩
def awP : Pty := ⟨⟨#[104]⟩, ⟨#[107]⟩, 3⟩
theorem awDue : dueV awD = 25 := by decide +kernel
theorem awWho : whoV ⟨#[104]⟩ [awP] = (3, ⟨#[107]⟩) := by decide +kernel
theorem awDeals : dealsOf ⟨#[104]⟩ 3 [awX] ⟨#[100]⟩ = some awD := rfl
def awL (n : Int) : Lt := ⟨⟨#[107]⟩, ⟨#[]⟩, 0, 18, 0, ⟨#[100]⟩, ⟨#[]⟩, ⟨#[]⟩, 0, 0, ⟨#[85, 83, 68]⟩, n, none, 0, 0, none, 0, 0⟩
def awA : Lt := ⟨⟨#[121]⟩, ⟨#[]⟩, 0, 15, 0, ⟨#[100]⟩, ⟨#[]⟩, ⟨#[]⟩, 0, 0, ⟨#[]⟩, 0, none, 0, 0, none, 0, 0⟩
theorem awT1 : takeV 3 ⟨#[107]⟩ awD ⟨0, 0⟩ awA = (dutyL awD 25, ⟨1, 0⟩) := by
  unfold takeV declV
  rw [awDue]
  rfl
theorem awT2 : takeV 3 ⟨#[107]⟩ awD ⟨1, 0⟩ (awL 24) = ([], ⟨1, 24⟩) := by
  unfold takeV credV
  rw [awDue]
  rfl
theorem awT3 : takeV 3 ⟨#[107]⟩ awD ⟨1, 24⟩ (awL 1) = (freeL awD, ⟨2, 25⟩) := by
  unfold takeV credV
  rw [awDue]
  rfl
end Go.Proofs.YtdanjegnhdpnlaaGreatDoor.kit

namespace Go.Proofs.YtdanjegnhdpnlaaGreatDoor.kit
open Go.RowKit Go.PlainAid
set_option linter.unusedVariables false
set_option linter.unusedSimpArgs false
theorem awBuild (w : World) (n : Int) : (Instr.build 57 #[(0, .string ⟨#[107]⟩), (3, .int .i64 18), (5, .string ⟨#[100]⟩), (10, .agg #[.string ⟨#[85, 83, 68]⟩, .int .i64 n])]).run Tryz.prog w = .ok (.agg #[.string (awL n).fr, .string (awL n).to, .int .i64 (awL n).num, .int .i64 (awL n).kind, .int .i64 (awL n).ack, .string (awL n).deal, .string (awL n).text, .string (awL n).party, .int .i64 (awL n).idx, .int .i64 (awL n).day, .string (awL n).cur, .int .i64 (awL n).amt, .slice (awL n).A1 (awL n).n1 (awL n).c1, .slice (awL n).A2 (awL n).n2 (awL n).c2]) w := run_build w _ _ _ (by kernel_rfl)
theorem awBuildA (w : World) : (Instr.build 57 #[(0, .string ⟨#[121]⟩), (3, .int .i64 15), (5, .string ⟨#[100]⟩)]).run Tryz.prog w = .ok (.agg #[.string awA.fr, .string awA.to, .int .i64 awA.num, .int .i64 awA.kind, .int .i64 awA.ack, .string awA.deal, .string awA.text, .string awA.party, .int .i64 awA.idx, .int .i64 awA.day, .string awA.cur, .int .i64 awA.amt, .slice awA.A1 awA.n1 awA.c1, .slice awA.A2 awA.n2 awA.c2]) w := run_build w _ _ _ (by kernel_rfl)
def CloP (w : World) (lo hi o mb n : Nat) (nm bank : ByteArray) (kind : Int) (m : ByteArray → Option Nat) (ds : ByteArray → Option Dl) (st : ByteArray → St) (l : Lt) (e : Ending) (w' : World) : Prop :=
  e = .returned (.int .i64 ((outV kind bank (ds l.deal) (st l.deal) l).1.length : Nat)) ∧ Off w' lo hi o nm bank kind mb n m ds (setS st l.deal (outV kind bank (ds l.deal) (st l.deal) l).2) ∧ Fr (fun k => lo ≤ k ∧ k < hi) w w'
set_option maxRecDepth 100000 in
set_option maxHeartbeats 3200000 in
theorem aw_clo (k : Int) (g lo hi o mb n : Nat) (nm bank : ByteArray) (kind : Int) (m : ByteArray → Option Nat) (ds : ByteArray → Option Dl) (st : ByteArray → St) (w : World) (hg : w.cell? ⟨g, 0, none⟩ = some (.pointer (some ⟨o, 0, none⟩))) (h : Off w lo hi o nm bank kind mb n m ds st) (hl : I64 k) (hhi : hi ≤ w.heap.size) (ht : ∀ W, Fr (fun k => lo ≤ k ∧ k < hi) w W → PowTab W) :
    Calls Tryz.prog 16 #[.int .i64 k, (.pointer (some ⟨g, 0, none⟩))] w (CloP w lo hi o mb n nm bank kind m ds st (awL k)) := by
  have HT := Lib.hid (take_any lo hi o mb n nm bank kind m ds st (awL k) 1 w h hl hhi ht)
  have hb1 := mbuild w ⟨#[85, 83, 68]⟩ k
  have hb2 := awBuild w k
  clear h ht
  go_enter Tryz.func16, Tryz.ntmps16
  go_wp2_with fail
  refine HT.out.mono ?_
  rintro e w1 ⟨v, rfl, hv, hO, hF⟩
  obtain ⟨A, n1, rfl, hn1, _⟩ := hv.get
  have HO := Lib.hid hO
  have HF := Lib.hid hF
  clear hv hO hF
  go_wp2_with fail
  go_ret
  exact ⟨by rw [← hn1]; rfl, HO.out, HF.out⟩
theorem ptBuild (w : World) : (Instr.build 48 #[(0, .string ⟨#[104]⟩), (2, .int .i64 3), (1, .string ⟨#[107]⟩)]).run Tryz.prog w = .ok (.agg #[.string ⟨#[104]⟩, .string ⟨#[107]⟩, .int .i64 3]) w := run_build w _ _ _ (by kernel_rfl)
theorem ptSlice (w : World) : (Instr.buildSlice 22 1 #[(0, .agg #[.string ⟨#[104]⟩, .string ⟨#[107]⟩, .int .i64 3])]).run Tryz.prog w = .ok (.slice (some ⟨w.heap.size, 0, none⟩) 1 1) (w.alloc (.cells #[.string ⟨#[104]⟩, .string ⟨#[107]⟩, .int .i64 3] 48)) := by kernel_rfl
theorem dlBuild (w : World) : (Instr.build 53 #[(0, .string ⟨#[100]⟩), (2, .string ⟨#[121]⟩), (3, .string ⟨#[99]⟩), (5, .string ⟨#[104]⟩), (9, .agg #[.string ⟨#[85, 83, 68]⟩, .int .i64 500]), (15, .int .i64 50)]).run Tryz.prog w = .ok (.agg #[.string awD.num, .string awD.sel, .string awD.buy, .string awD.car, .string awD.iss, .string awD.hou, .string awD.ins, .string awD.fr, .string awD.dst, .string awD.cur, .int .i64 awD.amt, .slice none 0 0, .int .i64 awD.term, .int .i64 awD.lat, .int .i64 awD.exp, .int .i64 awD.ten, .int .i64 awD.dut]) w := run_build w _ _ _ (by kernel_rfl)
theorem dlSlice (w : World) : (Instr.buildSlice 23 1 #[(0, .agg #[.string awD.num, .string awD.sel, .string awD.buy, .string awD.car, .string awD.iss, .string awD.hou, .string awD.ins, .string awD.fr, .string awD.dst, .string awD.cur, .int .i64 awD.amt, .slice none 0 0, .int .i64 awD.term, .int .i64 awD.lat, .int .i64 awD.exp, .int .i64 awD.ten, .int .i64 awD.dut])]).run Tryz.prog w = .ok (.slice (some ⟨w.heap.size, 0, none⟩) 1 1) (w.alloc (.cells #[.string awD.num, .string awD.sel, .string awD.buy, .string awD.car, .string awD.iss, .string awD.hou, .string awD.ins, .string awD.fr, .string awD.dst, .string awD.cur, .int .i64 awD.amt, .slice none 0 0, .int .i64 awD.term, .int .i64 awD.lat, .int .i64 awD.exp, .int .i64 awD.ten, .int .i64 awD.dut] 53)) := by kernel_rfl
theorem suBuild (w : World) (g h : Nat) : (Instr.build 29 #[(0, .slice (some ⟨g, 0, none⟩) 1 1), (1, .slice (some ⟨h, 0, none⟩) 1 1)]).run Tryz.prog w = .ok (.agg #[.slice (some ⟨g, 0, none⟩) 1 1, .slice (some ⟨h, 0, none⟩) 1 1, .slice none 0 0, .slice none 0 0, .slice none 0 0]) w := run_build w _ _ _ (by kernel_rfl)
def awS (g h : Nat) : Su := ⟨some ⟨g, 0, none⟩, 1, 1, some ⟨h, 0, none⟩, 1, 1, none, 0, 0, none, 0, 0, none, 0, 0⟩
theorem awSu {W : World} {g h : Nat} (hp : Blk W g 48 #[.string ⟨#[104]⟩, .string ⟨#[107]⟩, .int .i64 3]) (hd : Blk W h 53 #[.string awD.num, .string awD.sel, .string awD.buy, .string awD.car, .string awD.iss, .string awD.hou, .string awD.ins, .string awD.fr, .string awD.dst, .string awD.cur, .int .i64 awD.amt, .slice none 0 0, .int .i64 awD.term, .int .i64 awD.lat, .int .i64 awD.exp, .int .i64 awD.ten, .int .i64 awD.dut]) : SuOK W (awS g h) [awP] [awX] where
  p := SliceOf.blk (en := ptyC) hp [awP] rfl pty_len rfl
  d := SliceOf.blk (en := dxC) hd [awX] rfl dx_len rfl
  bx := fun x hx => by
    obtain rfl : x = awX := by simpa using hx
    exact ⟨by decide, [], SliceOf.none_, fun b hb => by cases hb⟩
  ok := fun x hx => by
    obtain rfl : x = awX := by simpa using hx
    exact ⟨by decide, by unfold maxLen; decide, ⟨by decide, by decide⟩, ⟨by decide, by decide⟩⟩
  pn := (by omega : (1 : Nat) ≤ 16)
  dn := (by omega : (1 : Nat) ≤ 16)
set_option maxRecDepth 100000 in
set_option maxHeartbeats 12800000 in
theorem awake_any (w : World) (ht : PowTab w) : Calls Tryz.prog 6 #[] w fun e w' => e = .returned (.bool true) ∧ Below w.heap.size w w' := by
  have HTB := Lib.hid (Lib.tabBelow_of_tabIs ht)
  have q1 := ptBuild; have q2 := ptSlice; have q3 := mbuild; have q4 := dlBuild; have q5 := dlSlice; have q6 := suBuild
  clear ht
  go_enter Tryz.func6, Tryz.ntmps6
  go_upto_region 2 with ((refine stop_store 29 _ _ rfl ?_; refine wpList_store_new rfl 29 _ _ rfl _ rfl rfl (by kernel_rfl) rfl rfl ?_))
  have HP1 : Hid (Blk (((w.alloc (.cells #[.string ⟨#[104]⟩, .string ⟨#[107]⟩, .int .i64 3] 48)).alloc (.cells #[.string awD.num, .string awD.sel, .string awD.buy, .string awD.car, .string awD.iss, .string awD.hou, .string awD.ins, .string awD.fr, .string awD.dst, .string awD.cur, .int .i64 awD.amt, .slice none 0 0, .int .i64 awD.term, .int .i64 awD.lat, .int .i64 awD.exp, .int .i64 awD.ten, .int .i64 awD.dut] 53)).alloc (.cells #[.slice (some ⟨w.heap.size, 0, none⟩) 1 1, .slice (some ⟨w.heap.size + 1, 0, none⟩) 1 1, .slice none 0 0, .slice none 0 0, .slice none 0 0] 29)) w.heap.size 48 #[.string ⟨#[104]⟩, .string ⟨#[107]⟩, .int .i64 3]) := Lib.hid (((Blk.new _ _ _).alloc _).alloc _)
  have HD1 : Hid (Blk (((w.alloc (.cells #[.string ⟨#[104]⟩, .string ⟨#[107]⟩, .int .i64 3] 48)).alloc (.cells #[.string awD.num, .string awD.sel, .string awD.buy, .string awD.car, .string awD.iss, .string awD.hou, .string awD.ins, .string awD.fr, .string awD.dst, .string awD.cur, .int .i64 awD.amt, .slice none 0 0, .int .i64 awD.term, .int .i64 awD.lat, .int .i64 awD.exp, .int .i64 awD.ten, .int .i64 awD.dut] 53)).alloc (.cells #[.slice (some ⟨w.heap.size, 0, none⟩) 1 1, .slice (some ⟨w.heap.size + 1, 0, none⟩) 1 1, .slice none 0 0, .slice none 0 0, .slice none 0 0] 29)) (w.heap.size + 1) 53 #[.string awD.num, .string awD.sel, .string awD.buy, .string awD.car, .string awD.iss, .string awD.hou, .string awD.ins, .string awD.fr, .string awD.dst, .string awD.cur, .int .i64 awD.amt, .slice none 0 0, .int .i64 awD.term, .int .i64 awD.lat, .int .i64 awD.exp, .int .i64 awD.ten, .int .i64 awD.dut]) := Lib.hid ((blk_second _ _ _ _).alloc _)
  have HS1 : Hid (Blk (((w.alloc (.cells #[.string ⟨#[104]⟩, .string ⟨#[107]⟩, .int .i64 3] 48)).alloc (.cells #[.string awD.num, .string awD.sel, .string awD.buy, .string awD.car, .string awD.iss, .string awD.hou, .string awD.ins, .string awD.fr, .string awD.dst, .string awD.cur, .int .i64 awD.amt, .slice none 0 0, .int .i64 awD.term, .int .i64 awD.lat, .int .i64 awD.exp, .int .i64 awD.ten, .int .i64 awD.dut] 53)).alloc (.cells #[.slice (some ⟨w.heap.size, 0, none⟩) 1 1, .slice (some ⟨w.heap.size + 1, 0, none⟩) 1 1, .slice none 0 0, .slice none 0 0, .slice none 0 0] 29)) (w.heap.size + 1 + 1) 29 #[.slice (some ⟨w.heap.size, 0, none⟩) 1 1, .slice (some ⟨w.heap.size + 1, 0, none⟩) 1 1, .slice none 0 0, .slice none 0 0, .slice none 0 0]) := Lib.hid (Blk.new_at _ _ _ _ (by simp))
  have HB1 : Hid (Below w.heap.size w (((w.alloc (.cells #[.string ⟨#[104]⟩, .string ⟨#[107]⟩, .int .i64 3] 48)).alloc (.cells #[.string awD.num, .string awD.sel, .string awD.buy, .string awD.car, .string awD.iss, .string awD.hou, .string awD.ins, .string awD.fr, .string awD.dst, .string awD.cur, .int .i64 awD.amt, .slice none 0 0, .int .i64 awD.term, .int .i64 awD.lat, .int .i64 awD.exp, .int .i64 awD.ten, .int .i64 awD.dut] 53)).alloc (.cells #[.slice (some ⟨w.heap.size, 0, none⟩) 1 1, .slice (some ⟨w.heap.size + 1, 0, none⟩) 1 1, .slice none 0 0, .slice none 0 0, .slice none 0 0] 29))) := Lib.hid ((two_alloc w (.cells #[.string ⟨#[104]⟩, .string ⟨#[107]⟩, .int .i64 3] 48) (.cells #[.string awD.num, .string awD.sel, .string awD.buy, .string awD.car, .string awD.iss, .string awD.hou, .string awD.ins, .string awD.fr, .string awD.dst, .string awD.cur, .int .i64 awD.amt, .slice none 0 0, .int .i64 awD.term, .int .i64 awD.lat, .int .i64 awD.exp, .int .i64 awD.ten, .int .i64 awD.dut] 53)).alloc (by simp; omega) _)
  obtain ⟨w1, hw1⟩ : ∃ W, (((w.alloc (.cells #[.string ⟨#[104]⟩, .string ⟨#[107]⟩, .int .i64 3] 48)).alloc (.cells #[.string awD.num, .string awD.sel, .string awD.buy, .string awD.car, .string awD.iss, .string awD.hou, .string awD.ins, .string awD.fr, .string awD.dst, .string awD.cur, .int .i64 awD.amt, .slice none 0 0, .int .i64 awD.term, .int .i64 awD.lat, .int .i64 awD.exp, .int .i64 awD.ten, .int .i64 awD.dut] 53)).alloc (.cells #[.slice (some ⟨w.heap.size, 0, none⟩) 1 1, .slice (some ⟨w.heap.size + 1, 0, none⟩) 1 1, .slice none 0 0, .slice none 0 0, .slice none 0 0] 29)) = W := ⟨_, rfl⟩
  rw [hw1] at HP1 HD1 HS1 HB1
  change Code.wp _ _ _ _ (((w.alloc (.cells #[.string ⟨#[104]⟩, .string ⟨#[107]⟩, .int .i64 3] 48)).alloc (.cells #[.string awD.num, .string awD.sel, .string awD.buy, .string awD.car, .string awD.iss, .string awD.hou, .string awD.ins, .string awD.fr, .string awD.dst, .string awD.cur, .int .i64 awD.amt, .slice none 0 0, .int .i64 awD.term, .int .i64 awD.lat, .int .i64 awD.exp, .int .i64 awD.ten, .int .i64 awD.dut] 53)).alloc (.cells #[.slice (some ⟨w.heap.size, 0, none⟩) 1 1, .slice (some ⟨w.heap.size + 1, 0, none⟩) 1 1, .slice none 0 0, .slice none 0 0, .slice none 0 0] 29))
  rw [hw1]
  obtain ⟨gs, hgs⟩ : ∃ g, w.heap.size + 1 + 1 = g := ⟨_, rfl⟩
  rw [hgs] at HS1
  simp only [hgs]
  have HN := Lib.hid (new_any ⟨#[104]⟩ (awS w.heap.size (w.heap.size + 1)) [awP] [awX] w1 (awSu HP1.out HD1.out))
  clear hw1 hgs q1 q2 q3 q4 q5 q6
  go_wp2_with ((refine stop_load 29 _ rfl ?_; refine wpList_load_want rfl 29 _ rfl gs rfl 29 _ _ HS1.out Tryz.underlying29 rfl (by kernel_rfl) ?_))
  refine HN.out.mono ?_
  rintro e w2 ⟨o, mb, n, m, rfl, hO, hb2⟩
  rw [awWho] at hO
  dsimp only at hO
  have HB2 := Lib.hid (HB1.out.trans (hb2.mono HB1.out.size))
  have HO3 := Lib.hid (hO.below (one_alloc w2 (.cells #[(.pointer (some ⟨o, 0, none⟩))] 34)))
  have HB3 := Lib.hid (HB2.out.alloc HB2.out.size (.cells #[(.pointer (some ⟨o, 0, none⟩))] 34))
  have HC3 : Hid (Blk (w2.alloc (.cells #[(.pointer (some ⟨o, 0, none⟩))] 34)) w2.heap.size 34 #[(.pointer (some ⟨o, 0, none⟩))]) := Lib.hid (Blk.new _ _ _)
  have HL3 : Hid (w.heap.size ≤ w1.heap.size) := Lib.hid HB1.out.size
  have HZ3 : Hid (w2.heap.size < (w2.alloc (.cells #[(.pointer (some ⟨o, 0, none⟩))] 34)).heap.size) := Lib.hid (by rw [size_alloc]; omega)
  clear hO hb2 HN
  go_upto_region 3 with (first | (refine stop_store 34 _ _ rfl ?_; refine wpList_store_new rfl 34 _ _ rfl _ rfl rfl (by kernel_rfl) rfl rfl ?_))
  obtain ⟨w3, hw3⟩ : ∃ W, w2.alloc (.cells #[(.pointer (some ⟨o, 0, none⟩))] 34) = W := ⟨_, rfl⟩
  obtain ⟨g2, hg2⟩ : ∃ g, w2.heap.size = g := ⟨_, rfl⟩
  rw [hw3] at HO3 HB3 HC3 HZ3 ⊢
  rw [hg2] at HO3 HC3 HZ3
  simp only [hg2]
  clear hw3 hg2 HB2 HP1 HD1 HS1
  have c0 := HC3.out.cell 0
  simp only [List.getElem?_toArray, List.getElem?_cons_zero] at c0
  have qA := awBuildA w3
  obtain ⟨lo, hlo⟩ : ∃ g, w1.heap.size = g := ⟨_, rfl⟩
  rw [hlo] at HO3 HL3
  clear hlo
  have HTF : ∀ W1, Below w.heap.size w W1 → g2 ≤ W1.heap.size → ∀ W, Fr (fun k => lo ≤ k ∧ k < g2) W1 W → PowTab W := fun W1 hb hz W hW => HTB.out W (hW.bel hb (fun k hk => Nat.le_trans HL3.out hk.1) hb.size)
  have HTF := Lib.hid HTF
  have HD0 : Hid (dealsOf ⟨#[104]⟩ 3 [awX] ⟨#[100]⟩ = some awD) := Lib.hid awDeals
  obtain ⟨ds, hds⟩ : ∃ ds, dealsOf ⟨#[104]⟩ 3 [awX] = ds := ⟨_, rfl⟩
  rw [hds] at HO3 HD0
  clear hds
  have HT1 := Lib.hid (take_any lo g2 o mb n ⟨#[104]⟩ ⟨#[107]⟩ 3 m ds (fun _ => ⟨0, 0⟩) awA 1 w3 HO3.out ⟨by decide, by decide⟩ (Nat.le_of_lt HZ3.out) (HTF.out w3 HB3.out (Nat.le_of_lt HZ3.out)))
  go_wp2_with fail
  refine HT1.out.mono ?_
  rintro e w4 ⟨v, rfl, hv, hO4, hF4⟩
  have e1 : outV 3 ⟨#[107]⟩ (ds awA.deal) ((fun _ => ⟨0, 0⟩ : ByteArray → St) awA.deal) awA = (dutyL awD 25, ⟨1, 0⟩) := by
    show outV 3 ⟨#[107]⟩ (ds ⟨#[100]⟩) ⟨0, 0⟩ awA = _
    rw [HD0.out]
    exact awT1
  rw [e1] at hv hO4
  obtain ⟨A4, n4, rfl, hn4, -, hv4⟩ := hv.get
  obtain rfl : n4 = 1 := hn4
  obtain ⟨b, x, D, H, rfl, hx, hcx, -⟩ := hv4 0 (by omega)
  have hx0 : x = ⟨awD.buy, 16, awD.cur, 25, none⟩ := by simpa [dutyL] using hx.symm
  subst hx0
  have c11 : w4.cell? ⟨b, 11, none⟩ = some (.int .i64 25) := by have q := hcx 11 _ rfl; simpa using q
  have HO4 := Lib.hid hO4
  have HB4 := Lib.hid (hF4.bel HB3.out (fun k hk => Nat.le_trans HL3.out hk.1) HB3.out.size)
  have HC4 := Lib.hid (HC3.out.fr hF4 (fun h => by omega))
  have HZ4 : Hid (g2 ≤ w4.heap.size) := Lib.hid (Nat.le_trans (Nat.le_of_lt HZ3.out) hF4.size)
  clear hv hO4 hF4 e1 hv4 hx hcx HT1 qA c0 HO3
  have c4 := HC4.out.cell 0
  simp only [List.getElem?_toArray, List.getElem?_cons_zero] at c4
  have HL1 := Lib.hid (aw_clo 24 g2 lo g2 o mb n ⟨#[104]⟩ ⟨#[107]⟩ 3 m ds _ w4 c4 HO4.out ⟨by decide, by decide⟩ HZ4.out (HTF.out w4 HB4.out HZ4.out))
  go_wp2_with fail
  refine HL1.out.mono ?_
  rintro e w5 ⟨he, hO5, hF5⟩
  have e2 : outV 3 ⟨#[107]⟩ (ds (awL 24).deal) (setS (fun _ => ⟨0, 0⟩) awA.deal ((dutyL awD 25, ⟨1, 0⟩) : List Ol × St).2 (awL 24).deal) (awL 24) = ([], ⟨1, 24⟩) := by
    show outV 3 ⟨#[107]⟩ (ds ⟨#[100]⟩) (setS (fun _ => ⟨0, 0⟩) ⟨#[100]⟩ ⟨1, 0⟩ ⟨#[100]⟩) (awL 24) = _
    rw [HD0.out]
    unfold setS
    rw [if_pos rfl]
    exact awT2
  rw [e2] at he hO5
  have he' : e = .returned (.int .i64 0) := he
  subst he'
  have HO5 := Lib.hid hO5
  have HB5 := Lib.hid (hF5.bel HB4.out (fun k hk => Nat.le_trans HL3.out hk.1) HB4.out.size)
  have HC5 := Lib.hid (HC4.out.fr hF5 (fun h => by omega))
  have HZ5 : Hid (g2 ≤ w5.heap.size) := Lib.hid (Nat.le_trans HZ4.out hF5.size)
  clear hO5 hF5 e2 he HL1 HO4 c4 c11
  have c5 := HC5.out.cell 0
  simp only [List.getElem?_toArray, List.getElem?_cons_zero] at c5
  have HL2 := Lib.hid (aw_clo 1 g2 lo g2 o mb n ⟨#[104]⟩ ⟨#[107]⟩ 3 m ds _ w5 c5 HO5.out ⟨by decide, by decide⟩ HZ5.out (HTF.out w5 HB5.out HZ5.out))
  go_wp2_with fail
  refine HL2.out.mono ?_
  rintro e w6 ⟨he, hO6, hF6⟩
  have e3 : outV 3 ⟨#[107]⟩ (ds (awL 1).deal) (setS (setS (fun _ => ⟨0, 0⟩) awA.deal ((dutyL awD 25, ⟨1, 0⟩) : List Ol × St).2) (awL 24).deal (([], ⟨1, 24⟩) : List Ol × St).2 (awL 1).deal) (awL 1) = (freeL awD, ⟨2, 25⟩) := by
    show outV 3 ⟨#[107]⟩ (ds ⟨#[100]⟩) (setS (setS (fun _ => ⟨0, 0⟩) ⟨#[100]⟩ ⟨1, 0⟩) ⟨#[100]⟩ ⟨1, 24⟩ ⟨#[100]⟩) (awL 1) = _
    rw [HD0.out]
    unfold setS
    rw [if_pos rfl]
    exact awT3
  rw [e3] at he hO6
  have he' : e = .returned (.int .i64 2) := he
  subst he'
  have HS6 := Lib.hid (state_any lo g2 o mb n ⟨#[104]⟩ ⟨#[107]⟩ 3 m ds _ ⟨#[100]⟩ w6 hO6)
  have HV6 : Hid (stateV ds (setS (setS (setS (fun _ => ⟨0, 0⟩) awA.deal ((dutyL awD 25, ⟨1, 0⟩) : List Ol × St).2) (awL 24).deal (([], ⟨1, 24⟩) : List Ol × St).2) (awL 1).deal ((freeL awD, ⟨2, 25⟩) : List Ol × St).2) ⟨#[100]⟩ = 2) := Lib.hid (by
    unfold stateV
    rw [HD0.out]
    rfl)
  have HB6 := Lib.hid (hF6.bel HB5.out (fun k hk => Nat.le_trans HL3.out hk.1) HB5.out.size)
  have hC6 := HC5.out.fr hF6 (fun h => by omega)
  have c6 := hC6.cell 0
  simp only [List.getElem?_toArray, List.getElem?_cons_zero] at c6
  clear hO6 hF6 e3 he HL2 HO5 c5 hC6
  go_wp2_with fail
  refine HS6.out.mono ?_
  rintro e w7 ⟨rfl, rfl⟩
  rw [HV6.out]
  go_wp2_with fail
  go_ret
  exact ⟨rfl, HB6.out⟩
end Go.Proofs.YtdanjegnhdpnlaaGreatDoor.kit

namespace Go.Proofs.YtdanjegnhdpnlaaGreatDoor.kit
open Go.RowKit
set_option linter.unusedVariables false
set_option linter.unusedSimpArgs false
structure PtSz (p : Pty) : Prop where
  a : p.nm.size ≤ 140737488355328
  b : p.bank.size ≤ 140737488355328
structure DxSz (x : Dx) : Prop where
  a0 : x.d.num.size ≤ 140737488355328
  a1 : x.d.sel.size ≤ 140737488355328
  a2 : x.d.buy.size ≤ 140737488355328
  a3 : x.d.car.size ≤ 140737488355328
  a4 : x.d.iss.size ≤ 140737488355328
  a5 : x.d.hou.size ≤ 140737488355328
  a6 : x.d.ins.size ≤ 140737488355328
  a7 : x.d.fr.size ≤ 140737488355328
  a8 : x.d.dst.size ≤ 140737488355328
  a9 : x.d.cur.size ≤ 140737488355328
/-- The parties' texts together, while they are few. -/
def SzP (k : Nat) (z : Int) : Prop := k ≤ 16 → 0 ≤ z ∧ z ≤ k * 281474976710656
theorem SzP.start : SzP 0 0 := fun _ => ⟨by omega, by omega⟩
theorem SzP.next {k : Nat} {z y : Int} {p : Pty} (h : SzP k z) (hp : PtSz p) (hy : y = wrap64 (z + wrap64 ((p.nm.size : Int) + (p.bank.size : Int)))) : SzP (k + 1) y := fun hk => by
  have h1 := h (by omega); have h2 := hp.a; have h3 := hp.b
  rw [hy]
  unfold wrap64
  omega
/-- The deals' texts beside them. -/
def SzD (pn : Nat) (xs : List Dx) (k : Nat) (z : Int) : Prop := pn ≤ 16 → k ≤ 16 → 0 ≤ z ∧ z ≤ 4503599627370496 + k * 1407374883553280 ∧ ∀ i x, i < k → xs[i]? = some x → (x.d.num.size : Int) ≤ z
theorem SzD.start {pn k : Nat} {xs : List Dx} {z : Int} (hk : k = pn) (h : SzP k z) : SzD pn xs 0 z := fun h1 _ => by
  have h2 := h (by omega)
  refine ⟨h2.1, ?_, fun i x hi => by omega⟩
  have : (k : Int) ≤ 16 := by omega
  omega
theorem SzD.next {pn k : Nat} {xs : List Dx} {z y : Int} {x : Dx} (h : SzD pn xs k z) (hx : xs[k]? = some x) (hs : DxSz x) (hy : y = wrap64 (z + wrap64 (wrap64 (wrap64 (wrap64 (wrap64 (wrap64 (wrap64 (wrap64 (wrap64 ((x.d.num.size : Int) + (x.d.sel.size : Int)) + (x.d.buy.size : Int)) + (x.d.car.size : Int)) + (x.d.iss.size : Int)) + (x.d.hou.size : Int)) + (x.d.ins.size : Int)) + (x.d.fr.size : Int)) + (x.d.dst.size : Int)) + (x.d.cur.size : Int)))) : SzD pn xs (k + 1) y := fun h1 hk => by
  obtain ⟨h2, h3, h4⟩ := h h1 (by omega)
  obtain ⟨a0, a1, a2, a3, a4, a5, a6, a7, a8, a9⟩ := hs
  have e : wrap64 ((x.d.num.size : Int) + (x.d.sel.size : Int)) = (x.d.num.size : Int) + (x.d.sel.size : Int) := w64_id ⟨by omega, by omega⟩
  rw [e] at hy
  clear e
  have e : wrap64 ((x.d.num.size : Int) + (x.d.sel.size : Int) + (x.d.buy.size : Int)) = (x.d.num.size : Int) + (x.d.sel.size : Int) + (x.d.buy.size : Int) := w64_id ⟨by omega, by omega⟩
  rw [e] at hy
  clear e
  have e : wrap64 ((x.d.num.size : Int) + (x.d.sel.size : Int) + (x.d.buy.size : Int) + (x.d.car.size : Int)) = (x.d.num.size : Int) + (x.d.sel.size : Int) + (x.d.buy.size : Int) + (x.d.car.size : Int) := w64_id ⟨by omega, by omega⟩
  rw [e] at hy
  clear e
  have e : wrap64 ((x.d.num.size : Int) + (x.d.sel.size : Int) + (x.d.buy.size : Int) + (x.d.car.size : Int) + (x.d.iss.size : Int)) = (x.d.num.size : Int) + (x.d.sel.size : Int) + (x.d.buy.size : Int) + (x.d.car.size : Int) + (x.d.iss.size : Int) := w64_id ⟨by omega, by omega⟩
  rw [e] at hy
  clear e
  have e : wrap64 ((x.d.num.size : Int) + (x.d.sel.size : Int) + (x.d.buy.size : Int) + (x.d.car.size : Int) + (x.d.iss.size : Int) + (x.d.hou.size : Int)) = (x.d.num.size : Int) + (x.d.sel.size : Int) + (x.d.buy.size : Int) + (x.d.car.size : Int) + (x.d.iss.size : Int) + (x.d.hou.size : Int) := w64_id ⟨by omega, by omega⟩
  rw [e] at hy
  clear e
  have e : wrap64 ((x.d.num.size : Int) + (x.d.sel.size : Int) + (x.d.buy.size : Int) + (x.d.car.size : Int) + (x.d.iss.size : Int) + (x.d.hou.size : Int) + (x.d.ins.size : Int)) = (x.d.num.size : Int) + (x.d.sel.size : Int) + (x.d.buy.size : Int) + (x.d.car.size : Int) + (x.d.iss.size : Int) + (x.d.hou.size : Int) + (x.d.ins.size : Int) := w64_id ⟨by omega, by omega⟩
  rw [e] at hy
  clear e
  have e : wrap64 ((x.d.num.size : Int) + (x.d.sel.size : Int) + (x.d.buy.size : Int) + (x.d.car.size : Int) + (x.d.iss.size : Int) + (x.d.hou.size : Int) + (x.d.ins.size : Int) + (x.d.fr.size : Int)) = (x.d.num.size : Int) + (x.d.sel.size : Int) + (x.d.buy.size : Int) + (x.d.car.size : Int) + (x.d.iss.size : Int) + (x.d.hou.size : Int) + (x.d.ins.size : Int) + (x.d.fr.size : Int) := w64_id ⟨by omega, by omega⟩
  rw [e] at hy
  clear e
  have e : wrap64 ((x.d.num.size : Int) + (x.d.sel.size : Int) + (x.d.buy.size : Int) + (x.d.car.size : Int) + (x.d.iss.size : Int) + (x.d.hou.size : Int) + (x.d.ins.size : Int) + (x.d.fr.size : Int) + (x.d.dst.size : Int)) = (x.d.num.size : Int) + (x.d.sel.size : Int) + (x.d.buy.size : Int) + (x.d.car.size : Int) + (x.d.iss.size : Int) + (x.d.hou.size : Int) + (x.d.ins.size : Int) + (x.d.fr.size : Int) + (x.d.dst.size : Int) := w64_id ⟨by omega, by omega⟩
  rw [e] at hy
  clear e
  have e : wrap64 ((x.d.num.size : Int) + (x.d.sel.size : Int) + (x.d.buy.size : Int) + (x.d.car.size : Int) + (x.d.iss.size : Int) + (x.d.hou.size : Int) + (x.d.ins.size : Int) + (x.d.fr.size : Int) + (x.d.dst.size : Int) + (x.d.cur.size : Int)) = (x.d.num.size : Int) + (x.d.sel.size : Int) + (x.d.buy.size : Int) + (x.d.car.size : Int) + (x.d.iss.size : Int) + (x.d.hou.size : Int) + (x.d.ins.size : Int) + (x.d.fr.size : Int) + (x.d.dst.size : Int) + (x.d.cur.size : Int) := w64_id ⟨by omega, by omega⟩
  rw [e] at hy
  clear e
  have e : wrap64 (z + ((x.d.num.size : Int) + (x.d.sel.size : Int) + (x.d.buy.size : Int) + (x.d.car.size : Int) + (x.d.iss.size : Int) + (x.d.hou.size : Int) + (x.d.ins.size : Int) + (x.d.fr.size : Int) + (x.d.dst.size : Int) + (x.d.cur.size : Int))) = z + ((x.d.num.size : Int) + (x.d.sel.size : Int) + (x.d.buy.size : Int) + (x.d.car.size : Int) + (x.d.iss.size : Int) + (x.d.hou.size : Int) + (x.d.ins.size : Int) + (x.d.fr.size : Int) + (x.d.dst.size : Int) + (x.d.cur.size : Int)) := w64_id ⟨by omega, by omega⟩
  rw [e] at hy
  clear e
  refine ⟨by omega, by omega, fun i u hi hu => ?_⟩
  by_cases e : i = k
  · subst e
    rw [hx] at hu
    injection hu with hu
    rw [← hu]
    omega
  · have := h4 i u (by omega) hu
    omega
theorem SzD.fine {pn k : Nat} {xs : List Dx} {z : Int} (h : SzD pn xs k z) (h1 : pn ≤ 16) (hk : xs.length ≤ k) (h16 : k ≤ 16) (hz : ¬ z > 2000) : ∀ x ∈ xs, x.d.num.size ≤ 2000 := fun x hx => by
  obtain ⟨i, hi, rfl⟩ := List.getElem_of_mem hx
  have := (h h1 h16).2.2 i _ (by omega) (List.getElem?_eq_getElem hi)
  omega
set_option maxRecDepth 100000 in
set_option maxHeartbeats 6400000 in
theorem wide_sz (s : Su) (ps : List Pty) (xs : List Dx) (w : World) (hp : SliceOf w 3 ptyC s.pA s.pn ps) (hd : SliceOf w 17 dxC s.dA s.dn xs) (h1 : s.pn ≤ maxLen) (h2 : s.dn ≤ maxLen) (hps : ∀ p ∈ ps, PtSz p) (hxs : ∀ x ∈ xs, DxSz x) :
    Calls Tryz.prog 4 #[.agg #[.slice s.pA s.pn s.pc, .slice s.dA s.dn s.dc, .slice s.fA s.fn s.fc, .slice s.rA s.rn s.rc, .slice s.hA s.hn s.hc]] w (BoolP w (s.pn ≤ 16 ∧ s.dn ≤ 16 ∧ ∀ x ∈ xs, x.d.num.size ≤ 2000)) := by
  obtain ⟨pA, pn, pc, dA, dn, dc, fA, fn, fc, rA, rn, rc, hA, hn, hc⟩ := s
  dsimp only at hp hd h1 h2 ⊢
  have HP := Lib.hid hp
  have HD := Lib.hid hd
  have h1 : pn ≤ 9223372036854775807 := h1
  have h2 : dn ≤ 9223372036854775807 := h2
  have HB0 := Lib.hid (one_alloc w (.cells #[.slice pA pn pc, .slice dA dn dc, .slice fA fn fc, .slice rA rn rc, .slice hA hn hc] 29))
  have HK0 : Hid (Blk (w.alloc (.cells #[.slice pA pn pc, .slice dA dn dc, .slice fA fn fc, .slice rA rn rc, .slice hA hn hc] 29)) w.heap.size 29 #[.slice pA pn pc, .slice dA dn dc, .slice fA fn fc, .slice rA rn rc, .slice hA hn hc]) := Lib.hid (Blk.new _ _ _)
  have HPS := Lib.hid hps; have HXS := Lib.hid hxs
  clear hp hd hps hxs
  go_enter Tryz.func4, Tryz.ntmps4
  go_upto_region 1 with (fail)
  generalize Value.agg #[.slice pA pn pc, .slice dA dn dc, .slice fA fn fc, .slice rA rn rc, .slice hA hn hc] = SV
  obtain ⟨w0, hw0⟩ : ∃ W, w.alloc (.cells #[.slice pA pn pc, .slice dA dn dc, .slice fA fn fc, .slice rA rn rc, .slice hA hn hc] 29) = W := ⟨_, rfl⟩
  obtain ⟨gs, hgs⟩ : ∃ g, w.heap.size = g := ⟨_, rfl⟩
  rw [hw0] at HB0 HK0 ⊢
  rw [hgs] at HK0
  simp only [hgs]
  have HGS := Lib.hid hgs
  clear hw0 hgs
  have s0 := HK0.out.cell 0
  simp only [List.getElem?_toArray, List.getElem?_cons_zero, List.getElem?_cons_succ] at s0
  go_wp2_with fail
  clear s0
  go_loopw [3, 11] (fun a i wr => ∃ (k : Nat) (z : Int), k ≤ pn ∧ a = .int .i64 z ∧ i = .int .i64 k ∧ Hid (Below w0.heap.size w0 wr) ∧ Hid (SzP k z)) (fun _ i _ => pn - (intOf i).toNat)
  case atStart => exact ⟨0, 0, by omega, rfl, rfl, Lib.hid (Below.refl _ _), Lib.hid SzP.start⟩
  case round =>
    obtain ⟨k, z, hk, rfl, rfl, hb, hz⟩ := hrel
    have hlen := HP.out.len
    by_cases hlt : k < pn
    · obtain ⟨b, off, p, hpA, hpk, hc⟩ := el_at (HP.out.below (HB0.out.trans (hb.out.mono HB0.out.size))) hlt
      subst hpA
      have c0 := hc 0 _ rfl; have c1 := hc 1 _ rfl; have c2 := hc 2 _ rfl
      rw [Nat.add_zero] at c0
      have i0 : (k : Int) < (pn : Int) := by omega
      have HB2 := Lib.hid (hb.out.alloc hb.out.size (.cells #[.string p.nm, .string p.bank, .int .i64 p.kind] 48))
      have HP2 : Hid (Blk (wr.alloc (.cells #[.string p.nm, .string p.bank, .int .i64 p.kind] 48)) wr.heap.size 48 #[.string p.nm, .string p.bank, .int .i64 p.kind]) := Lib.hid (Blk.new _ _ _)
      have HSP := Lib.hid (HPS.out p (List.mem_of_getElem? hpk))
      clear hpk hc
      go_upto_region 5 with ((refine stop_store 48 _ _ rfl ?_; refine wpList_store_new rfl 48 _ _ rfl _ rfl rfl (by kernel_rfl) rfl rfl ?_))
      obtain ⟨w2, hw2⟩ : ∃ W, wr.alloc (.cells #[.string p.nm, .string p.bank, .int .i64 p.kind] 48) = W := ⟨_, rfl⟩
      obtain ⟨gp, hgp⟩ : ∃ g, wr.heap.size = g := ⟨_, rfl⟩
      rw [hw2] at HB2 HP2 ⊢
      rw [hgp] at HP2
      simp only [hgp]
      clear hw2 hgp c0 c1 c2
      have p0 := HP2.out.cell 0; have p1 := HP2.out.cell 1
      simp only [List.getElem?_toArray, List.getElem?_cons_zero, List.getElem?_cons_succ] at p0 p1
      go_wp2_with fail
      go_roundw
      case rel => exact ⟨k + 1, _, by omega, rfl, by go_num, HB2, Lib.hid (hz.out.next (p := p) HSP.out rfl)⟩
      case measure => simp [intOf]; omega
    · have i0 : ¬ (k : Int) < (pn : Int) := by omega
      have HK1 := Lib.hid (HK0.out.below hb.out HK0.out.lt)
      have HB1 := Lib.hid (HB0.out.trans (hb.out.mono HB0.out.size))
      have s1 := HK1.out.cell 1
      simp only [List.getElem?_toArray, List.getElem?_cons_zero, List.getElem?_cons_succ] at s1
      go_wp2_with fail
      clear s1
      go_loopw [3, 28] (fun a i wr => ∃ (k : Nat) (z : Int), k ≤ dn ∧ a = .int .i64 z ∧ i = .int .i64 k ∧ Hid (Below w0.heap.size w0 wr) ∧ Hid (SzD pn xs k z)) (fun _ i _ => dn - (intOf i).toNat)
      case atStart => exact ⟨0, _, by omega, rfl, rfl, hb, Lib.hid (SzD.start (by omega) hz.out)⟩
      case round =>
        obtain ⟨j, y, hj, rfl, rfl, hb2, hy2⟩ := hrel
        have hlen2 := HD.out.len
        by_cases hlj : j < dn
        · obtain ⟨b, off, x, hdA, hxk, hc⟩ := el_at (HD.out.below (HB0.out.trans (hb2.out.mono HB0.out.size))) hlj
          subst hdA
          have HC := Lib.hid hc
          have i1 : (j : Int) < (dn : Int) := by omega
          have HB2 := Lib.hid (hb2.out.alloc hb2.out.size (.cells #[.string x.d.num, .string x.d.sel, .string x.d.buy, .string x.d.car, .string x.d.iss, .string x.d.hou, .string x.d.ins, .string x.d.fr, .string x.d.dst, .string x.d.cur, .int .i64 x.d.amt, .slice x.A x.n x.c, .int .i64 x.d.term, .int .i64 x.d.lat, .int .i64 x.d.exp, .int .i64 x.d.ten, .int .i64 x.d.dut] 53))
          have HG10 : Hid (Blk (wr.alloc (.cells #[.string x.d.num, .string x.d.sel, .string x.d.buy, .string x.d.car, .string x.d.iss, .string x.d.hou, .string x.d.ins, .string x.d.fr, .string x.d.dst, .string x.d.cur, .int .i64 x.d.amt, .slice x.A x.n x.c, .int .i64 x.d.term, .int .i64 x.d.lat, .int .i64 x.d.exp, .int .i64 x.d.ten, .int .i64 x.d.dut] 53)) wr.heap.size 53 #[.string x.d.num, .string x.d.sel, .string x.d.buy, .string x.d.car, .string x.d.iss, .string x.d.hou, .string x.d.ins, .string x.d.fr, .string x.d.dst, .string x.d.cur, .int .i64 x.d.amt, .slice x.A x.n x.c, .int .i64 x.d.term, .int .i64 x.d.lat, .int .i64 x.d.exp, .int .i64 x.d.ten, .int .i64 x.d.dut]) := Lib.hid (Blk.new _ _ _)
          have HXK := Lib.hid hxk
          have HSX := Lib.hid (HXS.out x (List.mem_of_getElem? hxk))
          clear hxk hc
          go_upto_region 10 with (first | ((refine stop_store 53 _ _ rfl ?_; refine wpList_store_new rfl 53 _ _ rfl _ rfl rfl (by kernel_rfl) rfl rfl ?_)) | (refine stop_load 53 _ rfl ?_; refine wpList_load_at rfl 53 _ rfl b (off + j * 17) rfl (dlC x.d (.slice x.A x.n x.c)) _ HC.out Tryz.underlying53 rfl (by kernel_rfl) ?_))
          obtain ⟨w4, hw4⟩ : ∃ W, wr.alloc (.cells #[.string x.d.num, .string x.d.sel, .string x.d.buy, .string x.d.car, .string x.d.iss, .string x.d.hou, .string x.d.ins, .string x.d.fr, .string x.d.dst, .string x.d.cur, .int .i64 x.d.amt, .slice x.A x.n x.c, .int .i64 x.d.term, .int .i64 x.d.lat, .int .i64 x.d.exp, .int .i64 x.d.ten, .int .i64 x.d.dut] 53) = W := ⟨_, rfl⟩
          obtain ⟨g, hg⟩ : ∃ g, wr.heap.size = g := ⟨_, rfl⟩
          rw [hw4] at HG10 HB2
          change Code.wp _ _ _ _ (wr.alloc (.cells #[.string x.d.num, .string x.d.sel, .string x.d.buy, .string x.d.car, .string x.d.iss, .string x.d.hou, .string x.d.ins, .string x.d.fr, .string x.d.dst, .string x.d.cur, .int .i64 x.d.amt, .slice x.A x.n x.c, .int .i64 x.d.term, .int .i64 x.d.lat, .int .i64 x.d.exp, .int .i64 x.d.ten, .int .i64 x.d.dut] 53))
          rw [hw4]
          rw [hg] at HG10
          simp only [hg]
          clear hw4 hg
          have d0 := HG10.out.cell 0; have d1 := HG10.out.cell 1; have d2 := HG10.out.cell 2; have d3 := HG10.out.cell 3; have d4 := HG10.out.cell 4; have d5 := HG10.out.cell 5; have d6 := HG10.out.cell 6; have d7 := HG10.out.cell 7; have d8 := HG10.out.cell 8; have d9 := HG10.out.cell 9
          simp only [List.getElem?_toArray, List.getElem?_cons_zero, List.getElem?_cons_succ] at d0 d1 d2 d3 d4 d5 d6 d7 d8 d9
          go_wp2_with fail
          go_roundw
          case rel => exact ⟨j + 1, _, by omega, rfl, by go_num, HB2, Lib.hid (hy2.out.next HXK.out HSX.out rfl)⟩
          case measure => simp [intOf]; omega
        · have i1 : ¬ (j : Int) < (dn : Int) := by omega
          have HK2 := Lib.hid (HK0.out.below hb2.out HK0.out.lt)
          have HB9 := Lib.hid (HB0.out.trans (hb2.out.mono HB0.out.size))
          have s0 := HK2.out.cell 0; have s1 := HK2.out.cell 1
          simp only [List.getElem?_toArray, List.getElem?_cons_zero, List.getElem?_cons_succ] at s0 s1
          by_cases hy : y > 2000
          · have q0 : decide (y > 2000) = true := decide_eq_true hy
            clear hy
            go_wp2_with fail
            go_ret
            exact ⟨true, rfl, fun h => (by cases h), HB9.out⟩
          · have q0 : decide (y > 2000) = false := decide_eq_false hy
            by_cases hp16 : (pn : Int) > 16
            · have q1 : decide ((pn : Int) > 16) = true := decide_eq_true hp16
              clear hy hp16
              go_wp2_with fail
              go_ret
              exact ⟨true, rfl, fun h => (by cases h), HB9.out⟩
            · have q1 : decide ((pn : Int) > 16) = false := decide_eq_false hp16
              by_cases hd16 : (dn : Int) > 16
              · have q2 : decide ((dn : Int) > 16) = true := decide_eq_true hd16
                clear hy hp16 hd16
                go_wp2_with fail
                go_ret
                exact ⟨true, rfl, fun h => (by cases h), HB9.out⟩
              · have q2 : decide ((dn : Int) > 16) = false := decide_eq_false hd16
                have HE : Hid (pn ≤ 16 ∧ dn ≤ 16 ∧ ∀ x ∈ xs, x.d.num.size ≤ 2000) := Lib.hid ⟨by omega, by omega, hy2.out.fine (by omega) (by have := HD.out.len; omega) (by omega) (by omega)⟩
                clear hy hp16 hd16
                go_wp2_with fail
                go_ret
                exact ⟨false, rfl, fun _ => HE.out, HB9.out⟩
end Go.Proofs.YtdanjegnhdpnlaaGreatDoor.kit

