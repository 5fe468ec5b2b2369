/- What the laws of an office leave out: wide setups, long rows of letters. No condition. -/
import Derived.Test.YtdanjegnhdpnlaaDoorOfO
namespace Go.Proofs.YtdanjegnhdpnlaaDoor.kit
open Go.RowKit
set_option linter.unusedVariables false
set_option linter.unusedSimpArgs false
/-- Some Bool; if it is false, so much holds. -/
def BoolP (w : World) (F : Prop) (e : Ending) (w' : World) : Prop := ∃ b : Bool, e = .returned (.bool b) ∧ (b = false → F) ∧ Below w.heap.size w w'
set_option maxRecDepth 100000 in
set_option maxHeartbeats 6400000 in
theorem wide_any (s : Su) (ps : List Pty) (xs : List Dx) (w : World) (hp : SliceOf w 3 ptyC s.pA s.pn ps) (hd : SliceOf w 17 dxC s.dA s.dn xs) (h1 : s.pn ≤ maxLen) (h2 : s.dn ≤ maxLen) :
    Calls Tryd.prog 4 #[.agg #[.slice s.pA s.pn s.pc, .slice s.dA s.dn s.dc, .slice s.fA s.fn s.fc, .slice s.rA s.rn s.rc, .slice s.hA s.hn s.hc]] w (BoolP w (s.pn ≤ 16 ∧ s.dn ≤ 16)) := by
  obtain ⟨pA, pn, pc, dA, dn, dc, fA, fn, fc, rA, rn, rc, hA, hn, hc⟩ := s
  dsimp only at hp hd h1 h2 ⊢
  have HP := Lib.hid hp
  have HD := Lib.hid hd
  have h1 : pn ≤ 9223372036854775807 := h1
  have h2 : dn ≤ 9223372036854775807 := h2
  have HB0 := Lib.hid (one_alloc w (.cells #[.slice pA pn pc, .slice dA dn dc, .slice fA fn fc, .slice rA rn rc, .slice hA hn hc] 29))
  have HK0 : Hid (Blk (w.alloc (.cells #[.slice pA pn pc, .slice dA dn dc, .slice fA fn fc, .slice rA rn rc, .slice hA hn hc] 29)) w.heap.size 29 #[.slice pA pn pc, .slice dA dn dc, .slice fA fn fc, .slice rA rn rc, .slice hA hn hc]) := Lib.hid (Blk.new _ _ _)
  clear hp hd
  go_enter Tryd.func4, Tryd.ntmps4
  go_upto_region 1 with (fail)
  generalize Value.agg #[.slice pA pn pc, .slice dA dn dc, .slice fA fn fc, .slice rA rn rc, .slice hA hn hc] = SV
  obtain ⟨w0, hw0⟩ : ∃ W, w.alloc (.cells #[.slice pA pn pc, .slice dA dn dc, .slice fA fn fc, .slice rA rn rc, .slice hA hn hc] 29) = W := ⟨_, rfl⟩
  obtain ⟨gs, hgs⟩ : ∃ g, w.heap.size = g := ⟨_, rfl⟩
  rw [hw0] at HB0 HK0 ⊢
  rw [hgs] at HK0
  simp only [hgs]
  have HGS := Lib.hid hgs
  clear hw0 hgs
  have s0 := HK0.out.cell 0
  simp only [List.getElem?_toArray, List.getElem?_cons_zero, List.getElem?_cons_succ] at s0
  go_wp2_with fail
  clear s0
  go_loopw [3, 11] (fun a i wr => ∃ (k : Nat) (z : Int), k ≤ pn ∧ a = .int .i64 z ∧ i = .int .i64 k ∧ Hid (Below w0.heap.size w0 wr)) (fun _ i _ => pn - (intOf i).toNat)
  case atStart => exact ⟨0, 0, by omega, rfl, rfl, Lib.hid (Below.refl _ _)⟩
  case round =>
    obtain ⟨k, z, hk, rfl, rfl, hb⟩ := hrel
    have hlen := HP.out.len
    by_cases hlt : k < pn
    · obtain ⟨b, off, p, hpA, hpk, hc⟩ := el_at (HP.out.below (HB0.out.trans (hb.out.mono HB0.out.size))) hlt
      subst hpA
      have c0 := hc 0 _ rfl; have c1 := hc 1 _ rfl; have c2 := hc 2 _ rfl
      rw [Nat.add_zero] at c0
      have i0 : (k : Int) < (pn : Int) := by omega
      have HB2 := Lib.hid (hb.out.alloc hb.out.size (.cells #[.string p.nm, .string p.bank, .int .i64 p.kind] 47))
      have HP2 : Hid (Blk (wr.alloc (.cells #[.string p.nm, .string p.bank, .int .i64 p.kind] 47)) wr.heap.size 47 #[.string p.nm, .string p.bank, .int .i64 p.kind]) := Lib.hid (Blk.new _ _ _)
      clear hpk hc
      go_upto_region 5 with ((refine stop_store 47 _ _ rfl ?_; refine wpList_store_new rfl 47 _ _ rfl _ rfl rfl (by kernel_rfl) rfl rfl ?_))
      obtain ⟨w2, hw2⟩ : ∃ W, wr.alloc (.cells #[.string p.nm, .string p.bank, .int .i64 p.kind] 47) = W := ⟨_, rfl⟩
      obtain ⟨gp, hgp⟩ : ∃ g, wr.heap.size = g := ⟨_, rfl⟩
      rw [hw2] at HB2 HP2 ⊢
      rw [hgp] at HP2
      simp only [hgp]
      clear hw2 hgp c0 c1 c2
      have p0 := HP2.out.cell 0; have p1 := HP2.out.cell 1
      simp only [List.getElem?_toArray, List.getElem?_cons_zero, List.getElem?_cons_succ] at p0 p1
      go_wp2_with fail
      go_roundw
      case rel => exact ⟨k + 1, _, by omega, rfl, by go_num, HB2⟩
      case measure => simp [intOf]; omega
    · have i0 : ¬ (k : Int) < (pn : Int) := by omega
      have HK1 := Lib.hid (HK0.out.below hb.out HK0.out.lt)
      have HB1 := Lib.hid (HB0.out.trans (hb.out.mono HB0.out.size))
      have s1 := HK1.out.cell 1
      simp only [List.getElem?_toArray, List.getElem?_cons_zero, List.getElem?_cons_succ] at s1
      go_wp2_with fail
      clear s1
      go_loopw [3, 28] (fun a i wr => ∃ (k : Nat) (z : Int), k ≤ dn ∧ a = .int .i64 z ∧ i = .int .i64 k ∧ Hid (Below w0.heap.size w0 wr)) (fun _ i _ => dn - (intOf i).toNat)
      case atStart => exact ⟨0, _, by omega, rfl, rfl, hb⟩
      case round =>
        obtain ⟨j, y, hj, rfl, rfl, hb2⟩ := hrel
        have hlen2 := HD.out.len
        by_cases hlj : j < dn
        · obtain ⟨b, off, x, hdA, hxk, hc⟩ := el_at (HD.out.below (HB0.out.trans (hb2.out.mono HB0.out.size))) hlj
          subst hdA
          have HC := Lib.hid hc
          have i1 : (j : Int) < (dn : Int) := by omega
          have HB2 := Lib.hid (hb2.out.alloc hb2.out.size (.cells #[.string x.d.num, .string x.d.sel, .string x.d.buy, .string x.d.car, .string x.d.iss, .string x.d.hou, .string x.d.ins, .string x.d.fr, .string x.d.dst, .string x.d.cur, .int .i64 x.d.amt, .slice x.A x.n x.c, .int .i64 x.d.term, .int .i64 x.d.lat, .int .i64 x.d.exp, .int .i64 x.d.ten, .int .i64 x.d.dut] 50))
          have HG10 : Hid (Blk (wr.alloc (.cells #[.string x.d.num, .string x.d.sel, .string x.d.buy, .string x.d.car, .string x.d.iss, .string x.d.hou, .string x.d.ins, .string x.d.fr, .string x.d.dst, .string x.d.cur, .int .i64 x.d.amt, .slice x.A x.n x.c, .int .i64 x.d.term, .int .i64 x.d.lat, .int .i64 x.d.exp, .int .i64 x.d.ten, .int .i64 x.d.dut] 50)) wr.heap.size 50 #[.string x.d.num, .string x.d.sel, .string x.d.buy, .string x.d.car, .string x.d.iss, .string x.d.hou, .string x.d.ins, .string x.d.fr, .string x.d.dst, .string x.d.cur, .int .i64 x.d.amt, .slice x.A x.n x.c, .int .i64 x.d.term, .int .i64 x.d.lat, .int .i64 x.d.exp, .int .i64 x.d.ten, .int .i64 x.d.dut]) := Lib.hid (Blk.new _ _ _)
          clear hxk hc
          go_upto_region 10 with (first | ((refine stop_store 50 _ _ rfl ?_; refine wpList_store_new rfl 50 _ _ rfl _ rfl rfl (by kernel_rfl) rfl rfl ?_)) | (refine stop_load 50 _ rfl ?_; refine wpList_load_at rfl 50 _ rfl b (off + j * 17) rfl (dlC x.d (.slice x.A x.n x.c)) _ HC.out Tryd.underlying50 rfl (by kernel_rfl) ?_))
          obtain ⟨w4, hw4⟩ : ∃ W, wr.alloc (.cells #[.string x.d.num, .string x.d.sel, .string x.d.buy, .string x.d.car, .string x.d.iss, .string x.d.hou, .string x.d.ins, .string x.d.fr, .string x.d.dst, .string x.d.cur, .int .i64 x.d.amt, .slice x.A x.n x.c, .int .i64 x.d.term, .int .i64 x.d.lat, .int .i64 x.d.exp, .int .i64 x.d.ten, .int .i64 x.d.dut] 50) = W := ⟨_, rfl⟩
          obtain ⟨g, hg⟩ : ∃ g, wr.heap.size = g := ⟨_, rfl⟩
          rw [hw4] at HG10 HB2
          change Code.wp _ _ _ _ (wr.alloc (.cells #[.string x.d.num, .string x.d.sel, .string x.d.buy, .string x.d.car, .string x.d.iss, .string x.d.hou, .string x.d.ins, .string x.d.fr, .string x.d.dst, .string x.d.cur, .int .i64 x.d.amt, .slice x.A x.n x.c, .int .i64 x.d.term, .int .i64 x.d.lat, .int .i64 x.d.exp, .int .i64 x.d.ten, .int .i64 x.d.dut] 50))
          rw [hw4]
          rw [hg] at HG10
          simp only [hg]
          clear hw4 hg
          have d0 := HG10.out.cell 0; have d1 := HG10.out.cell 1; have d2 := HG10.out.cell 2; have d3 := HG10.out.cell 3; have d4 := HG10.out.cell 4; have d5 := HG10.out.cell 5; have d6 := HG10.out.cell 6; have d7 := HG10.out.cell 7; have d8 := HG10.out.cell 8; have d9 := HG10.out.cell 9
          simp only [List.getElem?_toArray, List.getElem?_cons_zero, List.getElem?_cons_succ] at d0 d1 d2 d3 d4 d5 d6 d7 d8 d9
          go_wp2_with fail
          go_roundw
          case rel => exact ⟨j + 1, _, by omega, rfl, by go_num, HB2⟩
          case measure => simp [intOf]; omega
        · have i1 : ¬ (j : Int) < (dn : Int) := by omega
          have HK2 := Lib.hid (HK0.out.below hb2.out HK0.out.lt)
          have HB9 := Lib.hid (HB0.out.trans (hb2.out.mono HB0.out.size))
          have s0 := HK2.out.cell 0; have s1 := HK2.out.cell 1
          simp only [List.getElem?_toArray, List.getElem?_cons_zero, List.getElem?_cons_succ] at s0 s1
          by_cases hy : y > 2000
          · have q0 : decide (y > 2000) = true := decide_eq_true hy
            clear hy
            go_wp2_with fail
            go_ret
            exact ⟨true, rfl, fun h => (by cases h), HB9.out⟩
          · have q0 : decide (y > 2000) = false := decide_eq_false hy
            by_cases hp16 : (pn : Int) > 16
            · have q1 : decide ((pn : Int) > 16) = true := decide_eq_true hp16
              clear hy hp16
              go_wp2_with fail
              go_ret
              exact ⟨true, rfl, fun h => (by cases h), HB9.out⟩
            · have q1 : decide ((pn : Int) > 16) = false := decide_eq_false hp16
              by_cases hd16 : (dn : Int) > 16
              · have q2 : decide ((dn : Int) > 16) = true := decide_eq_true hd16
                clear hy hp16 hd16
                go_wp2_with fail
                go_ret
                exact ⟨true, rfl, fun h => (by cases h), HB9.out⟩
              · have q2 : decide ((dn : Int) > 16) = false := decide_eq_false hd16
                have HE : Hid (pn ≤ 16 ∧ dn ≤ 16) := Lib.hid ⟨by omega, by omega⟩
                clear hy hp16 hd16
                go_wp2_with fail
                go_ret
                exact ⟨false, rfl, fun _ => HE.out, HB9.out⟩
set_option maxRecDepth 100000 in
set_option maxHeartbeats 6400000 in
theorem long_any (A : Option Addr) (n c : Nat) (ls : List Lt) (w : World) (hl : SliceOf w 14 ltC A n ls) (h1 : n ≤ maxLen) :
    Calls Tryd.prog 5 #[.slice A n c] w (BoolP w (n ≤ 30)) := by
  have HL := Lib.hid hl
  have h1 : n ≤ 9223372036854775807 := h1
  clear hl
  go_enter Tryd.func5, Tryd.ntmps5
  go_wp2_with fail
  go_loopw [7] (fun i wr => ∃ (k : Nat), k ≤ n ∧ i = .int .i64 k ∧ Hid (Below w.heap.size w wr)) (fun i _ => n - (intOf i).toNat)
  case atStart => exact ⟨0, by omega, rfl, Lib.hid (Below.refl _ _)⟩
  case round =>
    obtain ⟨k, hk, rfl, hb⟩ := hrel
    have hlen := HL.out.len
    by_cases hlt : k < n
    · obtain ⟨b, off, x, hA, hxk, hc⟩ := el_at (HL.out.below hb.out) hlt
      subst hA
      have HC := Lib.hid hc
      have i0 : (k : Int) < (n : Int) := by omega
      have HB2 := Lib.hid (hb.out.alloc hb.out.size (.cells #[.string x.fr, .string x.to, .int .i64 x.num, .int .i64 x.kind, .int .i64 x.ack, .string x.deal, .string x.text, .string x.party, .int .i64 x.idx, .int .i64 x.day, .string x.cur, .int .i64 x.amt, .slice x.A1 x.n1 x.c1, .slice x.A2 x.n2 x.c2] 41))
      have HP2 : Hid (Blk (wr.alloc (.cells #[.string x.fr, .string x.to, .int .i64 x.num, .int .i64 x.kind, .int .i64 x.ack, .string x.deal, .string x.text, .string x.party, .int .i64 x.idx, .int .i64 x.day, .string x.cur, .int .i64 x.amt, .slice x.A1 x.n1 x.c1, .slice x.A2 x.n2 x.c2] 41)) wr.heap.size 41 #[.string x.fr, .string x.to, .int .i64 x.num, .int .i64 x.kind, .int .i64 x.ack, .string x.deal, .string x.text, .string x.party, .int .i64 x.idx, .int .i64 x.day, .string x.cur, .int .i64 x.amt, .slice x.A1 x.n1 x.c1, .slice x.A2 x.n2 x.c2]) := Lib.hid (Blk.new _ _ _)
      clear hxk hc
      go_upto_region 4 with (first | ((refine stop_store 41 _ _ rfl ?_; refine wpList_store_new rfl 41 _ _ rfl _ rfl rfl (by kernel_rfl) rfl rfl ?_)) | (refine stop_load 41 _ rfl ?_; refine wpList_load_at rfl 41 _ rfl b (off + k * 14) rfl (ltC x) _ HC.out Tryd.underlying41 rfl (by kernel_rfl) ?_))
      obtain ⟨w4, hw4⟩ : ∃ W, wr.alloc (.cells #[.string x.fr, .string x.to, .int .i64 x.num, .int .i64 x.kind, .int .i64 x.ack, .string x.deal, .string x.text, .string x.party, .int .i64 x.idx, .int .i64 x.day, .string x.cur, .int .i64 x.amt, .slice x.A1 x.n1 x.c1, .slice x.A2 x.n2 x.c2] 41) = W := ⟨_, rfl⟩
      obtain ⟨g, hg⟩ : ∃ g, wr.heap.size = g := ⟨_, rfl⟩
      rw [hw4] at HP2 HB2
      change Code.wp _ _ _ _ (wr.alloc (.cells #[.string x.fr, .string x.to, .int .i64 x.num, .int .i64 x.kind, .int .i64 x.ack, .string x.deal, .string x.text, .string x.party, .int .i64 x.idx, .int .i64 x.day, .string x.cur, .int .i64 x.amt, .slice x.A1 x.n1 x.c1, .slice x.A2 x.n2 x.c2] 41))
      rw [hw4]
      rw [hg] at HP2
      simp only [hg]
      clear hw4 hg
      have d0 := HP2.out.cell 0; have d5 := HP2.out.cell 5; have d10 := HP2.out.cell 10
      simp only [List.getElem?_toArray, List.getElem?_cons_zero, List.getElem?_cons_succ] at d0 d5 d10
      go_wp2_with fail
      · go_ret
        exact ⟨true, rfl, fun h => (by cases h), HB2.out⟩
      · go_roundw
        case rel => exact ⟨k + 1, by omega, by go_num, HB2⟩
        case measure => simp [intOf]; omega
    · have i0 : ¬ (k : Int) < (n : Int) := by omega
      go_wp2_with fail
      go_ret
      exact ⟨_, rfl, fun h => (by have q : (n : Int) ≤ 30 := (by simpa using h); omega), hb.out⟩
end Go.Proofs.YtdanjegnhdpnlaaDoor.kit
