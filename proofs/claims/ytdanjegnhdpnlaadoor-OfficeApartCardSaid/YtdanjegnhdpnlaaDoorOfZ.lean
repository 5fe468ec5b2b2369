/- The chapter's example of an office: awake. Condition: the table of powers of ten. -/
import Derived.Test.YtdanjegnhdpnlaaDoorOfY
namespace Go.Proofs.YtdanjegnhdpnlaaDoor.kit
open Go.RowKit Go.PlainAid
set_option linter.unusedVariables false
set_option linter.unusedSimpArgs false
theorem awBuild (w : World) (n : Int) : (Instr.build 41 #[(0, .string ⟨#[107]⟩), (3, .int .i64 18), (5, .string ⟨#[100]⟩), (10, .agg #[.string ⟨#[85, 83, 68]⟩, .int .i64 n])]).run Tryd.prog w = .ok (.agg #[.string (awL n).fr, .string (awL n).to, .int .i64 (awL n).num, .int .i64 (awL n).kind, .int .i64 (awL n).ack, .string (awL n).deal, .string (awL n).text, .string (awL n).party, .int .i64 (awL n).idx, .int .i64 (awL n).day, .string (awL n).cur, .int .i64 (awL n).amt, .slice (awL n).A1 (awL n).n1 (awL n).c1, .slice (awL n).A2 (awL n).n2 (awL n).c2]) w := run_build w _ _ _ (by kernel_rfl)
theorem awBuildA (w : World) : (Instr.build 41 #[(0, .string ⟨#[121]⟩), (3, .int .i64 15), (5, .string ⟨#[100]⟩)]).run Tryd.prog w = .ok (.agg #[.string awA.fr, .string awA.to, .int .i64 awA.num, .int .i64 awA.kind, .int .i64 awA.ack, .string awA.deal, .string awA.text, .string awA.party, .int .i64 awA.idx, .int .i64 awA.day, .string awA.cur, .int .i64 awA.amt, .slice awA.A1 awA.n1 awA.c1, .slice awA.A2 awA.n2 awA.c2]) w := run_build w _ _ _ (by kernel_rfl)
def CloP (w : World) (lo hi o mb n : Nat) (nm bank : ByteArray) (kind : Int) (m : ByteArray → Option Nat) (ds : ByteArray → Option Dl) (st : ByteArray → St) (l : Lt) (e : Ending) (w' : World) : Prop :=
  e = .returned (.int .i64 ((outV kind bank (ds l.deal) (st l.deal) l).1.length : Nat)) ∧ Off w' lo hi o nm bank kind mb n m ds (setS st l.deal (outV kind bank (ds l.deal) (st l.deal) l).2) ∧ Fr (fun k => lo ≤ k ∧ k < hi) w w'
set_option maxRecDepth 100000 in
set_option maxHeartbeats 3200000 in
theorem aw_clo (k : Int) (g lo hi o mb n : Nat) (nm bank : ByteArray) (kind : Int) (m : ByteArray → Option Nat) (ds : ByteArray → Option Dl) (st : ByteArray → St) (w : World) (hg : w.cell? ⟨g, 0, none⟩ = some (.pointer (some ⟨o, 0, none⟩))) (h : Off w lo hi o nm bank kind mb n m ds st) (hl : I64 k) (hhi : hi ≤ w.heap.size) (ht : ∀ W, Fr (fun k => lo ≤ k ∧ k < hi) w W → PowTab W) :
    Calls Tryd.prog 11 #[.int .i64 k, (.pointer (some ⟨g, 0, none⟩))] w (CloP w lo hi o mb n nm bank kind m ds st (awL k)) := by
  have HT := Lib.hid (take_any lo hi o mb n nm bank kind m ds st (awL k) 1 w h hl hhi ht)
  have hb1 := mbuild w ⟨#[85, 83, 68]⟩ k
  have hb2 := awBuild w k
  clear h ht
  go_enter Tryd.func11, Tryd.ntmps11
  go_wp2_with fail
  refine HT.out.mono ?_
  rintro e w1 ⟨v, rfl, hv, hO, hF⟩
  obtain ⟨A, n1, rfl, hn1, _⟩ := hv.get
  have HO := Lib.hid hO
  have HF := Lib.hid hF
  clear hv hO hF
  go_wp2_with fail
  go_ret
  exact ⟨by rw [← hn1]; rfl, HO.out, HF.out⟩
theorem ptBuild (w : World) : (Instr.build 47 #[(0, .string ⟨#[104]⟩), (2, .int .i64 3), (1, .string ⟨#[107]⟩)]).run Tryd.prog w = .ok (.agg #[.string ⟨#[104]⟩, .string ⟨#[107]⟩, .int .i64 3]) w := run_build w _ _ _ (by kernel_rfl)
theorem ptSlice (w : World) : (Instr.buildSlice 22 1 #[(0, .agg #[.string ⟨#[104]⟩, .string ⟨#[107]⟩, .int .i64 3])]).run Tryd.prog w = .ok (.slice (some ⟨w.heap.size, 0, none⟩) 1 1) (w.alloc (.cells #[.string ⟨#[104]⟩, .string ⟨#[107]⟩, .int .i64 3] 47)) := by kernel_rfl
theorem dlBuild (w : World) : (Instr.build 50 #[(0, .string ⟨#[100]⟩), (2, .string ⟨#[121]⟩), (3, .string ⟨#[99]⟩), (5, .string ⟨#[104]⟩), (9, .agg #[.string ⟨#[85, 83, 68]⟩, .int .i64 500]), (15, .int .i64 50)]).run Tryd.prog w = .ok (.agg #[.string awD.num, .string awD.sel, .string awD.buy, .string awD.car, .string awD.iss, .string awD.hou, .string awD.ins, .string awD.fr, .string awD.dst, .string awD.cur, .int .i64 awD.amt, .slice none 0 0, .int .i64 awD.term, .int .i64 awD.lat, .int .i64 awD.exp, .int .i64 awD.ten, .int .i64 awD.dut]) w := run_build w _ _ _ (by kernel_rfl)
theorem dlSlice (w : World) : (Instr.buildSlice 23 1 #[(0, .agg #[.string awD.num, .string awD.sel, .string awD.buy, .string awD.car, .string awD.iss, .string awD.hou, .string awD.ins, .string awD.fr, .string awD.dst, .string awD.cur, .int .i64 awD.amt, .slice none 0 0, .int .i64 awD.term, .int .i64 awD.lat, .int .i64 awD.exp, .int .i64 awD.ten, .int .i64 awD.dut])]).run Tryd.prog w = .ok (.slice (some ⟨w.heap.size, 0, none⟩) 1 1) (w.alloc (.cells #[.string awD.num, .string awD.sel, .string awD.buy, .string awD.car, .string awD.iss, .string awD.hou, .string awD.ins, .string awD.fr, .string awD.dst, .string awD.cur, .int .i64 awD.amt, .slice none 0 0, .int .i64 awD.term, .int .i64 awD.lat, .int .i64 awD.exp, .int .i64 awD.ten, .int .i64 awD.dut] 50)) := by kernel_rfl
theorem suBuild (w : World) (g h : Nat) : (Instr.build 29 #[(0, .slice (some ⟨g, 0, none⟩) 1 1), (1, .slice (some ⟨h, 0, none⟩) 1 1)]).run Tryd.prog w = .ok (.agg #[.slice (some ⟨g, 0, none⟩) 1 1, .slice (some ⟨h, 0, none⟩) 1 1, .slice none 0 0, .slice none 0 0, .slice none 0 0]) w := run_build w _ _ _ (by kernel_rfl)
def awS (g h : Nat) : Su := ⟨some ⟨g, 0, none⟩, 1, 1, some ⟨h, 0, none⟩, 1, 1, none, 0, 0, none, 0, 0, none, 0, 0⟩
theorem awSu {W : World} {g h : Nat} (hp : Blk W g 47 #[.string ⟨#[104]⟩, .string ⟨#[107]⟩, .int .i64 3]) (hd : Blk W h 50 #[.string awD.num, .string awD.sel, .string awD.buy, .string awD.car, .string awD.iss, .string awD.hou, .string awD.ins, .string awD.fr, .string awD.dst, .string awD.cur, .int .i64 awD.amt, .slice none 0 0, .int .i64 awD.term, .int .i64 awD.lat, .int .i64 awD.exp, .int .i64 awD.ten, .int .i64 awD.dut]) : SuOK W (awS g h) [awP] [awX] where
  p := SliceOf.blk (en := ptyC) hp [awP] rfl pty_len rfl
  d := SliceOf.blk (en := dxC) hd [awX] rfl dx_len rfl
  bx := fun x hx => by
    obtain rfl : x = awX := by simpa using hx
    exact ⟨by decide, [], SliceOf.none_, fun b hb => by cases hb⟩
  ok := fun x hx => by
    obtain rfl : x = awX := by simpa using hx
    exact ⟨by decide, by unfold maxLen; decide, ⟨by decide, by decide⟩, ⟨by decide, by decide⟩⟩
  pn := (by omega : (1 : Nat) ≤ 16)
  dn := (by omega : (1 : Nat) ≤ 16)
set_option maxRecDepth 100000 in
set_option maxHeartbeats 12800000 in
theorem awake_any (w : World) (ht : PowTab w) : Calls Tryd.prog 6 #[] w fun e w' => e = .returned (.bool true) ∧ Below w.heap.size w w' := by
  have HTB := Lib.hid (Lib.tabBelow_of_tabIs ht)
  have q1 := ptBuild; have q2 := ptSlice; have q3 := mbuild; have q4 := dlBuild; have q5 := dlSlice; have q6 := suBuild
  clear ht
  go_enter Tryd.func6, Tryd.ntmps6
  go_upto_region 2 with ((refine stop_store 29 _ _ rfl ?_; refine wpList_store_new rfl 29 _ _ rfl _ rfl rfl (by kernel_rfl) rfl rfl ?_))
  have HP1 : Hid (Blk (((w.alloc (.cells #[.string ⟨#[104]⟩, .string ⟨#[107]⟩, .int .i64 3] 47)).alloc (.cells #[.string awD.num, .string awD.sel, .string awD.buy, .string awD.car, .string awD.iss, .string awD.hou, .string awD.ins, .string awD.fr, .string awD.dst, .string awD.cur, .int .i64 awD.amt, .slice none 0 0, .int .i64 awD.term, .int .i64 awD.lat, .int .i64 awD.exp, .int .i64 awD.ten, .int .i64 awD.dut] 50)).alloc (.cells #[.slice (some ⟨w.heap.size, 0, none⟩) 1 1, .slice (some ⟨w.heap.size + 1, 0, none⟩) 1 1, .slice none 0 0, .slice none 0 0, .slice none 0 0] 29)) w.heap.size 47 #[.string ⟨#[104]⟩, .string ⟨#[107]⟩, .int .i64 3]) := Lib.hid (((Blk.new _ _ _).alloc _).alloc _)
  have HD1 : Hid (Blk (((w.alloc (.cells #[.string ⟨#[104]⟩, .string ⟨#[107]⟩, .int .i64 3] 47)).alloc (.cells #[.string awD.num, .string awD.sel, .string awD.buy, .string awD.car, .string awD.iss, .string awD.hou, .string awD.ins, .string awD.fr, .string awD.dst, .string awD.cur, .int .i64 awD.amt, .slice none 0 0, .int .i64 awD.term, .int .i64 awD.lat, .int .i64 awD.exp, .int .i64 awD.ten, .int .i64 awD.dut] 50)).alloc (.cells #[.slice (some ⟨w.heap.size, 0, none⟩) 1 1, .slice (some ⟨w.heap.size + 1, 0, none⟩) 1 1, .slice none 0 0, .slice none 0 0, .slice none 0 0] 29)) (w.heap.size + 1) 50 #[.string awD.num, .string awD.sel, .string awD.buy, .string awD.car, .string awD.iss, .string awD.hou, .string awD.ins, .string awD.fr, .string awD.dst, .string awD.cur, .int .i64 awD.amt, .slice none 0 0, .int .i64 awD.term, .int .i64 awD.lat, .int .i64 awD.exp, .int .i64 awD.ten, .int .i64 awD.dut]) := Lib.hid ((blk_second _ _ _ _).alloc _)
  have HS1 : Hid (Blk (((w.alloc (.cells #[.string ⟨#[104]⟩, .string ⟨#[107]⟩, .int .i64 3] 47)).alloc (.cells #[.string awD.num, .string awD.sel, .string awD.buy, .string awD.car, .string awD.iss, .string awD.hou, .string awD.ins, .string awD.fr, .string awD.dst, .string awD.cur, .int .i64 awD.amt, .slice none 0 0, .int .i64 awD.term, .int .i64 awD.lat, .int .i64 awD.exp, .int .i64 awD.ten, .int .i64 awD.dut] 50)).alloc (.cells #[.slice (some ⟨w.heap.size, 0, none⟩) 1 1, .slice (some ⟨w.heap.size + 1, 0, none⟩) 1 1, .slice none 0 0, .slice none 0 0, .slice none 0 0] 29)) (w.heap.size + 1 + 1) 29 #[.slice (some ⟨w.heap.size, 0, none⟩) 1 1, .slice (some ⟨w.heap.size + 1, 0, none⟩) 1 1, .slice none 0 0, .slice none 0 0, .slice none 0 0]) := Lib.hid (Blk.new_at _ _ _ _ (by simp))
  have HB1 : Hid (Below w.heap.size w (((w.alloc (.cells #[.string ⟨#[104]⟩, .string ⟨#[107]⟩, .int .i64 3] 47)).alloc (.cells #[.string awD.num, .string awD.sel, .string awD.buy, .string awD.car, .string awD.iss, .string awD.hou, .string awD.ins, .string awD.fr, .string awD.dst, .string awD.cur, .int .i64 awD.amt, .slice none 0 0, .int .i64 awD.term, .int .i64 awD.lat, .int .i64 awD.exp, .int .i64 awD.ten, .int .i64 awD.dut] 50)).alloc (.cells #[.slice (some ⟨w.heap.size, 0, none⟩) 1 1, .slice (some ⟨w.heap.size + 1, 0, none⟩) 1 1, .slice none 0 0, .slice none 0 0, .slice none 0 0] 29))) := Lib.hid ((two_alloc w (.cells #[.string ⟨#[104]⟩, .string ⟨#[107]⟩, .int .i64 3] 47) (.cells #[.string awD.num, .string awD.sel, .string awD.buy, .string awD.car, .string awD.iss, .string awD.hou, .string awD.ins, .string awD.fr, .string awD.dst, .string awD.cur, .int .i64 awD.amt, .slice none 0 0, .int .i64 awD.term, .int .i64 awD.lat, .int .i64 awD.exp, .int .i64 awD.ten, .int .i64 awD.dut] 50)).alloc (by simp; omega) _)
  obtain ⟨w1, hw1⟩ : ∃ W, (((w.alloc (.cells #[.string ⟨#[104]⟩, .string ⟨#[107]⟩, .int .i64 3] 47)).alloc (.cells #[.string awD.num, .string awD.sel, .string awD.buy, .string awD.car, .string awD.iss, .string awD.hou, .string awD.ins, .string awD.fr, .string awD.dst, .string awD.cur, .int .i64 awD.amt, .slice none 0 0, .int .i64 awD.term, .int .i64 awD.lat, .int .i64 awD.exp, .int .i64 awD.ten, .int .i64 awD.dut] 50)).alloc (.cells #[.slice (some ⟨w.heap.size, 0, none⟩) 1 1, .slice (some ⟨w.heap.size + 1, 0, none⟩) 1 1, .slice none 0 0, .slice none 0 0, .slice none 0 0] 29)) = W := ⟨_, rfl⟩
  rw [hw1] at HP1 HD1 HS1 HB1
  change Code.wp _ _ _ _ (((w.alloc (.cells #[.string ⟨#[104]⟩, .string ⟨#[107]⟩, .int .i64 3] 47)).alloc (.cells #[.string awD.num, .string awD.sel, .string awD.buy, .string awD.car, .string awD.iss, .string awD.hou, .string awD.ins, .string awD.fr, .string awD.dst, .string awD.cur, .int .i64 awD.amt, .slice none 0 0, .int .i64 awD.term, .int .i64 awD.lat, .int .i64 awD.exp, .int .i64 awD.ten, .int .i64 awD.dut] 50)).alloc (.cells #[.slice (some ⟨w.heap.size, 0, none⟩) 1 1, .slice (some ⟨w.heap.size + 1, 0, none⟩) 1 1, .slice none 0 0, .slice none 0 0, .slice none 0 0] 29))
  rw [hw1]
  obtain ⟨gs, hgs⟩ : ∃ g, w.heap.size + 1 + 1 = g := ⟨_, rfl⟩
  rw [hgs] at HS1
  simp only [hgs]
  have HN := Lib.hid (new_any ⟨#[104]⟩ (awS w.heap.size (w.heap.size + 1)) [awP] [awX] w1 (awSu HP1.out HD1.out))
  clear hw1 hgs q1 q2 q3 q4 q5 q6
  go_wp2_with ((refine stop_load 29 _ rfl ?_; refine wpList_load_want rfl 29 _ rfl gs rfl 29 _ _ HS1.out Tryd.underlying29 rfl (by kernel_rfl) ?_))
  refine HN.out.mono ?_
  rintro e w2 ⟨o, mb, n, m, rfl, hO, hb2⟩
  rw [awWho] at hO
  dsimp only at hO
  have HB2 := Lib.hid (HB1.out.trans (hb2.mono HB1.out.size))
  have HO3 := Lib.hid (hO.below (one_alloc w2 (.cells #[(.pointer (some ⟨o, 0, none⟩))] 34)))
  have HB3 := Lib.hid (HB2.out.alloc HB2.out.size (.cells #[(.pointer (some ⟨o, 0, none⟩))] 34))
  have HC3 : Hid (Blk (w2.alloc (.cells #[(.pointer (some ⟨o, 0, none⟩))] 34)) w2.heap.size 34 #[(.pointer (some ⟨o, 0, none⟩))]) := Lib.hid (Blk.new _ _ _)
  have HL3 : Hid (w.heap.size ≤ w1.heap.size) := Lib.hid HB1.out.size
  have HZ3 : Hid (w2.heap.size < (w2.alloc (.cells #[(.pointer (some ⟨o, 0, none⟩))] 34)).heap.size) := Lib.hid (by rw [size_alloc]; omega)
  clear hO hb2 HN
  go_upto_region 3 with (first | (refine stop_store 34 _ _ rfl ?_; refine wpList_store_new rfl 34 _ _ rfl _ rfl rfl (by kernel_rfl) rfl rfl ?_))
  obtain ⟨w3, hw3⟩ : ∃ W, w2.alloc (.cells #[(.pointer (some ⟨o, 0, none⟩))] 34) = W := ⟨_, rfl⟩
  obtain ⟨g2, hg2⟩ : ∃ g, w2.heap.size = g := ⟨_, rfl⟩
  rw [hw3] at HO3 HB3 HC3 HZ3 ⊢
  rw [hg2] at HO3 HC3 HZ3
  simp only [hg2]
  clear hw3 hg2 HB2 HP1 HD1 HS1
  have c0 := HC3.out.cell 0
  simp only [List.getElem?_toArray, List.getElem?_cons_zero] at c0
  have qA := awBuildA w3
  obtain ⟨lo, hlo⟩ : ∃ g, w1.heap.size = g := ⟨_, rfl⟩
  rw [hlo] at HO3 HL3
  clear hlo
  have HTF : ∀ W1, Below w.heap.size w W1 → g2 ≤ W1.heap.size → ∀ W, Fr (fun k => lo ≤ k ∧ k < g2) W1 W → PowTab W := fun W1 hb hz W hW => HTB.out W (hW.bel hb (fun k hk => Nat.le_trans HL3.out hk.1) hb.size)
  have HTF := Lib.hid HTF
  have HD0 : Hid (dealsOf ⟨#[104]⟩ 3 [awX] ⟨#[100]⟩ = some awD) := Lib.hid awDeals
  obtain ⟨ds, hds⟩ : ∃ ds, dealsOf ⟨#[104]⟩ 3 [awX] = ds := ⟨_, rfl⟩
  rw [hds] at HO3 HD0
  clear hds
  have HT1 := Lib.hid (take_any lo g2 o mb n ⟨#[104]⟩ ⟨#[107]⟩ 3 m ds (fun _ => ⟨0, 0⟩) awA 1 w3 HO3.out ⟨by decide, by decide⟩ (Nat.le_of_lt HZ3.out) (HTF.out w3 HB3.out (Nat.le_of_lt HZ3.out)))
  go_wp2_with fail
  refine HT1.out.mono ?_
  rintro e w4 ⟨v, rfl, hv, hO4, hF4⟩
  have e1 : outV 3 ⟨#[107]⟩ (ds awA.deal) ((fun _ => ⟨0, 0⟩ : ByteArray → St) awA.deal) awA = (dutyL awD 25, ⟨1, 0⟩) := by
    show outV 3 ⟨#[107]⟩ (ds ⟨#[100]⟩) ⟨0, 0⟩ awA = _
    rw [HD0.out]
    exact awT1
  rw [e1] at hv hO4
  obtain ⟨A4, n4, rfl, hn4, -, hv4⟩ := hv.get
  obtain rfl : n4 = 1 := hn4
  obtain ⟨b, x, D, H, rfl, hx, hcx, -⟩ := hv4 0 (by omega)
  have hx0 : x = ⟨awD.buy, 16, awD.cur, 25, none⟩ := by simpa [dutyL] using hx.symm
  subst hx0
  have c11 : w4.cell? ⟨b, 11, none⟩ = some (.int .i64 25) := by have q := hcx 11 _ rfl; simpa using q
  have HO4 := Lib.hid hO4
  have HB4 := Lib.hid (hF4.bel HB3.out (fun k hk => Nat.le_trans HL3.out hk.1) HB3.out.size)
  have HC4 := Lib.hid (HC3.out.fr hF4 (fun h => by omega))
  have HZ4 : Hid (g2 ≤ w4.heap.size) := Lib.hid (Nat.le_trans (Nat.le_of_lt HZ3.out) hF4.size)
  clear hv hO4 hF4 e1 hv4 hx hcx HT1 qA c0 HO3
  have c4 := HC4.out.cell 0
  simp only [List.getElem?_toArray, List.getElem?_cons_zero] at c4
  have HL1 := Lib.hid (aw_clo 24 g2 lo g2 o mb n ⟨#[104]⟩ ⟨#[107]⟩ 3 m ds _ w4 c4 HO4.out ⟨by decide, by decide⟩ HZ4.out (HTF.out w4 HB4.out HZ4.out))
  go_wp2_with fail
  refine HL1.out.mono ?_
  rintro e w5 ⟨he, hO5, hF5⟩
  have e2 : outV 3 ⟨#[107]⟩ (ds (awL 24).deal) (setS (fun _ => ⟨0, 0⟩) awA.deal ((dutyL awD 25, ⟨1, 0⟩) : List Ol × St).2 (awL 24).deal) (awL 24) = ([], ⟨1, 24⟩) := by
    show outV 3 ⟨#[107]⟩ (ds ⟨#[100]⟩) (setS (fun _ => ⟨0, 0⟩) ⟨#[100]⟩ ⟨1, 0⟩ ⟨#[100]⟩) (awL 24) = _
    rw [HD0.out]
    unfold setS
    rw [if_pos rfl]
    exact awT2
  rw [e2] at he hO5
  have he' : e = .returned (.int .i64 0) := he
  subst he'
  have HO5 := Lib.hid hO5
  have HB5 := Lib.hid (hF5.bel HB4.out (fun k hk => Nat.le_trans HL3.out hk.1) HB4.out.size)
  have HC5 := Lib.hid (HC4.out.fr hF5 (fun h => by omega))
  have HZ5 : Hid (g2 ≤ w5.heap.size) := Lib.hid (Nat.le_trans HZ4.out hF5.size)
  clear hO5 hF5 e2 he HL1 HO4 c4 c11
  have c5 := HC5.out.cell 0
  simp only [List.getElem?_toArray, List.getElem?_cons_zero] at c5
  have HL2 := Lib.hid (aw_clo 1 g2 lo g2 o mb n ⟨#[104]⟩ ⟨#[107]⟩ 3 m ds _ w5 c5 HO5.out ⟨by decide, by decide⟩ HZ5.out (HTF.out w5 HB5.out HZ5.out))
  go_wp2_with fail
  refine HL2.out.mono ?_
  rintro e w6 ⟨he, hO6, hF6⟩
  have e3 : outV 3 ⟨#[107]⟩ (ds (awL 1).deal) (setS (setS (fun _ => ⟨0, 0⟩) awA.deal ((dutyL awD 25, ⟨1, 0⟩) : List Ol × St).2) (awL 24).deal (([], ⟨1, 24⟩) : List Ol × St).2 (awL 1).deal) (awL 1) = (freeL awD, ⟨2, 25⟩) := by
    show outV 3 ⟨#[107]⟩ (ds ⟨#[100]⟩) (setS (setS (fun _ => ⟨0, 0⟩) ⟨#[100]⟩ ⟨1, 0⟩) ⟨#[100]⟩ ⟨1, 24⟩ ⟨#[100]⟩) (awL 1) = _
    rw [HD0.out]
    unfold setS
    rw [if_pos rfl]
    exact awT3
  rw [e3] at he hO6
  have he' : e = .returned (.int .i64 2) := he
  subst he'
  have HS6 := Lib.hid (state_any lo g2 o mb n ⟨#[104]⟩ ⟨#[107]⟩ 3 m ds _ ⟨#[100]⟩ w6 hO6)
  have HV6 : Hid (stateV ds (setS (setS (setS (fun _ => ⟨0, 0⟩) awA.deal ((dutyL awD 25, ⟨1, 0⟩) : List Ol × St).2) (awL 24).deal (([], ⟨1, 24⟩) : List Ol × St).2) (awL 1).deal ((freeL awD, ⟨2, 25⟩) : List Ol × St).2) ⟨#[100]⟩ = 2) := Lib.hid (by
    unfold stateV
    rw [HD0.out]
    rfl)
  have HB6 := Lib.hid (hF6.bel HB5.out (fun k hk => Nat.le_trans HL3.out hk.1) HB5.out.size)
  have hC6 := HC5.out.fr hF6 (fun h => by omega)
  have c6 := hC6.cell 0
  simp only [List.getElem?_toArray, List.getElem?_cons_zero] at c6
  clear hO6 hF6 e3 he HL2 HO5 c5 hC6
  go_wp2_with fail
  refine HS6.out.mono ?_
  rintro e w7 ⟨rfl, rfl⟩
  rw [HV6.out]
  go_wp2_with fail
  go_ret
  exact ⟨rfl, HB6.out⟩
end Go.Proofs.YtdanjegnhdpnlaaDoor.kit
