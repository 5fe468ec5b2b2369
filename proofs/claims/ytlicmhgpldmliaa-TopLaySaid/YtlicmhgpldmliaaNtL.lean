/- netting.Pairs of two debts against one another; the top's first look. No condition. -/
import Derived.Test.YtlicmhgpldmliaaNtN
import Derived.Test.YtlicmhgpldmliaaShelf
import Derived.Test.YtlicmhgpldmliaaOwn
import Derived.Deep.Slices
namespace Go.Proofs.Ytlicmhgpldmliaa.kit
open Go.RowKit Go.PlainAid Go.ChangeMaps
set_option linter.unusedVariables false
theorem wpList_mlen {P : Program} {ops : Array Oper} {rest : List Oper} {o : Oper} {a : Act} {w : World} {Q : Exit → Act → World → Prop} (hg : o.guard = none) (m : Operand) (t : TypeId) (hop : o.op = Op.call { callee := Callee.builtin Builtin.len, args := #[m], argTypes := #[t] }) (M v : Value) (hm : a.eval m = M) (ty : TypeId) (h0 : (Builtin.len_ #[t] ty #[M]).run P w = .ok v w) (hk : wpList P ops Q rest (a.put o.dst v) w) : wpList P ops Q (o :: rest) a w := by
  refine wpList_plain hg fun K' hK' => ?_
  have h : (Builtin.len_ #[t] o.type #[M]).run P w = .ok v w := h0
  unfold Oper.wp
  simp [execOp, hop, resolve, invoke, builtin, hm, h, Result.andThen]
  exact hK' _ _ hk
theorem len_one {w : World} {b ck : Nat} (h : MapAt w b m5 ck) (ty : TypeId) : (Builtin.len_ #[146] ty #[.map (some b)]).run Try.prog w = .ok (.int .i64 1) w := by
  have : m5.size = 1 := rfl
  simp [Builtin.len_, run_underlying Try.underlying146, MapKept.run_getObj_map h, Result.andThen, goInt, this]
theorem mk_one (w : World) : ∃ cs : Array Value, cs.size = 4 ∧ (Instr.makeSlice 114 (.int .i64 0) (.int .i64 1)).run Try.prog w = .ok (.slice (some ⟨w.heap.size, 0, none⟩) 0 1) (w.alloc (.cells cs 118)) := by
  obtain ⟨i0, hi, hz0, hz1, hz2⟩ := info_parts (show (Try.prog.info? 118).map (fun i => (i.zero, i.size, i.bytes)) = some (some (.agg #[.string ByteArray.empty, .string ByteArray.empty, .string ByteArray.empty, .int .i64 0]), 4, 56) by kernel_rfl)
  have h := run_make (P := Try.prog) w 114 118 i0 _ Try.underlying114 hi hz0 .i64 .i64 0 1 (by omega) (by omega) (by rw [hz2]; omega) (by omega)
  exact ⟨_, by rw [size_madeCells, hz1]; rfl, h⟩
set_option maxRecDepth 100000 in
set_option maxHeartbeats 1600000 in
theorem sort_one (c : Nat) (A : Option Addr) (w : World) : Calls Try.prog 80 #[.slice A 1 c, .func (.func 81) #[] #[]] w fun e w' => e = .returned (.tuple #[]) ∧ Below w.heap.size w w' := by
  have hlen : ∀ W, Calls Try.prog 93 #[.int .u64 1] W fun e w' => ∃ n : Int, e = .returned (.int .i64 n) ∧ W = w' := fun W => (Try.bits_Len 1 W (by omega) (by omega)).mono fun e w' h => ⟨_, h.1, h.2.symm⟩
  have hins : ∀ (W : World), Calls Try.prog 98 #[.slice A 1 c, .int .i64 0, .int .i64 1, .func (.func 81) #[] #[]] W fun e w' => e = .returned (.tuple #[]) ∧ W = w' := fun W => by
    go_enter Try.func98, Try.ntmps98
    go_wp2_with fail
    go_loopw [8] (fun i wr => i = .int .i64 1 ∧ wr = W) (fun _ _ => 0)
    case atStart => exact ⟨rfl, rfl⟩
    case round =>
      obtain ⟨rfl, rfl⟩ := hrel
      go_wp2_with fail
      refine bodyPost_end (v := .tuple #[]) (by simp [results, Try.results98]) rfl ?_
      exact ⟨rfl, rfl⟩
  have hpdq : ∀ (n : Int) (W : World), Calls Try.prog 92 #[.slice A 1 c, .int .i64 0, .int .i64 1, .int .i64 n, .func (.func 81) #[] #[]] W fun e w' => e = .returned (.tuple #[]) ∧ W = w' := fun n W => by
    have HI := Lib.hid hins
    clear hins hlen
    go_enter Try.func92, Try.ntmps92
    go_wp2_with fail
    go_loopw [1, 2] (fun a b wr => a = .int .i64 0 ∧ b = .int .i64 1 ∧ wr = W) (fun _ _ _ => 0)
    case atStart => exact ⟨rfl, rfl, rfl⟩
    case round =>
      obtain ⟨rfl, rfl, rfl⟩ := hrel
      go_wp2_with fail
      refine (HI.out _).mono ?_
      rintro e w' ⟨rfl, rfl⟩
      go_wp2_with fail
      refine bodyPost_ret (v := .tuple #[]) (by simp [results, Try.results92]) rfl ?_
      exact ⟨rfl, rfl⟩
  have HL := Lib.hid hlen
  have HP := Lib.hid hpdq
  clear hlen hins hpdq
  go_enter Try.func80, Try.ntmps80
  go_wp2_with fail
  refine (HL.out _).mono ?_
  rintro e w' ⟨n, rfl, rfl⟩
  go_wp2_with fail
  refine (HP.out _ _).mono ?_
  rintro e w' ⟨rfl, rfl⟩
  go_wp2_with fail
  refine bodyPost_end (v := .tuple #[]) (by simp [results, Try.results80]) rfl ?_
  exact ⟨rfl, Below.refl _ _⟩

theorem own_slice {w : World} {base n : Nat} {e : TypeId} {C : Nat} {v : Value} {ys : List Value} (h : w.ownsRow base e C v n ys) : ∃ A c, v = .slice A n c := by
  rcases h.2 with ⟨hv, h0⟩ | ⟨g, cap, cur, hv, _⟩
  · exact ⟨none, 0, by rw [hv, h0]⟩
  · exact ⟨_, _, hv⟩
def dR : Db := (⟨#[97]⟩, ⟨#[98]⟩, ⟨#[85, 83, 68]⟩, 2)
theorem db_len (x : Db) : (dbC x).length = 4 := rfl
set_option maxRecDepth 100000 in
set_option maxHeartbeats 3200000 in
theorem list_one (b : Nat) (w : World) (hM : MapAt w b m5 2) : Calls Try.prog 64 #[.map (some b)] w fun e w' => ∃ A c, e = .returned (.slice A 1 c) ∧ SliceOf w' 4 dbC A 1 [dR] ∧ Below w.heap.size w w' := by
  have hlb := hM.lt
  obtain ⟨cs, hcs, hmk⟩ := mk_one w
  obtain ⟨i0, hi, hz0, hz1, hz2⟩ := info_parts (show (Try.prog.info? 118).map (fun i => (i.zero, i.size, i.bytes)) = some (some (.agg #[.string ByteArray.empty, .string ByteArray.empty, .string ByteArray.empty, .int .i64 0]), 4, 56) by kernel_rfl)
  have HO1 := Lib.hid (World.ownsRow_made (base := w.heap.size) (e := 118) (size := 4) w cs 1 (Nat.le_refl _) (by unfold maxLen; omega) (by rw [hcs]))
  have HM := Lib.hid hM
  have hB1 : Below w.heap.size w (w.alloc (.cells cs 118)) := one_alloc _ _
  have hM1 := hM.alloc (.cells cs 118)
  have hs1 : w.heap.size < (w.alloc (.cells cs 118)).heap.size := by rw [show (w.alloc (.cells cs 118)).heap.size = w.heap.size + 1 from Array.size_push _]; omega
  obtain ⟨g, hg⟩ : ∃ g, w.heap.size = g := ⟨_, rfl⟩
  obtain ⟨w1, hw1⟩ : ∃ W, w.alloc (.cells cs 118) = W := ⟨_, rfl⟩
  rw [hw1] at HO1 hB1 hM1 hs1 hmk
  have hrg := run_range_map w1 146 166 2 b m5 2 Try.underlying146 hM1
  have hI2 : IterAt (w1.alloc (.mapIter (some b) 2 #[] 2)) w1.heap.size b 2 #[] 2 := heap_alloc_new w1 _
  have HO2 := Lib.hid (HO1.out.alloc (.mapIter (some b) 2 #[] 2))
  have HB2 := Lib.hid (hB1.alloc hB1.size (.mapIter (some b) 2 #[] 2))
  obtain ⟨r, hr⟩ : ∃ r, w1.heap.size = r := ⟨_, rfl⟩
  rw [hr] at hrg hI2 hs1
  have hrb : r ≠ b := by omega
  have hln := len_one hM 3
  have HI2 := Lib.hid hI2
  rw [hg] at hs1 hlb HO2 HB2 hmk ⊢
  have hgr : g ≠ r := by omega
  clear hI2 hr hM HO1 hB1 hM1 hcs hw1
  go_enter Try.func64, Try.ntmps64
  go_wp2_with ((at_range; refine wpList_range rfl _ _ rfl _ _ rfl hrg ?_))
  try go_frame
  go_loopw [3] (fun v wr => ∃ seen n, (seen = #[] ∧ n = 0 ∧ Hid (v.ownBlock = some g) ∨ seen = #[0] ∧ n = 1) ∧ Hid (wr.ownsRow g 118 4 v n ([dR].take n |>.flatMap dbC)) ∧ Hid (IterAt wr r b 2 seen 2) ∧ Hid (Below g w wr)) (fun _ wr => wr.rangeLeft b r)
  case atStart => exact ⟨#[], 0, .inl ⟨rfl, rfl, Lib.hid rfl⟩, HO2, HI2, HB2⟩
  case round =>
    clear HO2 HI2 HB2 hrg hln hmk
    obtain ⟨seen, n, hst, hro, hri, hrb2⟩ := hrel
    have hqm := HM.out.below hrb2.out hlb
    have hms := Lib.hid (left_of hqm hri.out)
    have hnx := next_step 0 hri.out hqm (loop_old (.inr (.inl ⟨rfl, rfl⟩))).1 (Nat.le_refl _) hrb (loop_old (.inr (.inl ⟨rfl, rfl⟩))).2
    have hqs := hrb2.out.size
    have hrl := hri.out.lt
    rcases hst with ⟨rfl, rfl, hob⟩ | ⟨rfl, rfl⟩
    · rcases hnx with ⟨h0, _⟩ | ⟨e, he, w2, hrun, hit, hen⟩
      · rw [left_e] at h0; cases h0
      · have he2 : e = ⟨k1, .int .i64 2, 0⟩ := by rw [left_e] at he; simpa [m5] using he
        subst he2
        dsimp only [k1] at hrun hen
        have HI2 := Lib.hid hit.at_
        have HB2 := Lib.hid (hit.bel hrb2.out (by rw [← hg]; exact hqs) (by omega))
        have HO2 := Lib.hid (hro.out.kept hit.grown (.inr (fun e => by rw [hob.out] at e; injection e with e; exact hgr e)))
        have hs2 := hit.size
        have hgw : g ≤ w2.heap.size := by omega
        have hrw : r < w2.heap.size := by omega
        clear hqm hri hrb2 hro hit he hqs hrl hs2
        go_upto_region 5 with (first | (at_next; refine wpList_next rfl _ rfl _ _ rfl 0 hrun ?_) | ((refine stop_store 166 _ _ rfl ?_; refine wpList_store_new rfl 166 _ _ rfl _ rfl rfl (by kernel_rfl) rfl rfl ?_)))
        have hx7 := Blk.new w2 166 #[.string ⟨#[85, 83, 68]⟩, .string ⟨#[97]⟩, .string ⟨#[98]⟩]
        have HIx := Lib.hid (HI2.out.alloc (.cells #[.string ⟨#[85, 83, 68]⟩, .string ⟨#[97]⟩, .string ⟨#[98]⟩] 166))
        have HOx := Lib.hid (HO2.out.alloc (.cells #[.string ⟨#[85, 83, 68]⟩, .string ⟨#[97]⟩, .string ⟨#[98]⟩] 166))
        have HBx := Lib.hid (HB2.out.alloc hgw (.cells #[.string ⟨#[85, 83, 68]⟩, .string ⟨#[97]⟩, .string ⟨#[98]⟩] 166))
        have hgx : g ≤ (w2.alloc (.cells #[.string ⟨#[85, 83, 68]⟩, .string ⟨#[97]⟩, .string ⟨#[98]⟩] 166)).heap.size := by rw [show (w2.alloc (.cells #[.string ⟨#[85, 83, 68]⟩, .string ⟨#[97]⟩, .string ⟨#[98]⟩] 166)).heap.size = w2.heap.size + 1 from Array.size_push _]; omega
        obtain ⟨g7, hg7⟩ : ∃ g, w2.heap.size = g := ⟨_, rfl⟩
        obtain ⟨wx, hwx⟩ : ∃ W, w2.alloc (.cells #[.string ⟨#[85, 83, 68]⟩, .string ⟨#[97]⟩, .string ⟨#[98]⟩] 166) = W := ⟨_, rfl⟩
        rw [hwx] at hx7 HIx HOx HBx hgx ⊢
        rw [hg7] at hx7 ⊢
        clear hwx hg7 HI2 HO2 HB2 hrun hen hgw hrw
        have z0 := hx7.cell 0; have z1 := hx7.cell 1; have z2 := hx7.cell 2
        simp only [List.getElem?_toArray, List.getElem?_cons_zero, List.getElem?_cons_succ] at z0 z1 z2
        clear hx7
        have hq0 : 0 < 4 := by omega
        have hq3 : 0 + 1 ≤ maxLen := by unfold maxLen; omega
        have hq4 : (0 + 1) * 56 ≤ 140737488355328 := by omega
        have hq5 : ∀ u ∈ ([.string ⟨#[97]⟩, .string ⟨#[98]⟩, .string ⟨#[85, 83, 68]⟩, .int .i64 2] : List Value), u.oneCell' = true := by simp [Value.oneCell']
        have HSX : Hid (g ≤ (wx.alloc (.cells #[.string ⟨#[97]⟩, .string ⟨#[98]⟩, .string ⟨#[85, 83, 68]⟩, .int .i64 2] 118)).heap.size) := Lib.hid (by rw [show (wx.alloc (.cells #[.string ⟨#[97]⟩, .string ⟨#[98]⟩, .string ⟨#[85, 83, 68]⟩, .int .i64 2] 118)).heap.size = wx.heap.size + 1 from Array.size_push _]; omega)
        have HNW := Lib.hid (news_at wx #[.string ⟨#[97]⟩, .string ⟨#[98]⟩, .string ⟨#[85, 83, 68]⟩, .int .i64 2] 118 wx.heap.size rfl)
        have HIy := Lib.hid (HIx.out.alloc (.cells #[.string ⟨#[97]⟩, .string ⟨#[98]⟩, .string ⟨#[85, 83, 68]⟩, .int .i64 2] 118))
        have HOy := Lib.hid (HOx.out.alloc (.cells #[.string ⟨#[97]⟩, .string ⟨#[98]⟩, .string ⟨#[85, 83, 68]⟩, .int .i64 2] 118))
        have HBy := Lib.hid (HBx.out.alloc hgx (.cells #[.string ⟨#[97]⟩, .string ⟨#[98]⟩, .string ⟨#[85, 83, 68]⟩, .int .i64 2] 118))
        clear HIx HOx HBx hgx
        go_wp2_with (at_builtin; refine wpList_append_own_at _ rfl (.tmp 16) (.tmp 25) 114 rfl g 118 i0 _ 4 56 Try.underlying114 hi hz0 hz1 hz2 rfl hq0 u3 0 _ rfl HOy.out ⟨wx.heap.size, 0, none⟩ 1 1 [.string ⟨#[97]⟩, .string ⟨#[98]⟩, .string ⟨#[85, 83, 68]⟩, .int .i64 2] rfl rfl HNW.out hq5 hq3 hq4 HSX.out ?_; intro v1 w9 hown1 hg1 hloc0 hloc1; have HI9 := Lib.hid (HIy.out.kept hg1 (fun e => by rw [hob.out] at e; injection e with e; exact hgr e.symm)); have HB9 := Lib.hid (below_grown_own HBy.out HSX.out HOy.out hg1); have HO9 := Lib.hid hown1; clear hown1 hg1 hloc0 hloc1)
        go_roundw
        case rel => exact ⟨#[0], 1, .inr ⟨rfl, rfl⟩, HO9, HI9, HB9⟩
        case measure => rw [hms.out, left_of (HM.out.below HB9.out hlb) HI9.out, left_e]; exact (show (leftOf m5 #[0]).size < m5.size by rw [left_a]; decide)
    · have hov : (Instr.next (.pointer (some ⟨r, 0, none⟩)) false 0).run Try.prog _ = .ok (.tuple #[.bool false]) _ := hnx.elim (fun h => h.2) (fun ⟨e, he, _⟩ => by rw [left_a] at he; cases he)
      obtain ⟨A, c, rfl⟩ := own_slice hro.out
      go_wp2_with (at_next; refine wpList_next rfl _ rfl _ _ rfl 0 hov ?_)
      refine (sort_one c A _).mono ?_
      rintro e w9 ⟨rfl, hb9⟩
      go_wp2_with fail
      go_ret
      exact ⟨A, c, rfl, (SliceOf.of_own_s hro.out db_len rfl rfl).below hb9, hrb2.out.trans (hb9.mono (by rw [← hg]; exact hqs))⟩

set_option maxRecDepth 100000 in
set_option maxHeartbeats 1600000 in
theorem pairs_any (g c : Nat) (w : World) (hx : SliceOf w 4 dbC (some ⟨g, 0, none⟩) 2 [dA, dB]) :
    Calls Try.prog 45 #[.slice (some ⟨g, 0, none⟩) 2 c] w fun e w' => ∃ A d, e = .returned (.tuple #[.slice A 1 d, .int .i64 0]) ∧ SliceOf w' 4 dbC A 1 [dR] ∧ Below w.heap.size w w' := by
  have HC := Lib.hid (netted_any g 0 c w hx)
  clear hx
  go_enter Try.func45, Try.ntmps45
  go_wp2_with fail
  refine HC.out.mono ?_
  rintro e w1 ⟨b, rfl, hM, hwb, hb1⟩
  have HL := Lib.hid (list_one b w1 hM)
  clear hM
  go_wp2_with fail
  refine HL.out.mono ?_
  rintro e w2 ⟨A, d, rfl, hs, hb2⟩
  have HB := Lib.hid (hb1.trans (hb2.mono hb1.size))
  clear hb2
  go_wp2_with fail
  go_ret2
  exact ⟨A, d, rfl, hs, HB.out⟩
theorem eq_dr (w : World) : (binOp .eql 118 (.agg #[.string ⟨#[97]⟩, .string ⟨#[98]⟩, .string ⟨#[85, 83, 68]⟩, .int .i64 2]) (.agg #[.string ⟨#[97]⟩, .string ⟨#[98]⟩, .string ⟨#[85, 83, 68]⟩, .int .i64 2])).run Try.prog w = .ok (.bool true) w := by kernel_rfl
theorem eq_drG (x y : Operand) (w : World) : (eqGuard .eql 118 x y (.agg #[.string ⟨#[97]⟩, .string ⟨#[98]⟩, .string ⟨#[85, 83, 68]⟩, .int .i64 2]) (.agg #[.string ⟨#[97]⟩, .string ⟨#[98]⟩, .string ⟨#[85, 83, 68]⟩, .int .i64 2])).run Try.prog w = .ok () w := by kernel_rfl
theorem bs_two (w : World) : (Instr.buildSlice 114 2 #[(0, .agg #[.string ⟨#[97]⟩, .string ⟨#[98]⟩, .string ⟨#[85, 83, 68]⟩, .int .i64 5]), (1, .agg #[.string ⟨#[98]⟩, .string ⟨#[97]⟩, .string ⟨#[85, 83, 68]⟩, .int .i64 3])]).run Try.prog w = .ok (.slice (some ⟨w.heap.size, 0, none⟩) 2 2) (w.alloc (.cells #[.string ⟨#[97]⟩, .string ⟨#[98]⟩, .string ⟨#[85, 83, 68]⟩, .int .i64 5, .string ⟨#[98]⟩, .string ⟨#[97]⟩, .string ⟨#[85, 83, 68]⟩, .int .i64 3] 118)) := by kernel_rfl
set_option maxRecDepth 100000 in
set_option maxHeartbeats 1600000 in
theorem nets_any (w : World) : Calls Try.prog 23 #[] w fun e w' => e = .returned (.bool true) ∧ Below w.heap.size w w' := by
  have hbs := bs_two w
  have HX := Lib.hid (SliceOf.blk (en := dbC) (Blk.new_at w 118 #[.string ⟨#[97]⟩, .string ⟨#[98]⟩, .string ⟨#[85, 83, 68]⟩, .int .i64 5, .string ⟨#[98]⟩, .string ⟨#[97]⟩, .string ⟨#[85, 83, 68]⟩, .int .i64 3] _ rfl) [dA, dB] rfl db_len rfl)
  have HC := Lib.hid (pairs_any w.heap.size 2 _ HX.out)
  have HB0 := Lib.hid (one_alloc w (.cells #[.string ⟨#[97]⟩, .string ⟨#[98]⟩, .string ⟨#[85, 83, 68]⟩, .int .i64 5, .string ⟨#[98]⟩, .string ⟨#[97]⟩, .string ⟨#[85, 83, 68]⟩, .int .i64 3] 118))
  have hs0 : w.heap.size ≤ (w.alloc (.cells #[.string ⟨#[97]⟩, .string ⟨#[98]⟩, .string ⟨#[85, 83, 68]⟩, .int .i64 5, .string ⟨#[98]⟩, .string ⟨#[97]⟩, .string ⟨#[85, 83, 68]⟩, .int .i64 3] 118)).heap.size := HB0.out.size
  have heq := eq_dr
  have heg := eq_drG
  clear HX
  go_enter Try.func23, Try.ntmps23
  go_wp2_with fail
  refine HC.out.mono ?_
  rintro e w1 ⟨A, d, rfl, hs, hb1⟩
  have HB1 := Lib.hid (HB0.out.trans (hb1.mono hs0))
  obtain ⟨b, off, x, rfl, hxk, a0, a1, a2, a3⟩ := get_db hs (k := 0) (by omega)
  injection hxk with hxk
  subst hxk
  dsimp only [dR] at a0 a1 a2 a3
  rw [Nat.zero_mul, Nat.add_zero] at a0 a1 a2 a3
  clear hb1 hs hs0
  go_wp2_with fail
  go_ret
  exact ⟨rfl, HB1.out⟩
end Go.Proofs.Ytlicmhgpldmliaa.kit
