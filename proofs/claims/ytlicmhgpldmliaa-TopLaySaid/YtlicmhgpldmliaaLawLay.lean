/- TopLay: the law. No condition. -/
import Derived.Test.YtlicmhgpldmliaaPly
import Derived.Test.YtlicmhgpldmliaaNtL
import Derived.Test.YtlicmhgpldmliaaMore
namespace Go.Proofs.Ytlicmhgpldmliaa
open Go.RowKit Go.PlainAid Go.Proofs.Ytlicmhgpldmliaa.kit
set_option linter.unusedVariables false
theorem str_one (u : List Str) : ∀ v ∈ u.flatMap Str.cells, v.oneCell' = true := by
  intro v hv
  obtain ⟨x, _, hx⟩ := List.mem_flatMap.1 hv
  simp [Str.cells] at hx
  rcases hx with rfl | rfl | rfl <;> rfl
theorem grown_of {w w' : World} (h : Below w.heap.size w w') (row : Option Nat) : w.grownBy w' row := ⟨h.os, h.tape, h.output, h.size, fun i hi _ => h.block i hi⟩
def u8C (n : Int) : List Value := [.int .u8 n]
def U8 (n : Int) : Prop := 0 ≤ n ∧ n ≤ 255
/-- How far 'append(append([]T{}, a...), b...)' has come. -/
structure CJ (W0 W : World) (la lb : List Str) (d1 d3 d5 d6 : Bool) (v1 v3 v5 : Value) : Prop where
  bB : Below W0.heap.size W0 W
  c1 : d1 = true → d3 = false → W.ownsRow W0.heap.size 76 3 v1 0 []
  c3 : d3 = true → d5 = false → W.ownsRow W0.heap.size 76 3 v3 la.length (la.flatMap Str.cells)
  c5 : d5 = true → d6 = false → W.ownsRow W0.heap.size 76 3 v5 (la.length + lb.length) ((la ++ lb).flatMap Str.cells)
theorem u8_at {w : World} {A : Option Addr} {n : Nat} {xs : List Int} (h : SliceOf w 1 u8C A n xs) {k : Nat} (hk : k < n) : ∃ b off x, A = some ⟨b, off, none⟩ ∧ xs[k]? = some x ∧ w.cell? ⟨b, off + k, none⟩ = some (.int .u8 x) := by
  have hl := h.len
  obtain ⟨x, hxk⟩ : ∃ x, xs[k]? = some x := ⟨_, List.getElem?_eq_getElem (by omega)⟩
  obtain ⟨b, off, rfl, hb, hc⟩ := h.at_ (by omega)
  exact ⟨b, off, x, rfl, hxk, by simpa using hc k _ hxk 0 _ rfl⟩
theorem takeN {xs : List Int} {k : Nat} {x : Int} (h : xs[k]? = some x) : xs.take (k + 1) = xs.take k ++ [x] := by rw [List.take_add_one, h]; rfl
theorem bs_none (W : World) : (Instr.buildSlice 74 0 #[]).run Try.prog W = .ok (.slice (some ⟨W.heap.size, 0, none⟩) 0 0) (W.alloc (.cells #[] 76)) := by kernel_rfl
theorem wp_buildSlice {P : Program} {o : Oper} {a : Act} {w : World} {K : Act → World → Prop} {Q : Exit → Act → World → Prop} (ty e : TypeId) (n : Nat) (parts : Array (Nat × Operand)) (ho : o.op = .buildSlice ty n parts) (vals : Array (Nat × Value)) (hv : (parts.map fun (i, x) => (i, a.eval x)) = vals) (cs : Array Value)
    (hz : (Instr.buildSlice ty n vals).run P w = .ok (.slice (some ⟨w.heap.size, 0, none⟩) n n) (w.alloc (.cells cs e)))
    (h : K (a.put o.dst (.slice (some ⟨w.heap.size, 0, none⟩) n n)) (w.alloc (.cells cs e))) : o.wp P a w K Q := by
  unfold Oper.wp execOp
  simp only [ho]
  rw [hv]
  simp [hz, Result.andThen, Oper.upon]
  exact h
set_option maxRecDepth 100000 in
set_option maxHeartbeats 6400000 in
theorem topLay_walk (fr lt sn : Int) (A : Option Addr) (n c : Nat) (xs : List Int) (at_ : Int) (w : World) (h1 : U8 fr) (h2 : U8 lt) (h3 : U8 sn) (h4 : U8 at_) (hx : SliceOf w 1 u8C A n xs) (hxu : ∀ x ∈ xs, U8 x) (hm : n ≤ maxLen) : Calls Try.prog 5 #[.int .u8 fr, .int .u8 lt, .int .u8 sn, .slice A n c, .int .u8 at_] w fun e w' => e = .returned (.bool true) ∧ Below w.heap.size w w' := by
  have H := Lib.hid hx
  have HU := Lib.hid hxu
  have hxl := hx.len
  by_cases h12 : 12 < n
  · have d12 : (12 : Int) < (n : Int) := by omega
    clear hx hxu
    go_enter Try.func5, Try.ntmps5
    go_wp2_with fail
    refine (nets_any _).mono ?_
    rintro e w1 ⟨rfl, hb1⟩
    go_wp2_with fail
    refine (nets_any _).mono ?_
    rintro e w2 ⟨rfl, hb2⟩
    have HB2 := Lib.hid (hb1.trans (hb2.mono hb1.size))
    go_wp2_with fail
    go_ret
    exact ⟨rfl, HB2.out⟩
  have d12 : ¬ (12 : Int) < (n : Int) := by omega
  have hsm : Small ⟨fr, lt, sn⟩ := ⟨h1, h2, h3⟩
  obtain ⟨U, P, mm, nn, hTL⟩ := topL hsm at_ xs (by omega)
  have HTL := Lib.hid hTL
  obtain ⟨f0, f1⟩ := h1
  obtain ⟨l0, l1⟩ := h2
  obtain ⟨s0, s1⟩ := h3
  obtain ⟨a0, a1⟩ := h4
  have q1 : IntKind.i64.wrap fr = fr := IntWalk.i64_in _ (by omega)
  have q2 : IntKind.i64.wrap lt = lt := IntWalk.i64_in _ (by omega)
  have q3 : IntKind.i64.wrap sn = sn := IntWalk.i64_in _ (by omega)
  have q4 : IntKind.i64.wrap at_ = at_ := IntWalk.i64_in _ (by omega)
  obtain ⟨i0, hi, hz0, hz1, hz2⟩ := info_parts infoS
  clear hx hxu hsm hTL
  go_enter Try.func5, Try.ntmps5
  go_wp2_with fail
  refine (nets_any _).mono ?_
  rintro e w1 ⟨rfl, hb1⟩
  have HB1 := Lib.hid (hb1.alloc hb1.size (.cells #[.int .i64 fr, .int .i64 lt, .int .i64 sn] 73))
  have HK1 : Hid (Blk (w1.alloc (.cells #[.int .i64 fr, .int .i64 lt, .int .i64 sn] 73)) w1.heap.size 73 #[.int .i64 fr, .int .i64 lt, .int .i64 sn]) := Lib.hid (Blk.new _ _ _)
  have HG1 := Lib.hid hb1.size
  have hs1 : (w1.alloc (.cells #[.int .i64 fr, .int .i64 lt, .int .i64 sn] 73)).heap.size = w1.heap.size + 1 := Array.size_push _
  have HS1 := Lib.hid hs1
  clear hb1 hs1
  obtain ⟨g, hg⟩ : ∃ g, w1.heap.size = g := ⟨_, rfl⟩
  have HGG := Lib.hid hg
  rw [hg] at HK1
  clear hg
  go_wp2_with ((refine stop_store 73 _ _ rfl ?_; refine wpList_store_new rfl 73 _ _ rfl _ rfl rfl (by kernel_rfl) rfl rfl ?_))
  rw [HGG.out]
  go_loopw [12, 13, 48] (fun v hr i wr => ∃ k : Nat, k ≤ n ∧ i = .int .i64 k ∧ hr = .int .i64 (hourS 0 (xs.take k)) ∧ Hid (wr.ownsRow (g + 1) 76 3 v k ((mkS 0 (xs.take k)).flatMap Str.cells)) ∧ Hid (Below (g + 1) (w1.alloc (.cells #[.int .i64 fr, .int .i64 lt, .int .i64 sn] 73)) wr)) (fun _ _ i _ => n - (intOf i).toNat)
  case atStart => exact ⟨0, by omega, rfl, rfl, Lib.hid (World.ownsRow_nil _ _ _ _), Lib.hid (Below.refl _ _)⟩
  case round =>
    obtain ⟨k, hk, rfl, rfl, hown, hbw⟩ := hrel
    have hwr : Hid (Below w.heap.size w wr) := Lib.hid (HB1.out.trans (hbw.out.mono (by have := HG1.out; have := HGG.out; omega)))
    have hgs : g + 1 ≤ wr.heap.size := by have := hbw.out.size; have := HS1.out; have := HGG.out; omega
    by_cases hlt : k < n
    · obtain ⟨b, off, x, rfl, hxk, c0⟩ := u8_at (H.out.below hwr.out) hlt
      obtain ⟨x0, x1⟩ := HU.out x (List.mem_of_getElem? hxk)
      have hsn := mkS_snoc x 0 (xs.take k)
      rw [← takeN hxk] at hsn
      have hhb := hourS_bd 0 (xs.take k)
      have htk : (xs.take k).length ≤ 12 := Nat.le_trans (List.length_take_le _ _) (by omega)
      have hml := mkS_len 0 (xs.take (k + 1))
      have htk1 : (xs.take (k + 1)).length = k + 1 := by rw [List.length_take]; omega
      rw [htk1] at hml
      generalize hH : hourS 0 (xs.take k) = hh at hsn hhb ⊢
      have HSN := Lib.hid hsn
      have HML := Lib.hid hml
      have i0' : (k : Int) < (n : Int) := by omega
      have p1 : IntKind.i64.wrap x = x := IntWalk.i64_in _ (by omega)
      have p2 : IntKind.i64.wrap (hh + 1) = hh + 1 := IntWalk.i64_in _ (by omega)
      have p3 : Int.tmod x 20 = x % 20 := Int.tmod_eq_emod_of_nonneg x0
      have p4 : Int.tmod x 3 = x % 3 := Int.tmod_eq_emod_of_nonneg x0
      have p5 : IntKind.i64.wrap (hh + 1 + x % 20) = hh + 1 + x % 20 := IntWalk.i64_in _ (by omega)
      have p6 : IntKind.i64.wrap (x % 20) = x % 20 := IntWalk.i64_in _ (by omega)
      have p7 : IntKind.i64.wrap (x % 3) = x % 3 := IntWalk.i64_in _ (by omega)
      have hq0 : 0 < 3 := by omega
      have hq3 : k + 1 ≤ maxLen := by unfold maxLen; omega
      have hq4 : (k + 1) * 24 ≤ 140737488355328 := by omega
      have hq5 : ∀ u ∈ ([.int .i64 hh, .int .i64 (hh + 1 + x % 20), .int .i64 (x % 3)] : List Value), u.oneCell' = true := by simp [Value.oneCell']
      have HOX := Lib.hid (hown.out.alloc (.cells #[.int .i64 hh, .int .i64 (hh + 1 + x % 20), .int .i64 (x % 3)] 76))
      have HBX := Lib.hid (hbw.out.alloc hgs (.cells #[.int .i64 hh, .int .i64 (hh + 1 + x % 20), .int .i64 (x % 3)] 76))
      have HSX : Hid (g + 1 ≤ (wr.alloc (.cells #[.int .i64 hh, .int .i64 (hh + 1 + x % 20), .int .i64 (x % 3)] 76)).heap.size) := Lib.hid (by rw [show (wr.alloc (.cells #[.int .i64 hh, .int .i64 (hh + 1 + x % 20), .int .i64 (x % 3)] 76)).heap.size = wr.heap.size + 1 from Array.size_push _]; omega)
      have HNW := Lib.hid (news_at wr #[.int .i64 hh, .int .i64 (hh + 1 + x % 20), .int .i64 (x % 3)] 76 wr.heap.size rfl)
      clear hsn hml hown hbw htk htk1 hxk
      go_upto_region 10 with (at_builtin; refine wpList_append_own_at _ rfl (.tmp 52) (.tmp 64) 74 rfl (g + 1) 76 i0 _ 3 24 Try.underlying74 hi hz0 hz1 hz2 rfl hq0 u12 k _ rfl HOX.out ⟨wr.heap.size, 0, none⟩ 1 1 [.int .i64 hh, .int .i64 (hh + 1 + x % 20), .int .i64 (x % 3)] rfl rfl HNW.out hq5 hq3 hq4 HSX.out ?_; intro v9 w9 hown9 hg9 hl0 hl1; have HB9 := Lib.hid (below_grown_own HBX.out HSX.out HOX.out hg9); have HO9 := Lib.hid hown9; clear hown9 hg9 hl0 hl1)
      have HO10 : Hid (w9.ownsRow (g + 1) 76 3 v9 (k + 1) ((mkS 0 (xs.take (k + 1))).flatMap Str.cells)) := Lib.hid (by rw [HSN.out.1, List.flatMap_append]; exact HO9.out)
      obtain ⟨A9, c9, rfl⟩ := own_slice HO10.out
      have hsl := SliceOf.of_own_s HO10.out cells_len rfl HML.out
      obtain ⟨b9, o9, rfl, hb9, hc9⟩ := hsl.at_ (by omega)
      have hlast : (mkS 0 (xs.take (k + 1)))[k]? = some ⟨hh, hh + 1 + x % 20, x % 3⟩ := by
        rw [HSN.out.1, List.getElem?_append_right (by rw [mkS_len, List.length_take]; omega), mkS_len, List.length_take, show k - min k xs.length = 0 by omega]
        rfl
      have y1 : w9.cell? ⟨b9, o9 + k * 3 + 1, none⟩ = some (.int .i64 (hh + 1 + x % 20)) := by have := hc9 k _ hlast 1 _ rfl; rwa [← Nat.add_assoc] at this
      have k1 : ((k + 1 : Nat) : Int) - 1 = (k : Int) := by omega
      have k2 : (0 : Int) ≤ (k : Int) := by omega
      have k3 : (k : Int) < ((k + 1 : Nat) : Int) := by omega
      have k4 : IntKind.i64.wrap (k : Int) = (k : Int) := IntWalk.i64_in _ (by omega)
      clear hsl hc9 hb9 hlast HO9 HOX HBX HSX HNW
      go_wp2_with fail
      go_roundw
      case rel => exact ⟨k + 1, by omega, by go_num, by rw [HSN.out.2], HO10, HB9⟩
      case measure => simp [intOf]; omega
    · have hkn : n = k := by omega
      subst hkn
      have i0' : ¬ ((n : Int) < (n : Int)) := by omega
      have htake : xs.take n = xs := List.take_of_length_le (by omega)
      rw [htake] at hown
      obtain ⟨A9, c9, rfl⟩ := own_slice hown.out
      have hml := mkS_len 0 xs
      rw [hxl] at hml
      have HX := Lib.hid (SliceOf.of_own_s hown.out cells_len rfl hml)
      obtain ⟨zs, hzs⟩ : ∃ zs, mkS 0 xs = zs := ⟨_, rfl⟩
      rw [hzs] at HX HTL hml
      have HK := Lib.hid (HK1.out.below hbw.out (Nat.lt_succ_self _))
      have hbd := HTL.out.bd
      have HMM : Hid (n ≤ maxLen) := Lib.hid hm
      have hca := cut_len at_ zs
      have hta : IntKind.i64.wrap (P + (U - P)) = U := by rw [show P + (U - P) = U by omega]; exact IntWalk.i64_in _ (by omega)
      have htb : P + (U - P) = U := by omega
      have z0 := HK.out.cell 0; have z1 := HK.out.cell 1; have z2 := HK.out.cell 2
      simp only [List.getElem?_toArray, List.getElem?_cons_zero, List.getElem?_cons_succ] at z0 z1 z2
      clear hown hbw htake
      go_wp2_with fail
      refine (split_any ⟨fr, lt, sn⟩ at_ _ _ _ zs _ HX.out HMM.out).mono ?_
      rw [HTL.out.split]
      rintro e w2 ⟨rfl, hb2⟩
      have HW2 := Lib.hid ((hwr).out.trans (hb2.mono (hwr).out.size))
      have HK2 := Lib.hid ((HK).out.below hb2 (HK).out.lt)
      have HX2 := Lib.hid ((HX).out.below hb2)
      clear z0 z1 z2 hb2
      have z0 := HK2.out.cell 0; have z1 := HK2.out.cell 1; have z2 := HK2.out.cell 2
      simp only [List.getElem?_toArray, List.getElem?_cons_zero, List.getElem?_cons_succ] at z0 z1 z2
      go_wp2_with fail
      refine (used_any ⟨fr, lt, sn⟩ _ _ _ zs _ HX2.out HMM.out).mono ?_
      rw [HTL.out.used]
      rintro e w3 ⟨rfl, hb3⟩
      have HW3 := Lib.hid ((HW2).out.trans (hb3.mono (HW2).out.size))
      have HK3 := Lib.hid ((HK2).out.below hb3 (HK2).out.lt)
      have HX3 := Lib.hid ((HX2).out.below hb3)
      clear z0 z1 z2 hb3
      have z0 := HK3.out.cell 0; have z1 := HK3.out.cell 1; have z2 := HK3.out.cell 2
      simp only [List.getElem?_toArray, List.getElem?_cons_zero, List.getElem?_cons_succ] at z0 z1 z2
      go_wp2_with fail
      refine (cut_any at_ _ _ _ zs _ HX3.out (by omega)).mono ?_
      rintro e w4 ⟨A1, ca1, B1, cb1, rfl, hs1, hs2, hb4⟩
      have HW4 := Lib.hid ((HW3).out.trans (hb4.mono (HW3).out.size))
      have HK4 := Lib.hid ((HK3).out.below hb4 (HK3).out.lt)
      have HX4 := Lib.hid ((HX3).out.below hb4)
      clear z0 z1 z2 hb4
      have z0 := HK4.out.cell 0; have z1 := HK4.out.cell 1; have z2 := HK4.out.cell 2
      simp only [List.getElem?_toArray, List.getElem?_cons_zero, List.getElem?_cons_succ] at z0 z1 z2
      have SA4 := Lib.hid hs1
      have SB4 := Lib.hid hs2
      have hla : (cutA at_ zs).length ≤ 12 := by omega
      have hlb : (cutB at_ zs).length ≤ 12 := by omega
      have HJL : Hid ((joined at_ zs).length = (cutA at_ zs).length + (cutB at_ zs).length) := Lib.hid (by unfold joined; rw [List.length_append])
      clear hs1 hs2 hca
      go_upto_region 17 with (fail)
      have HW5 := Lib.hid HW4.out.drew
      have HK5 := Lib.hid HK4.out.drew
      have SA5 := Lib.hid (SA4.out.below (below_drewN (Below.refl _ _) 1))
      have SB5 := Lib.hid (SB4.out.below (below_drewN (Below.refl _ _) 1))
      have HX5 := Lib.hid (HX4.out.below (below_drewN (Below.refl _ _) 1))
      obtain ⟨la, hla'⟩ : ∃ l, cutA at_ zs = l := ⟨_, rfl⟩
      obtain ⟨lb, hlb'⟩ : ∃ l, cutB at_ zs = l := ⟨_, rfl⟩
      have HJN : Hid (joined at_ zs = la ++ lb) := Lib.hid (by unfold joined; rw [hla', hlb'])
      rw [hla'] at SA4 SA5 hla HJL
      rw [hlb'] at SB4 SB5 hlb HJL
      rw [hla', hlb']
      have HLA := Lib.hid hla'
      clear hla' hlb'
      have hbe := bs_none
      obtain ⟨W0, hW0⟩ : ∃ W, World.drew w4 = W := ⟨_, rfl⟩
      have HW00 := Lib.hid hW0
      rw [show w4.drewN 1 = W0 from hW0] at SA5 SB5 HX5
      rw [hW0] at HW5 HK5
      clear hW0

      refine wp_region_book2 (fun done vs W => Cst [(0, .agg #[.int .i64 fr, .int .i64 lt, .int .i64 sn]), (2, .slice A1 la.length ca1), (4, .slice B1 lb.length cb1), (6, .tuple #[.int .i64 U, .int .i64 0]), (7, .tuple #[.int .i64 U, .int .i64 0]), (8, .int .i64 U), (9, .int .i64 0), (10, .int .i64 U), (11, .int .i64 0)] done vs ∧ kit.Chain [(5, 3), (3, 1), (6, 5)] done ∧ CJ W0 W la lb (done 1) (done 3) (done 5) (done 6) (vs 1) (vs 3) (vs 5)) (by kernel_rfl) (by kernel_rfl) ?_ ?_ ?_
      · exact ⟨Cst.none_ _ _, kit.Chain.none_ _, ⟨by rw [HW00.out]; exact Below.refl _ _, fun h => (by cases h), fun h => (by cases h), fun h => (by cases h)⟩⟩
      · refine ⟨?_, ?_, ?_, ?_, ?_, ?_, ?_, ?_, ?_, ?_, ?_, ?_, trivial⟩
        all_goals intro done vs ac W1 hnd hdep hJ hE hsz
        all_goals simp [Region.binds] at hdep
        · have e11 : ac.eval (.tmp 11) = (.pointer (some ⟨g, 0, none⟩)) := (hE 11 (by simp)).trans (by simp [evF, Act.eval])
          have HKx := HK5.out.below hJ.2.2.bB HK5.out.lt
          have q0 := HKx.cell 0; have q1 := HKx.cell 1; have q2 := HKx.cell 2
          simp only [List.getElem?_toArray, List.getElem?_cons_zero, List.getElem?_cons_succ] at q0 q1 q2
          exact wp_value (.agg #[.int .i64 fr, .int .i64 lt, .int .i64 sn]) (by unfold execOp; simp only [e11]; go_simp) ⟨_, rfl, ⟨hJ.1.up 0 (.agg #[.int .i64 fr, .int .i64 lt, .int .i64 sn]) (by simp), hJ.2.1.up 0 (by simp), hJ.2.2⟩⟩
        · have h2 := hJ.2.2
          have h3 : done 3 = false := by
            cases h : done 3
            · rfl
            · have := hJ.2.1 (3, 1) (by simp) h
              rw [hnd] at this; cases this
          have h5 : done 5 = false := by
            cases h : done 5
            · rfl
            · have := hJ.2.1 (5, 3) (by simp) h
              rw [h3] at this; cases this
          refine wp_buildSlice 74 76 0 _ rfl #[] (by simp) #[] (hbe W1) ⟨_, rfl, ⟨hJ.1.up 1 _ (by simp), hJ.2.1.up 1 (by simp), ?_⟩⟩
          show CJ _ _ _ _ true (done 3) (done 5) (done 6) _ (vs 3) (vs 5)
          rw [h3, h5]
          exact ⟨h2.bB.alloc h2.bB.size _, fun _ _ => World.ownsRow_made (e := 76) (size := 3) W1 #[] 0 h2.bB.size (by unfold maxLen; omega) rfl, fun h => (by cases h), fun h => (by cases h)⟩
        · have e21 : ac.eval (.tmp 21) = .slice A1 la.length ca1 := (hE 21 (by simp)).trans (by simp [evF, Act.eval])
          exact wp_value (.slice A1 la.length ca1) (by unfold execOp; simp only [e21]; rfl) ⟨_, rfl, ⟨hJ.1.up 2 (.slice A1 la.length ca1) (by simp), hJ.2.1.up 2 (by simp), hJ.2.2⟩⟩
        · have e111 : ac.eval (.tmp 111) = vs 1 := (hE 111 (by simp)).trans (by simp [evF, hdep])
          have e112 : ac.eval (.tmp 112) = .slice A1 la.length ca1 := (hE 112 (by simp)).trans (by simp [evF, hdep, hJ.1 (2, .slice A1 la.length ca1) (by simp) (by simp [hdep])])
          have h2 := hJ.2.2
          have h5 : done 5 = false := by
            cases h : done 5
            · rfl
            · have := hJ.2.1 (5, 3) (by simp) h
              rw [hnd] at this; cases this
          have ho := h2.c1 (by simp [hdep]) hnd
          refine wp_append_any W1 (.tmp 111) (.tmp 112) 74 rfl W0.heap.size 76 i0 _ 3 24 Try.underlying74 hi hz0 hz1 hz2 rfl (by omega) (vs 1) 0 [] e111 ho W0.heap.size A1 la.length ca1 (la.flatMap Str.cells) e112 ((SA5.out.reads cells_len).below h2.bB) (str_one _) (by unfold maxLen; omega) (by omega) h2.bB.size ?_
          intro v9 w9 ho9 hg9 hl9
          refine ⟨_, rfl, ⟨hJ.1.up 3 _ (by simp), hJ.2.1.up 3 (by simp [hdep]), ?_⟩⟩
          show CJ _ _ _ _ (done 1) true (done 5) (done 6) (vs 1) _ (vs 5)
          rw [h5]
          rw [Nat.zero_add, List.nil_append] at ho9
          exact ⟨h2.bB.grown hg9 h2.bB.size (fun k hk => (ho.lt k hk).1), fun _ h => (by cases h), fun _ _ => ho9, fun h => (by cases h)⟩
        · have e22 : ac.eval (.tmp 22) = .slice B1 lb.length cb1 := (hE 22 (by simp)).trans (by simp [evF, Act.eval])
          exact wp_value (.slice B1 lb.length cb1) (by unfold execOp; simp only [e22]; rfl) ⟨_, rfl, ⟨hJ.1.up 4 (.slice B1 lb.length cb1) (by simp), hJ.2.1.up 4 (by simp), hJ.2.2⟩⟩
        · have e113 : ac.eval (.tmp 113) = vs 3 := (hE 113 (by simp)).trans (by simp [evF, hdep])
          have e114 : ac.eval (.tmp 114) = .slice B1 lb.length cb1 := (hE 114 (by simp)).trans (by simp [evF, hdep, hJ.1 (4, .slice B1 lb.length cb1) (by simp) (by simp [hdep])])
          have h2 := hJ.2.2
          have h3 : done 3 = true := by simp [hdep]
          have h6 : done 6 = false := by
            cases h : done 6
            · rfl
            · have := hJ.2.1 (6, 5) (by simp) h
              rw [hnd] at this; cases this
          have ho := h2.c3 h3 hnd
          refine wp_append_any W1 (.tmp 113) (.tmp 114) 74 rfl W0.heap.size 76 i0 _ 3 24 Try.underlying74 hi hz0 hz1 hz2 rfl (by omega) (vs 3) la.length _ e113 ho W0.heap.size B1 lb.length cb1 (lb.flatMap Str.cells) e114 ((SB5.out.reads cells_len).below h2.bB) (str_one _) (by unfold maxLen; omega) (by omega) h2.bB.size ?_
          intro v9 w9 ho9 hg9 hl9
          refine ⟨_, rfl, ⟨hJ.1.up 5 _ (by simp), hJ.2.1.up 5 (by simp [hdep]), ?_⟩⟩
          show CJ _ _ _ _ (done 1) (done 3) true (done 6) (vs 1) (vs 3) _
          rw [h3]
          rw [← List.flatMap_append] at ho9
          exact ⟨h2.bB.grown hg9 h2.bB.size (fun k hk => (ho.lt k hk).1), fun _ h => (by cases h), fun _ h => (by cases h), fun _ _ => ho9⟩
        · have e110 : ac.eval (.tmp 110) = .agg #[.int .i64 fr, .int .i64 lt, .int .i64 sn] := (hE 110 (by simp)).trans (by simp [evF, hdep, hJ.1 (0, .agg #[.int .i64 fr, .int .i64 lt, .int .i64 sn]) (by simp) (by simp [hdep])])
          have e115 : ac.eval (.tmp 115) = vs 5 := (hE 115 (by simp)).trans (by simp [evF, hdep])
          have h2 := hJ.2.2
          have h5 : done 5 = true := by simp [hdep]
          have h3 : done 3 = true := hJ.2.1 (5, 3) (by simp) h5
          have ho := h2.c5 h5 hnd
          obtain ⟨A5, c5, hv5⟩ := own_slice ho
          rw [hv5] at ho e115
          have hs5 := SliceOf.of_own_s ho cells_len rfl (List.length_append ..)
          rw [← HJN.out] at hs5
          refine wp_call_fn 25 _ _ rfl (enters_fn Try.func25 (by kernel_rfl) rfl) #[.agg #[.int .i64 fr, .int .i64 lt, .int .i64 sn], .slice A5 (la.length + lb.length) c5] (by simp [e110, e115]) ?_
          refine (used_any ⟨fr, lt, sn⟩ A5 _ c5 (joined at_ zs) W1 hs5 (by unfold maxLen; omega)).mono ?_
          rw [HTL.out.again]
          rintro e9 w9 ⟨rfl, hb9⟩
          refine ⟨_, rfl, _, rfl, ⟨hJ.1.up 6 _ (by simp), hJ.2.1.up 6 (by simp [h5]), ?_⟩⟩
          show CJ _ _ _ _ (done 1) (done 3) (done 5) true (vs 1) (vs 3) (vs 5)
          rw [h3, h5]
          exact ⟨h2.bB.trans (hb9.mono h2.bB.size), fun _ h => (by cases h), fun _ h => (by cases h), fun _ h => (by cases h)⟩
        · have e116 : ac.eval (.tmp 116) = .tuple #[.int .i64 U, .int .i64 0] := (hE 116 (by simp)).trans (by simp [evF, hdep, hJ.1 (6, .tuple #[.int .i64 U, .int .i64 0]) (by simp) (by simp [hdep])])
          exact wp_value (.tuple #[.int .i64 U, .int .i64 0]) (by unfold execOp; simp only [e116]; rfl) ⟨_, rfl, ⟨hJ.1.up 7 (.tuple #[.int .i64 U, .int .i64 0]) (by simp), hJ.2.1.up 7 (by simp), hJ.2.2⟩⟩
        · have e109 : ac.eval (.tmp 109) = .tuple #[.int .i64 U, .int .i64 0] := (hE 109 (by simp)).trans (by simp [evF, hdep, hJ.1 (7, .tuple #[.int .i64 U, .int .i64 0]) (by simp) (by simp [hdep])])
          exact wp_value (.int .i64 U) (by unfold execOp; simp only [e109]; kernel_rfl) ⟨_, rfl, ⟨hJ.1.up 8 (.int .i64 U) (by simp), hJ.2.1.up 8 (by simp), hJ.2.2⟩⟩
        · have e109 : ac.eval (.tmp 109) = .tuple #[.int .i64 U, .int .i64 0] := (hE 109 (by simp)).trans (by simp [evF, hdep, hJ.1 (7, .tuple #[.int .i64 U, .int .i64 0]) (by simp) (by simp [hdep])])
          exact wp_value (.int .i64 0) (by unfold execOp; simp only [e109]; kernel_rfl) ⟨_, rfl, ⟨hJ.1.up 9 (.int .i64 0) (by simp), hJ.2.1.up 9 (by simp), hJ.2.2⟩⟩
        · have e117 : ac.eval (.tmp 117) = .int .i64 U := (hE 117 (by simp)).trans (by simp [evF, hdep, hJ.1 (8, .int .i64 U) (by simp) (by simp [hdep])])
          exact wp_value (.int .i64 U) (by unfold execOp; simp only [e117]; rfl) ⟨_, rfl, ⟨hJ.1.up 10 (.int .i64 U) (by simp), hJ.2.1.up 10 (by simp), hJ.2.2⟩⟩
        · have e118 : ac.eval (.tmp 118) = .int .i64 0 := (hE 118 (by simp)).trans (by simp [evF, hdep, hJ.1 (9, .int .i64 0) (by simp) (by simp [hdep])])
          exact wp_value (.int .i64 0) (by unfold execOp; simp only [e118]; rfl) ⟨_, rfl, ⟨hJ.1.up 11 (.int .i64 0) (by simp), hJ.2.1.up 11 (by simp), hJ.2.2⟩⟩
      · intro done vs W hall hJ
        have HBx := Lib.hid hJ.2.2.bB
        have x10 := hJ.1 (10, .int .i64 U) (by simp) (hall 10 (by simp))
        have x11 := hJ.1 (11, .int .i64 0) (by simp) (hall 11 (by simp))
        have HW6 := Lib.hid (HW5.out.trans (HBx.out.mono HW5.out.size))
        have HK6 := Lib.hid (HK5.out.below HBx.out HK5.out.lt)
        have HX6 := Lib.hid (HX5.out.below HBx.out)
        have SA6 := Lib.hid (SA5.out.below HBx.out)
        simp only [fillA, Act.put, List.setIfInBounds_toArray, List.set_cons_zero, List.set_cons_succ, if_true, x10, x11]
        clear hJ hall x10 x11 HX5 HK5 HW5 SA5 SB5 HX4 HK4 HW4 SA4 SB4 z0 z1 z2 HW00 HBx
        have z0 := HK6.out.cell 0; have z1 := HK6.out.cell 1; have z2 := HK6.out.cell 2
        simp only [List.getElem?_toArray, List.getElem?_cons_zero, List.getElem?_cons_succ] at z0 z1 z2
        have hpart := HTL.out.part
        have hless := HTL.out.less
        rw [HLA.out] at hpart hless
        have HPT := Lib.hid hpart
        have HLS := Lib.hid hless
        have hle := HTL.out.le
        clear hpart hless
        go_wp2_with fail
        refine (used_any ⟨fr, lt, sn⟩ _ _ _ la _ SA6.out (by unfold maxLen; omega)).mono ?_
        rw [HPT.out]
        rintro e w7 ⟨rfl, hb7⟩
        have SA7 := Lib.hid (SA6.out.below hb7)
        have HW7 := Lib.hid ((HW6).out.trans (hb7.mono (HW6).out.size))
        have HK7 := Lib.hid ((HK6).out.below hb7 (HK6).out.lt)
        have HX7 := Lib.hid ((HX6).out.below hb7)
        clear z0 z1 z2 hb7
        have z0 := HK7.out.cell 0; have z1 := HK7.out.cell 1; have z2 := HK7.out.cell 2
        simp only [List.getElem?_toArray, List.getElem?_cons_zero, List.getElem?_cons_succ] at z0 z1 z2
        go_wp2_with fail
        refine (money_any ⟨fr, lt, sn⟩ _ _ _ zs _ HX7.out HMM.out).mono ?_
        rw [HTL.out.more]
        rintro e w8 ⟨rfl, hb8⟩
        have SA8 := Lib.hid (SA7.out.below hb8)
        have HW8 := Lib.hid ((HW7).out.trans (hb8.mono (HW7).out.size))
        have HK8 := Lib.hid ((HK7).out.below hb8 (HK7).out.lt)
        have HX8 := Lib.hid ((HX7).out.below hb8)
        clear z0 z1 z2 hb8
        have z0 := HK8.out.cell 0; have z1 := HK8.out.cell 1; have z2 := HK8.out.cell 2
        simp only [List.getElem?_toArray, List.getElem?_cons_zero, List.getElem?_cons_succ] at z0 z1 z2
        go_wp2_with fail
        refine (money_any ⟨fr, lt, sn⟩ _ _ _ la _ SA8.out (by unfold maxLen; omega)).mono ?_
        rw [HLS.out]
        rintro e w9 ⟨rfl, hb9⟩
        have HW9 := Lib.hid (HW8.out.trans (hb9.mono HW8.out.size))
        have dle : decide (nn ≤ mm) = true := decide_eq_true hle
        go_wp2_with fail
        go_ret
        exact ⟨rfl, HW9.out⟩
end Go.Proofs.Ytlicmhgpldmliaa
