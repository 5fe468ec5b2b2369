/- Voyages: no gap on the way: the law. No condition. -/
import Derived.Test.YtlicmhgpldmliaaWyK
import Derived.Test.YtlicmhgpldmliaaWyO
import Derived.Test.YtlicmhgpldmliaaTlX
import Derived.Laws.Cover1
namespace Go.Proofs.Ytlicmhgpldmliaa.kit
open Go.RowKit
set_option linter.unusedVariables false
set_option linter.unusedSimpArgs false
theorem nmA : NmOK (⟨#[97, 103, 101, 110, 116, 45, 111, 102, 45, 111, 117, 114, 115]⟩ : ByteArray) := ⟨by decide, by decide⟩
theorem nmB : NmOK (⟨#[98, 111, 120]⟩ : ByteArray) := ⟨by decide, by decide⟩
theorem nmR : NmOK (⟨#[114, 105, 103, 97]⟩ : ByteArray) := ⟨by decide, by decide⟩
theorem agl : (⟨#[97, 103, 101, 110, 116, 45, 111, 102, 45, 111, 117, 114, 115]⟩ : ByteArray).toList = ([97, 103, 101, 110, 116, 45, 111, 102, 45, 111, 117, 114, 115] : List UInt8) := by kernel_rfl
theorem rne : ((⟨#[114, 105, 103, 97]⟩ : ByteArray).toList == (⟨#[111, 115, 108, 111]⟩ : ByteArray).toList) = false := by kernel_rfl
theorem rnf : (⟨#[114, 105, 103, 97]⟩ : ByteArray) ≠ (⟨#[111, 115, 108, 111]⟩ : ByteArray) := by decide
/-- Two new blocks of one kind, each filled once. -/
structure TwoX (t : TypeId) (B0 : Nat) (Z CA CB : Array Value) (d0 d1 e0 e1 : Bool) (v0 v1 : Value) (W : World) : Prop where
  a : d0 = true → ∃ b, v0 = (.pointer (some ⟨b, 0, none⟩)) ∧ B0 ≤ b ∧ Blk W b t (if e0 = true then CA else Z)
  b : d1 = true → ∃ b, v1 = (.pointer (some ⟨b, 0, none⟩)) ∧ B0 ≤ b ∧ Blk W b t (if e1 = true then CB else Z)
  ne : d0 = true → d1 = true → v0 ≠ v1
  oa : e0 = true → d0 = true
  ob : e1 = true → d1 = true
theorem TwoX.on {t : TypeId} {B0 : Nat} {Z CA CB : Array Value} {d0 d1 e0 e1 : Bool} {v0 v1 : Value} {W W' : World} (h : TwoX t B0 Z CA CB d0 d1 e0 e1 v0 v1 W) (hb : Below W.heap.size W W') : TwoX t B0 Z CA CB d0 d1 e0 e1 v0 v1 W' :=
  ⟨fun q => (h.a q).elim fun b x => ⟨b, x.1, x.2.1, x.2.2.below hb x.2.2.lt⟩, fun q => (h.b q).elim fun b x => ⟨b, x.1, x.2.1, x.2.2.below hb x.2.2.lt⟩, h.ne, h.oa, h.ob⟩
theorem TwoX.start {t : TypeId} {B0 : Nat} {Z CA CB : Array Value} {v0 v1 : Value} {W : World} : TwoX t B0 Z CA CB false false false false v0 v1 W :=
  ⟨fun h => (by cases h), fun h => (by cases h), fun h => (by cases h), fun h => (by cases h), fun h => (by cases h)⟩
theorem hbuild1 (w : World) (a b c : ByteArray) (d : ByteArray) (i : Int) : (Instr.build 63 #[(0, .string a), (1, .string b), (2, .string c), (3, .string d), (4, .int .i64 i)]).run Try.prog w = .ok (.agg #[.string a, .string b, .string c, .string d, .int .i64 i]) w := run_build w _ _ _ (by kernel_rfl)
theorem max3 (w : World) (x y z : Int) (h1 : x ≤ y) (h2 : y ≤ z) : (Builtin.max_ #[3, 3, 3] 3 #[.int .i64 x, .int .i64 y, .int .i64 z]).run Try.prog w = .ok (.int .i64 z) w := by
  rw [run_max_int3]
  have h : (if z > (if y > x then y else x) then z else (if y > x then y else x)) = z := by
    by_cases h3 : y > x
    · rw [if_pos h3]
      split <;> omega
    · rw [if_neg h3]
      split <;> omega
  rw [h]
set_option maxRecDepth 100000 in
set_option maxHeartbeats 12800000 in
theorem topWay_walk (A : Option Addr) (n c : Nat) (vs : List Vy) (rd ch : Int) (w : World) (hx : SliceOf w 2 vyC A n vs) (hl : Lie w vs) (hrd : 0 ≤ rd ∧ rd ≤ 255) (hch : 0 ≤ ch ∧ ch ≤ 255) (hm : n ≤ maxLen) (hms : ∀ v ∈ vs, v.n ≤ maxLen ∧ v.ship.size ≤ maxLen ∧ ∀ x ∈ v.cs, x.port.size ≤ maxLen) :
    Calls Try.prog 4 #[.slice A n c, .int .u8 rd, .int .u8 ch] w fun e w' => e = .returned (.bool true) ∧ Below w.heap.size w w' := by
  have HX := Lib.hid hx
  have HL := Lib.hid hl
  have HMS := Lib.hid hms
  have hlen := hx.len
  have HRD : Hid (0 ≤ rd ∧ rd ≤ 255) := Lib.hid hrd
  have HCH : Hid (0 ≤ ch ∧ ch ≤ 255) := Lib.hid hch
  clear hx hl hrd hch hms
  by_cases h6 : 6 < n
  · have d6 : (6 : Int) < (n : Int) := by omega
    go_enter Try.func4, Try.ntmps4
    go_wp2_with fail
    refine (counts_any _).mono ?_
    rintro e w1 ⟨rfl, hb1⟩
    have HB1 := Lib.hid hb1
    clear hb1
    go_wp2_with fail
    refine (counts_any _).mono ?_
    rintro e w9 ⟨rfl, hb9⟩
    have HB9 := Lib.hid ((HB1.out).trans (hb9.mono (HB1.out).size))
    go_wp2_with fail
    go_ret
    exact ⟨rfl, HB9.out⟩
  have d6 : ¬ (6 : Int) < (n : Int) := by omega
  go_enter Try.func4, Try.ntmps4
  go_wp2_with fail
  refine (counts_any _).mono ?_
  rintro e w1 ⟨rfl, hb1⟩
  have HB1 := Lib.hid hb1
  clear hb1
  go_wp2_with fail
  go_loopw [37] (fun i wr => ∃ k : Nat, k ≤ n ∧ i = .int .i64 k ∧ Hid (∀ v ∈ vs.take k, Sm v) ∧ Hid (Below w.heap.size w wr)) (fun i _ => n - (intOf i).toNat)
  case atStart => exact ⟨0, by omega, rfl, Lib.hid (by simp), HB1⟩
  case round =>
    clear HB1
    obtain ⟨k, hk, rfl, HSK, HBR⟩ := hrel
    by_cases hlt : k < n
    · obtain ⟨b, off, v, rfl, hvk, hc⟩ := vy_at (HX.out.below HBR.out) hlt
      have HTK : Hid (vs.take (k + 1) = vs.take k ++ [v]) := Lib.hid (by rw [List.take_add_one, hvk]; rfl)
      have hmem := List.mem_of_getElem? hvk
      have HLV := Lib.hid (HL.out v hmem)
      have hmv := HMS.out v hmem
      have HPV := Lib.hid hmv.2.2
      obtain ⟨ship, vA, vn, vc, calls⟩ := v
      have d0 := hc 0 _ rfl; have d1 := hc 1 _ rfl
      rw [Nat.add_zero] at d0
      dsimp only at d0 d1 hmv
      have hkn : (k : Int) < (n : Int) := by omega
      have HB2 := Lib.hid (HBR.out.alloc HBR.out.size (.cells #[.string ship, .slice vA vn vc] 48))
      have HK2 := Lib.hid (Blk.new wr 48 #[.string ship, .slice vA vn vc])
      have hm1 := hmv.1
      have hm2 := hmv.2.1
      unfold maxLen at hm1 hm2
      clear hc hvk hmem hmv HBR
      go_upto_region 6 with ((refine stop_store 48 _ _ rfl ?_; refine wpList_store_new rfl 48 _ _ rfl _ rfl rfl (by kernel_rfl) rfl rfl ?_))
      obtain ⟨w2, hw2⟩ : ∃ W, wr.alloc (.cells #[.string ship, .slice vA vn vc] 48) = W := ⟨_, rfl⟩
      obtain ⟨g2, hg2⟩ : ∃ g, wr.heap.size = g := ⟨_, rfl⟩
      rw [hw2] at HB2 HK2 ⊢
      rw [hg2] at HK2
      simp only [hg2]
      clear hw2 hg2 d0 d1
      have e0 := HK2.out.cell 0; have e1 := HK2.out.cell 1
      simp only [List.getElem?_toArray, List.getElem?_cons_zero, List.getElem?_cons_succ] at e0 e1
      by_cases h8 : 8 < vn
      · have d8 : (8 : Int) < (vn : Int) := by omega
        go_wp2_with fail
        refine (counts_any _).mono ?_
        rintro e w9 ⟨rfl, hb9⟩
        have HB9 := Lib.hid ((HB2.out).trans (hb9.mono (HB2.out).size))
        go_wp2_with fail
        go_ret
        exact ⟨rfl, HB9.out⟩
      have d8 : ¬ (8 : Int) < (vn : Int) := by omega
      by_cases hs6 : 60 < ship.size
      · have d60 : (60 : Int) < (ship.size : Int) := by omega
        go_wp2_with fail
        refine (counts_any _).mono ?_
        rintro e w9 ⟨rfl, hb9⟩
        have HB9 := Lib.hid ((HB2.out).trans (hb9.mono (HB2.out).size))
        go_wp2_with fail
        go_ret
        exact ⟨rfl, HB9.out⟩
      have d60 : ¬ (60 : Int) < (ship.size : Int) := by omega
      go_wp2_with fail
      go_loopw [55] (fun i wi => ∃ j : Nat, j ≤ vn ∧ i = .int .i64 j ∧ Hid (∀ x ∈ calls.take j, x.port.size ≤ 60) ∧ Hid (Below w.heap.size w wi)) (fun i _ => vn - (intOf i).toNat)
      case atStart => exact ⟨0, by omega, rfl, Lib.hid (by simp), HB2⟩
      case round =>
        clear HB2 HK2 e0 e1
        obtain ⟨j, hj, rfl, HPJ, HBI⟩ := hrel
        by_cases hjt : j < vn
        · obtain ⟨bb, boff, x, rfl, hxj, hc⟩ := cl_at (HLV.out.below HBI.out) hjt
          have HTJ : Hid (calls.take (j + 1) = calls.take j ++ [x]) := Lib.hid (by rw [List.take_add_one, hxj]; rfl)
          have hpm := HPV.out x (List.mem_of_getElem? hxj)
          unfold maxLen at hpm
          obtain ⟨port, cut, arr, dep⟩ := x
          have d0 := hc 0 _ rfl; have d1 := hc 1 _ rfl; have d2 := hc 2 _ rfl; have d3 := hc 3 _ rfl
          rw [Nat.add_zero] at d0
          dsimp only at d0 d1 d2 d3 hpm
          have hjn : (j : Int) < (vn : Int) := by omega
          have HB3 := Lib.hid (HBI.out.alloc HBI.out.size (.cells #[.string port, .int .i64 cut, .int .i64 arr, .int .i64 dep] 50))
          have HK3 := Lib.hid (Blk.new wr 50 #[.string port, .int .i64 cut, .int .i64 arr, .int .i64 dep])
          clear hc hxj HBI
          go_upto_region 11 with ((refine stop_store 50 _ _ rfl ?_; refine wpList_store_new rfl 50 _ _ rfl _ rfl rfl (by kernel_rfl) rfl rfl ?_))
          obtain ⟨w3, hw3⟩ : ∃ W, wr.alloc (.cells #[.string port, .int .i64 cut, .int .i64 arr, .int .i64 dep] 50) = W := ⟨_, rfl⟩
          obtain ⟨g3, hg3⟩ : ∃ g, wr.heap.size = g := ⟨_, rfl⟩
          rw [hw3] at HB3 HK3 ⊢
          rw [hg3] at HK3
          simp only [hg3]
          clear hw3 hg3 d0 d1 d2 d3
          have e0 := HK3.out.cell 0
          simp only [List.getElem?_toArray, List.getElem?_cons_zero, List.getElem?_cons_succ] at e0
          by_cases hp6 : 60 < port.size
          · have d60 : (60 : Int) < (port.size : Int) := by omega
            go_wp2_with fail
            refine (counts_any _).mono ?_
            rintro e w9 ⟨rfl, hb9⟩
            have HB9 := Lib.hid ((HB3.out).trans (hb9.mono (HB3.out).size))
            go_wp2_with fail
            go_ret
            exact ⟨rfl, HB9.out⟩
          have d61 : ¬ (60 : Int) < (port.size : Int) := by omega
          have HPN : Hid (∀ x ∈ calls.take (j + 1), x.port.size ≤ 60) := Lib.hid (fun x hx => by
            rw [HTJ.out] at hx
            rcases List.mem_append.1 hx with h | h
            · exact HPJ.out x h
            · simp at h
              rw [h]
              show port.size ≤ 60
              omega)
          go_wp2_with fail
          go_roundw
          case rel => exact ⟨j + 1, by omega, by go_num, HPN, HB3⟩
          case measure => simp [intOf]; omega
        · have hjn : vn = j := by omega
          subst hjn
          have HSN : Hid (∀ v ∈ vs.take (k + 1), Sm v) := Lib.hid (fun v hv => by
            rw [HTK.out] at hv
            rcases List.mem_append.1 hv with h | h
            · exact HSK.out v h
            · simp at h
              rw [h]
              refine ⟨by show ship.size ≤ 60; omega, by show vn ≤ 8; omega, fun x hx => HPJ.out x ?_⟩
              rw [List.take_of_length_le (Nat.le_of_eq HLV.out.len)]
              exact hx)
          go_wp2_with fail
          go_roundw
          case rel => exact ⟨k + 1, by omega, by go_num, HSN, HBI⟩
          case measure => simp [intOf]; omega
    · have hkn : n = k := by omega
      subst hkn
      have HSA : Hid (∀ v ∈ vs, Sm v) := Lib.hid (fun v hv => HSK.out v (by rw [List.take_of_length_le (by omega)]; exact hv))
      have HBS := Lib.hid (best_any A n c vs (⟨#[114, 105, 103, 97]⟩ : ByteArray) (⟨#[111, 115, 108, 111]⟩ : ByteArray) rd ch wr (HX.out.below HBR.out) (HL.out.below HBR.out) (by omega) HSA.out HRD.out HCH.out rne)
      have hrd := HRD.out
      have hch := HCH.out
      go_wp2_with fail
      refine HBS.out.mono ?_
      rintro e w5 ⟨hb5, rfl | ⟨A5, n5, c5, ls, day, rfl, hls, hwp, hn5⟩⟩
      · have HB5 := Lib.hid (HBR.out.trans (hb5.mono HBR.out.size))
        clear hb5 HBS
        go_wp2_with fail
        refine (counts_any _).mono ?_
        rintro e w9 ⟨rfl, hb9⟩
        have HB9 := Lib.hid ((HB5.out).trans (hb9.mono (HB5.out).size))
        go_wp2_with fail
        go_ret
        exact ⟨rfl, HB9.out⟩
      have HB5 := Lib.hid (HBR.out.trans (hb5.mono HBR.out.size))
      have HLS := Lib.hid hls
      have HWP := Lib.hid hwp
      have hln := hls.len
      obtain ⟨ps, ds, q0, q1, q2, q3, hst⟩ := hwp.steps
      rw [hln] at q2 q3
      have HQ0 := Lib.hid q0
      have HQ1 := Lib.hid q1
      have HQ2 := Lib.hid q2
      have HQ3 := Lib.hid q3
      have HST := Lib.hid hst
      clear hb5 HBS hls hwp q0 q1 q2 q3 hst
      have HNW := Lib.hid (cnew_any w5)
      go_wp2_with fail
      refine HNW.out.mono ?_
      rintro e w6 ⟨gc, gm, rfl, hc0, hb6⟩
      have HC6 := Lib.hid hc0
      have HX6 := Lib.hid hb6
      have HRT := Lib.hid (right_any A n c vs (⟨#[114, 105, 103, 97]⟩ : ByteArray) (⟨#[111, 115, 108, 111]⟩ : ByteArray) rd ch A5 n5 c5 ls day w6 ((HX.out.below HB5.out).below hb6) ((HL.out.below HB5.out).below hb6) (by omega) HSA.out HRD.out HCH.out rne rnf (HLS.out.below hb6) hn5 HWP.out)
      clear hc0 hb6 HNW
      go_wp2_with fail
      refine HRT.out.mono ?_
      rintro e w7 ⟨rfl, hb7⟩
      have HX7 := Lib.hid (HX6.out.trans (hb7.mono HX6.out.size))
      have HC7 := Lib.hid (HC6.out.below hb7)
      have HBG := Lib.hid (begin_any w5.heap.size gc gm (⟨#[98, 111, 120]⟩ : ByteArray) (⟨#[97, 103, 101, 110, 116, 45, 111, 102, 45, 111, 117, 114, 115]⟩ : ByteArray) (⟨#[114, 105, 103, 97]⟩ : ByteArray) rd w7 HC7.out nmB nmA nmR ⟨HRD.out.1, by have := HRD.out.2; omega⟩ HX7.out.size)
      clear hb7 HRT HC6 HX6
      go_wp2_with fail
      refine HBG.out.mono ?_
      rintro e w8 ⟨rfl, hc8, hb8⟩
      have HX8 := Lib.hid (HX7.out.trans hb8)
      have HC8 := Lib.hid hc8
      clear hc8 hb8 HBG HX7 HC7
      go_wp2_with fail
      go_loopw [15, 16, 108] (fun ai pi i wr => ∃ (k : Nat) (hs : List Hd) (y : Hd), k ≤ n5 ∧ i = .int .i64 k ∧ ai = .int .i64 (ds k) ∧ pi = .string (ps k) ∧ Hid (Hist (⟨#[98, 111, 120]⟩ : ByteArray) hs ∧ hs.length = 2 * k + 1 ∧ hs[2 * k]? = some y ∧ y.to = (⟨#[97, 103, 101, 110, 116, 45, 111, 102, 45, 111, 117, 114, 115]⟩ : ByteArray) ∧ y.pl = ps k ∧ y.day = ds k ∧ DayOK (ds k)) ∧ Hid (Chn w5.heap.size (⟨#[98, 111, 120]⟩ : ByteArray) gc gm hs wr) ∧ Hid (Below w5.heap.size w5 wr)) (fun _ _ i _ => n5 - (intOf i).toNat)
      case atStart => exact ⟨0, [⟨(⟨#[98, 111, 120]⟩ : ByteArray), ⟨#[]⟩, (⟨#[97, 103, 101, 110, 116, 45, 111, 102, 45, 111, 117, 114, 115]⟩ : ByteArray), (⟨#[114, 105, 103, 97]⟩ : ByteArray), rd⟩], ⟨(⟨#[98, 111, 120]⟩ : ByteArray), ⟨#[]⟩, (⟨#[97, 103, 101, 110, 116, 45, 111, 102, 45, 111, 117, 114, 115]⟩ : ByteArray), (⟨#[114, 105, 103, 97]⟩ : ByteArray), rd⟩, by omega, rfl, by rw [HQ1.out], by rw [HQ0.out], Lib.hid ⟨Hist.one nmB nmA nmR ⟨HRD.out.1, by have := HRD.out.2; omega⟩, rfl, rfl, rfl, HQ0.out.symm, HQ1.out.symm, by rw [HQ1.out]; exact ⟨HRD.out.1, by have := HRD.out.2; omega⟩⟩, HC8, HX8⟩
      case round =>
        clear HC8 HX8
        obtain ⟨k, hs, y, hk5, rfl, rfl, rfl, HHI, HCW, HXW⟩ := hrel
        by_cases hk : k < n5
        · obtain ⟨bl, ol, l, rfl, hlk, hlc⟩ := lg_at (HLS.out.below HXW.out) hk
          obtain ⟨v, a, b, g1, g2, g3, g4, g5, g6, g7⟩ := HST.out k l hlk
          obtain ⟨hy0, hy1, hy2, hy3, hy4, hy5, hy6⟩ := HHI.out
          obtain ⟨d, hd⟩ : ∃ d, ds k = d := ⟨_, rfl⟩
          rw [← g3]
          rw [hd] at g4 hy5 hy6 ⊢
          have gl4 := legA_some.1 g1
          have ca := g2.2.1 _ _ gl4.2.1
          have cb := g2.2.1 _ _ gl4.2.2.1
          have smv := HSA.out v (List.mem_of_getElem? gl4.1)
          have HDA : Hid (d ≤ a.cut ∧ a.cut ≤ b.arr) := Lib.hid ⟨by have := HCH.out.1; split at g4 <;> omega, by
            have h1 := g2.later (l.t - l.f - 1) l.f a b gl4.2.1 (by rw [show l.f + (l.t - l.f - 1) + 1 = l.t by have := gl4.2.2.2; omega]; exact gl4.2.2.1)
            have h2 := ca.2.2.2.2.2
            omega⟩
          have HNS : Hid (NmOK v.ship) := Lib.hid ⟨smv.1, g2.1⟩
          have HNA : Hid (NmOK a.port ∧ DayOK a.cut) := Lib.hid ⟨⟨smv.2.2 a (List.mem_of_getElem? gl4.2.1), ca.1⟩, ca.2.1⟩
          have HNB : Hid (NmOK b.port ∧ DayOK b.arr) := Lib.hid ⟨⟨smv.2.2 b (List.mem_of_getElem? gl4.2.2.1), cb.1⟩, cb.2.2.1⟩
          have HLA := Lib.hid g1
          have HG6 := Lib.hid g6
          have HG7 := Lib.hid g7
          have HYY : Hid (Hist (⟨#[98, 111, 120]⟩ : ByteArray) hs ∧ hs.length = 2 * k + 1 ∧ hs[2 * k]? = some y ∧ y.to = (⟨#[97, 103, 101, 110, 116, 45, 111, 102, 45, 111, 117, 114, 115]⟩ : ByteArray) ∧ y.day = d) := Lib.hid ⟨hy0, hy1, hy2, hy3, hy5⟩
          have l0 := hlc 0 _ rfl; have l1 := hlc 1 _ rfl; have l2 := hlc 2 _ rfl
          rw [Nat.add_zero] at l0
          have hkn : (k : Int) < (n5 : Int) := by omega
          have HX8 := Lib.hid (HXW.out.alloc HXW.out.size (.cells #[.int .i64 l.v, .int .i64 l.f, .int .i64 l.t] 60))
          have HC8 := Lib.hid (HCW.out.below (one_alloc wr (.cells #[.int .i64 l.v, .int .i64 l.f, .int .i64 l.t] 60)))
          have HL8 := Lib.hid (Blk.new wr 60 #[.int .i64 l.v, .int .i64 l.f, .int .i64 l.t])
          have HSE : Hid (Sea w5 A n vs) := Lib.hid ⟨HX.out.below HB5.out, HL.out.below HB5.out⟩
          clear hlk hlc g1 g2 g3 g4 g5 g6 g7 gl4 ca cb smv hy0 hy1 hy2 hy3 hy4 hy5 hy6 hd HHI HXW HCW
          go_upto_region 25 with ((refine stop_store 60 _ _ rfl ?_; refine wpList_store_new rfl 60 _ _ rfl _ rfl rfl (by kernel_rfl) rfl rfl ?_))
          obtain ⟨w8, hw8⟩ : ∃ W, wr.alloc (.cells #[.int .i64 l.v, .int .i64 l.f, .int .i64 l.t] 60) = W := ⟨_, rfl⟩
          obtain ⟨gl, hgl⟩ : ∃ g, wr.heap.size = g := ⟨_, rfl⟩
          rw [hw8] at HX8 HC8 HL8 ⊢
          rw [hgl] at HL8
          simp only [hgl]
          clear hw8 hgl l0 l1 l2
          try simp only [Act.put, List.setIfInBounds_toArray, List.set_cons_zero, List.set_cons_succ]
          obtain ⟨p1, p2, p3, p4, bv, ov, bc, oc, hA1, hvA, cv0, cv1, ca, cb⟩ := sea_leg (HSE.out.below HX8.out) HLA.out
          subst hA1
          rw [hvA] at cv1
          have HP1 := Lib.hid p1
          have HP2 := Lib.hid p2
          have HP3 := Lib.hid p3
          have HCS := Lib.hid cv0
          have HCV := Lib.hid cv1
          have HCA := Lib.hid ca
          have HCB := Lib.hid cb
          have NGL : ¬ w8.heap.size ≤ gl := by have := HL8.out.lt; omega
          have NBV : ¬ w8.heap.size ≤ bv := by have : bv < w8.heap.size := World.block_lt_of_cell? w8 ⟨bv, ov + l.v * 2 + 1, none⟩ cv1; omega
          have NBC : ¬ w8.heap.size ≤ bc := by have : bc < w8.heap.size := World.block_lt_of_cell? w8 ⟨bc, oc + l.f * 4 + 0, none⟩ (ca 0 _ rfl); omega
          clear p1 p2 p3 p4 hvA cv0 cv1 ca cb
          refine wp_region_softX [Is (.slice (some ⟨bv, ov, none⟩) n c), Is (.pointer (some ⟨gl, 0, none⟩)), Is (.int .i64 (l.v : Int)), Is (.pointer (some ⟨bv, ov + l.v * 2, none⟩)), Is (.pointer (some ⟨bv, ov + l.v * 2 + 1, none⟩)), Is (.slice (some ⟨bc, oc, none⟩) v.n v.c), Is (.pointer (some ⟨gl, 1, none⟩)), Is (.int .i64 (l.f : Int)), Is (.pointer (some ⟨bc, oc + l.f * 4, none⟩)), Is (.agg #[.string a.port, .int .i64 a.cut, .int .i64 a.arr, .int .i64 a.dep]), Is (.slice (some ⟨bv, ov, none⟩) n c), Is (.pointer (some ⟨gl, 0, none⟩)), Is (.int .i64 (l.v : Int)), Is (.pointer (some ⟨bv, ov + l.v * 2, none⟩)), Is (.pointer (some ⟨bv, ov + l.v * 2 + 1, none⟩)), Is (.slice (some ⟨bc, oc, none⟩) v.n v.c), Is (.pointer (some ⟨gl, 2, none⟩)), Is (.int .i64 (l.t : Int)), Is (.pointer (some ⟨bc, oc + l.t * 4, none⟩)), Is (.agg #[.string b.port, .int .i64 b.cut, .int .i64 b.arr, .int .i64 b.dep]), AnyV, AnyV, AnyV, AnyV] ⟨stab_is _, stab_is _, stab_is _, stab_is _, stab_is _, stab_is _, stab_is _, stab_is _, stab_is _, stab_is _, stab_is _, stab_is _, stab_is _, stab_is _, stab_is _, stab_is _, stab_is _, stab_is _, stab_is _, stab_is _, stab_anyv, stab_anyv, stab_anyv, stab_anyv, trivial⟩ (fun k => w8.heap.size ≤ k) ⟨stabf_is _ _, stabf_is _ _, stabf_is _ _, stabf_is _ _, stabf_is _ _, stabf_is _ _, stabf_is _ _, stabf_is _ _, stabf_is _ _, stabf_is _ _, stabf_is _ _, stabf_is _ _, stabf_is _ _, stabf_is _ _, stabf_is _ _, stabf_is _ _, stabf_is _ _, stabf_is _ _, stabf_is _ _, stabf_is _ _, stabf_anyv _, stabf_anyv _, stabf_anyv _, stabf_anyv _, trivial⟩ [false, false, false, false, false, false, false, false, false, false, false, false, false, false, false, false, false, false, false, false, true, true, true, true] (fun done vs W => TwoX 50 w8.heap.size #[.string ⟨#[]⟩, .int .i64 0, .int .i64 0, .int .i64 0] #[.string a.port, .int .i64 a.cut, .int .i64 a.arr, .int .i64 a.dep] #[.string b.port, .int .i64 b.cut, .int .i64 b.arr, .int .i64 b.dep] (done 20) (done 21) (done 22) (done 23) (vs 20) (vs 21) W) ?_ ?_ (by kernel_rfl) (by kernel_rfl) ?_ ?_
          · intro q_ hq_ done vs v_ W W' h hnd hb
            have n20 : upDn done q_ 20 = done 20 := up_ne done (fun e => by subst e; exact absurd hq_ (by decide))
            have n21 : upDn done q_ 21 = done 21 := up_ne done (fun e => by subst e; exact absurd hq_ (by decide))
            have n22 : upDn done q_ 22 = done 22 := up_ne done (fun e => by subst e; exact absurd hq_ (by decide))
            have n23 : upDn done q_ 23 = done 23 := up_ne done (fun e => by subst e; exact absurd hq_ (by decide))
            have m20 : upVs vs q_ v_ 20 = vs 20 := upv_ne vs v_ (fun e => by subst e; exact absurd hq_ (by decide))
            have m21 : upVs vs q_ v_ 21 = vs 21 := upv_ne vs v_ (fun e => by subst e; exact absurd hq_ (by decide))
            rw [n20, n21, n22, n23, m20, m21]
            exact h.on hb
          · exact TwoX.start
          · refine ⟨?_, ?_, ?_, ?_, ?_, ?_, ?_, ?_, ?_, ?_, ?_, ?_, ?_, ?_, ?_, ?_, ?_, ?_, ?_, ?_, ?_, ?_, ?_, ?_, trivial⟩
            all_goals intro done vs ac W1 hdep hnd hB hR hX hE
            all_goals try simp only [Nat.zero_add, Nat.reduceAdd] at hnd ⊢
            all_goals have ec : ∀ v : Value, ac.eval (.const v) = v := fun _ => rfl
            all_goals try simp [Region.binds] at hdep
            · have e0 : ac.eval (.tmp 0) = .slice (some ⟨bv, ov, none⟩) n c := (hE 0 (by simp)).trans (by simp [evF, Act.eval])
              exact soft_value (.slice (some ⟨bv, ov, none⟩) n c) (by unfold execOp; simp only [e0, ec]; rfl) rfl
            · have e18 : ac.eval (.tmp 18) = .pointer (some ⟨gl, 0, none⟩) := (hE 18 (by simp)).trans (by simp [evF, Act.eval])
              exact soft_value (.pointer (some ⟨gl, 0, none⟩)) (by unfold execOp; simp only [e18]; kernel_rfl) rfl
            · have d1 : vs 1 = .pointer (some ⟨gl, 0, none⟩) := hR 1 (by simp [hdep])
              have e113 : ac.eval (.tmp 113) = .pointer (some ⟨gl, 0, none⟩) := (hE 113 (by simp)).trans (by simp [evF, hdep, d1])
              have hc0 : W1.cell? ⟨gl, 0, none⟩ = some (.int .i64 (l.v : Int)) := (HL8.out.fr hB NGL).cell 0
              exact soft_value (.int .i64 (l.v : Int)) (by unfold execOp; simp only [e113]; go_simp) rfl
            · have d0 : vs 0 = .slice (some ⟨bv, ov, none⟩) n c := hR 0 (by simp [hdep])
              have e112 : ac.eval (.tmp 112) = .slice (some ⟨bv, ov, none⟩) n c := (hE 112 (by simp)).trans (by simp [evF, hdep, d0])
              have d2 : vs 2 = .int .i64 (l.v : Int) := hR 2 (by simp [hdep])
              have e114 : ac.eval (.tmp 114) = .int .i64 (l.v : Int) := (hE 114 (by simp)).trans (by simp [evF, hdep, d2])
              exact soft_value (.pointer (some ⟨bv, ov + l.v * 2, none⟩)) (by simp [execOp, e112, e114, ixk 45 _ 2 Try.underlying45 (by kernel_rfl) bv ov l.v n c HP1.out, Result.andThen]) rfl
            · have d3 : vs 3 = .pointer (some ⟨bv, ov + l.v * 2, none⟩) := hR 3 (by simp [hdep])
              have e115 : ac.eval (.tmp 115) = .pointer (some ⟨bv, ov + l.v * 2, none⟩) := (hE 115 (by simp)).trans (by simp [evF, hdep, d3])
              exact soft_value (.pointer (some ⟨bv, ov + l.v * 2 + 1, none⟩)) (by unfold execOp; simp only [e115]; kernel_rfl) rfl
            · have d4 : vs 4 = .pointer (some ⟨bv, ov + l.v * 2 + 1, none⟩) := hR 4 (by simp [hdep])
              have e116 : ac.eval (.tmp 116) = .pointer (some ⟨bv, ov + l.v * 2 + 1, none⟩) := (hE 116 (by simp)).trans (by simp [evF, hdep, d4])
              have hcx := cell_fr HCV.out hB NBV
              exact soft_value (.slice (some ⟨bc, oc, none⟩) v.n v.c) (by unfold execOp; simp only [e116]; go_simp) rfl
            · have e18 : ac.eval (.tmp 18) = .pointer (some ⟨gl, 0, none⟩) := (hE 18 (by simp)).trans (by simp [evF, Act.eval])
              exact soft_value (.pointer (some ⟨gl, 1, none⟩)) (by unfold execOp; simp only [e18]; kernel_rfl) rfl
            · have d6 : vs 6 = .pointer (some ⟨gl, 1, none⟩) := hR 6 (by simp [hdep])
              have e118 : ac.eval (.tmp 118) = .pointer (some ⟨gl, 1, none⟩) := (hE 118 (by simp)).trans (by simp [evF, hdep, d6])
              have hc1 : W1.cell? ⟨gl, 1, none⟩ = some (.int .i64 (l.f : Int)) := (HL8.out.fr hB NGL).cell 1
              exact soft_value (.int .i64 (l.f : Int)) (by unfold execOp; simp only [e118]; go_simp) rfl
            · have d5 : vs 5 = .slice (some ⟨bc, oc, none⟩) v.n v.c := hR 5 (by simp [hdep])
              have e117 : ac.eval (.tmp 117) = .slice (some ⟨bc, oc, none⟩) v.n v.c := (hE 117 (by simp)).trans (by simp [evF, hdep, d5])
              have d7 : vs 7 = .int .i64 (l.f : Int) := hR 7 (by simp [hdep])
              have e119 : ac.eval (.tmp 119) = .int .i64 (l.f : Int) := (hE 119 (by simp)).trans (by simp [evF, hdep, d7])
              exact soft_value (.pointer (some ⟨bc, oc + l.f * 4, none⟩)) (by simp [execOp, e117, e119, ixk 46 _ 4 Try.underlying46 (by kernel_rfl) bc oc l.f v.n v.c HP2.out, Result.andThen]) rfl
            · have d8 : vs 8 = .pointer (some ⟨bc, oc + l.f * 4, none⟩) := hR 8 (by simp [hdep])
              have e120 : ac.eval (.tmp 120) = .pointer (some ⟨bc, oc + l.f * 4, none⟩) := (hE 120 (by simp)).trans (by simp [evF, hdep, d8])
              have hx0 := cell_fr (HCA.out 0 _ rfl) hB NBC; have hx1 := cell_fr (HCA.out 1 _ rfl) hB NBC; have hx2 := cell_fr (HCA.out 2 _ rfl) hB NBC; have hx3 := cell_fr (HCA.out 3 _ rfl) hB NBC
              rw [Nat.add_zero] at hx0
              exact soft_value (.agg #[.string a.port, .int .i64 a.cut, .int .i64 a.arr, .int .i64 a.dep]) (by unfold execOp; simp only [e120]; go_simp) rfl
            · have e0 : ac.eval (.tmp 0) = .slice (some ⟨bv, ov, none⟩) n c := (hE 0 (by simp)).trans (by simp [evF, Act.eval])
              exact soft_value (.slice (some ⟨bv, ov, none⟩) n c) (by unfold execOp; simp only [e0, ec]; rfl) rfl
            · have e18 : ac.eval (.tmp 18) = .pointer (some ⟨gl, 0, none⟩) := (hE 18 (by simp)).trans (by simp [evF, Act.eval])
              exact soft_value (.pointer (some ⟨gl, 0, none⟩)) (by unfold execOp; simp only [e18]; kernel_rfl) rfl
            · have d11 : vs 11 = .pointer (some ⟨gl, 0, none⟩) := hR 11 (by simp [hdep])
              have e123 : ac.eval (.tmp 123) = .pointer (some ⟨gl, 0, none⟩) := (hE 123 (by simp)).trans (by simp [evF, hdep, d11])
              have hc0 : W1.cell? ⟨gl, 0, none⟩ = some (.int .i64 (l.v : Int)) := (HL8.out.fr hB NGL).cell 0
              exact soft_value (.int .i64 (l.v : Int)) (by unfold execOp; simp only [e123]; go_simp) rfl
            · have d10 : vs 10 = .slice (some ⟨bv, ov, none⟩) n c := hR 10 (by simp [hdep])
              have e122 : ac.eval (.tmp 122) = .slice (some ⟨bv, ov, none⟩) n c := (hE 122 (by simp)).trans (by simp [evF, hdep, d10])
              have d12 : vs 12 = .int .i64 (l.v : Int) := hR 12 (by simp [hdep])
              have e124 : ac.eval (.tmp 124) = .int .i64 (l.v : Int) := (hE 124 (by simp)).trans (by simp [evF, hdep, d12])
              exact soft_value (.pointer (some ⟨bv, ov + l.v * 2, none⟩)) (by simp [execOp, e122, e124, ixk 45 _ 2 Try.underlying45 (by kernel_rfl) bv ov l.v n c HP1.out, Result.andThen]) rfl
            · have d13 : vs 13 = .pointer (some ⟨bv, ov + l.v * 2, none⟩) := hR 13 (by simp [hdep])
              have e125 : ac.eval (.tmp 125) = .pointer (some ⟨bv, ov + l.v * 2, none⟩) := (hE 125 (by simp)).trans (by simp [evF, hdep, d13])
              exact soft_value (.pointer (some ⟨bv, ov + l.v * 2 + 1, none⟩)) (by unfold execOp; simp only [e125]; kernel_rfl) rfl
            · have d14 : vs 14 = .pointer (some ⟨bv, ov + l.v * 2 + 1, none⟩) := hR 14 (by simp [hdep])
              have e126 : ac.eval (.tmp 126) = .pointer (some ⟨bv, ov + l.v * 2 + 1, none⟩) := (hE 126 (by simp)).trans (by simp [evF, hdep, d14])
              have hcx := cell_fr HCV.out hB NBV
              exact soft_value (.slice (some ⟨bc, oc, none⟩) v.n v.c) (by unfold execOp; simp only [e126]; go_simp) rfl
            · have e18 : ac.eval (.tmp 18) = .pointer (some ⟨gl, 0, none⟩) := (hE 18 (by simp)).trans (by simp [evF, Act.eval])
              exact soft_value (.pointer (some ⟨gl, 2, none⟩)) (by unfold execOp; simp only [e18]; kernel_rfl) rfl
            · have d16 : vs 16 = .pointer (some ⟨gl, 2, none⟩) := hR 16 (by simp [hdep])
              have e128 : ac.eval (.tmp 128) = .pointer (some ⟨gl, 2, none⟩) := (hE 128 (by simp)).trans (by simp [evF, hdep, d16])
              have hc2 : W1.cell? ⟨gl, 2, none⟩ = some (.int .i64 (l.t : Int)) := (HL8.out.fr hB NGL).cell 2
              exact soft_value (.int .i64 (l.t : Int)) (by unfold execOp; simp only [e128]; go_simp) rfl
            · have d15 : vs 15 = .slice (some ⟨bc, oc, none⟩) v.n v.c := hR 15 (by simp [hdep])
              have e127 : ac.eval (.tmp 127) = .slice (some ⟨bc, oc, none⟩) v.n v.c := (hE 127 (by simp)).trans (by simp [evF, hdep, d15])
              have d17 : vs 17 = .int .i64 (l.t : Int) := hR 17 (by simp [hdep])
              have e129 : ac.eval (.tmp 129) = .int .i64 (l.t : Int) := (hE 129 (by simp)).trans (by simp [evF, hdep, d17])
              exact soft_value (.pointer (some ⟨bc, oc + l.t * 4, none⟩)) (by simp [execOp, e127, e129, ixk 46 _ 4 Try.underlying46 (by kernel_rfl) bc oc l.t v.n v.c HP3.out, Result.andThen]) rfl
            · have d18 : vs 18 = .pointer (some ⟨bc, oc + l.t * 4, none⟩) := hR 18 (by simp [hdep])
              have e130 : ac.eval (.tmp 130) = .pointer (some ⟨bc, oc + l.t * 4, none⟩) := (hE 130 (by simp)).trans (by simp [evF, hdep, d18])
              have hx0 := cell_fr (HCB.out 0 _ rfl) hB NBC; have hx1 := cell_fr (HCB.out 1 _ rfl) hB NBC; have hx2 := cell_fr (HCB.out 2 _ rfl) hB NBC; have hx3 := cell_fr (HCB.out 3 _ rfl) hB NBC
              rw [Nat.add_zero] at hx0
              exact soft_value (.agg #[.string b.port, .int .i64 b.cut, .int .i64 b.arr, .int .i64 b.dep]) (by unfold execOp; simp only [e130]; go_simp) rfl
            · have ds : done 22 = false := not_of hX.oa hnd
              have n21 : upDn done 20 21 = done 21 := up_ne done (by decide)
              have n22 : upDn done 20 22 = done 22 := up_ne done (by decide)
              have n23 : upDn done 20 23 = done 23 := up_ne done (by decide)
              have mo : upVs vs 20 (.pointer (some ⟨W1.heap.size, 0, none⟩)) 21 = vs 21 := upv_ne vs _ (by decide)
              refine wp_alloc_z 50 rfl #[.string ⟨#[]⟩, .int .i64 0, .int .i64 0, .int .i64 0] (by kernel_rfl) ⟨_, rfl, (Fr.refl _ _).alloc _, ?_, trivial⟩
              rw [up_same, upv_same, n21, n22, n23, mo, ds]
              exact ⟨fun _ => ⟨_, rfl, hB.size, Blk.new _ _ _⟩, fun q => (hX.b q).elim fun b x => ⟨b, x.1, x.2.1, x.2.2.alloc _⟩, fun _ q e => by obtain ⟨b, x, _, y⟩ := hX.b q; rw [x] at e; injection e with e; injection e with e; injection e with e; have := y.lt; omega, fun q => (by cases q), fun q => hX.ob q⟩
            · have ds : done 23 = false := not_of hX.ob hnd
              have n20 : upDn done 21 20 = done 20 := up_ne done (by decide)
              have n22 : upDn done 21 22 = done 22 := up_ne done (by decide)
              have n23 : upDn done 21 23 = done 23 := up_ne done (by decide)
              have mo : upVs vs 21 (.pointer (some ⟨W1.heap.size, 0, none⟩)) 20 = vs 20 := upv_ne vs _ (by decide)
              refine wp_alloc_z 50 rfl #[.string ⟨#[]⟩, .int .i64 0, .int .i64 0, .int .i64 0] (by kernel_rfl) ⟨_, rfl, (Fr.refl _ _).alloc _, ?_, trivial⟩
              rw [up_same, upv_same, n20, n22, n23, mo, ds]
              exact ⟨fun q => (hX.a q).elim fun b x => ⟨b, x.1, x.2.1, x.2.2.alloc _⟩, fun _ => ⟨_, rfl, hB.size, Blk.new _ _ _⟩, fun q _ e => by obtain ⟨b, x, _, y⟩ := hX.a q; rw [x] at e; injection e with e; injection e with e; injection e with e; have := y.lt; omega, fun q => hX.oa q, fun q => (by cases q)⟩
            · obtain ⟨b20, hb20, hc20, hk20⟩ := hX.a (by simp [hdep])
              have d20 : vs 20 = .pointer (some ⟨b20, 0, none⟩) := hb20
              have e19 : ac.eval (.tmp 19) = .pointer (some ⟨b20, 0, none⟩) := (hE 19 (by simp)).trans (by simp [evF, hdep, d20])
              have d9 : vs 9 = .agg #[.string a.port, .int .i64 a.cut, .int .i64 a.arr, .int .i64 a.dep] := hR 9 (by simp [hdep])
              have e121 : ac.eval (.tmp 121) = .agg #[.string a.port, .int .i64 a.cut, .int .i64 a.arr, .int .i64 a.dep] := (hE 121 (by simp)).trans (by simp [evF, hdep, d9])
              have hdk : done 20 = true := by simp [hdep]
              rw [hnd] at hk20
              simp only [Bool.false_eq_true, if_false] at hk20
              have n20 : upDn done 22 20 = done 20 := up_ne done (by decide)
              have n21 : upDn done 22 21 = done 21 := up_ne done (by decide)
              have n23 : upDn done 22 23 = done 23 := up_ne done (by decide)
              have m20 : upVs vs 22 undef 20 = vs 20 := upv_ne vs undef (by decide)
              have m21 : upVs vs 22 undef 21 = vs 21 := upv_ne vs undef (by decide)
              refine wp_store_row 50 (.tmp 19) (.tmp 121) rfl b20 #[.string a.port, .int .i64 a.cut, .int .i64 a.arr, .int .i64 a.dep] e19 e121 50 #[.string ⟨#[]⟩, .int .i64 0, .int .i64 0, .int .i64 0] hk20 (by kernel_rfl) rfl (by simp [Value.oneCell']) ⟨_, rfl, (fr_row _ _ _).mono (fun q hq => by rw [hq]; exact hc20), ?_, trivial⟩
              rw [up_same, n20, n21, n23, m20, m21]
              exact ⟨fun _ => ⟨b20, hb20, hc20, setRow_heap W1 b20 _ _ _ (0, 0) hk20⟩, fun q => (hX.b q).elim fun b' x => ⟨b', x.1, x.2.1, x.2.2.fr (fr_row W1 b20 _) (fun e => hX.ne hdk q (by rw [hb20, x.1, e]))⟩, hX.ne, fun _ => hdk, hX.ob⟩
            · obtain ⟨b21, hb21, hc21, hk21⟩ := hX.b (by simp [hdep])
              have d21 : vs 21 = .pointer (some ⟨b21, 0, none⟩) := hb21
              have e20 : ac.eval (.tmp 20) = .pointer (some ⟨b21, 0, none⟩) := (hE 20 (by simp)).trans (by simp [evF, hdep, d21])
              have d19 : vs 19 = .agg #[.string b.port, .int .i64 b.cut, .int .i64 b.arr, .int .i64 b.dep] := hR 19 (by simp [hdep])
              have e131 : ac.eval (.tmp 131) = .agg #[.string b.port, .int .i64 b.cut, .int .i64 b.arr, .int .i64 b.dep] := (hE 131 (by simp)).trans (by simp [evF, hdep, d19])
              have hdk : done 21 = true := by simp [hdep]
              rw [hnd] at hk21
              simp only [Bool.false_eq_true, if_false] at hk21
              have n20 : upDn done 23 20 = done 20 := up_ne done (by decide)
              have n21 : upDn done 23 21 = done 21 := up_ne done (by decide)
              have n22 : upDn done 23 22 = done 22 := up_ne done (by decide)
              have m20 : upVs vs 23 undef 20 = vs 20 := upv_ne vs undef (by decide)
              have m21 : upVs vs 23 undef 21 = vs 21 := upv_ne vs undef (by decide)
              refine wp_store_row 50 (.tmp 20) (.tmp 131) rfl b21 #[.string b.port, .int .i64 b.cut, .int .i64 b.arr, .int .i64 b.dep] e20 e131 50 #[.string ⟨#[]⟩, .int .i64 0, .int .i64 0, .int .i64 0] hk21 (by kernel_rfl) rfl (by simp [Value.oneCell']) ⟨_, rfl, (fr_row _ _ _).mono (fun q hq => by rw [hq]; exact hc21), ?_, trivial⟩
              rw [up_same, n20, n21, n22, m20, m21]
              exact ⟨fun q => (hX.a q).elim fun b' x => ⟨b', x.1, x.2.1, x.2.2.fr (fr_row W1 b21 _) (fun e => hX.ne q hdk (by rw [hb21, x.1, e]))⟩, fun _ => ⟨b21, hb21, hc21, setRow_heap W1 b21 _ _ _ (0, 0) hk21⟩, hX.ne, hX.oa, fun _ => hdk⟩
          intro done vs_ W hall hB hR hX
          obtain ⟨b20, hb20, _, hk20⟩ := hX.a (hall 20 (by simp))
          obtain ⟨b21, hb21, _, hk21⟩ := hX.b (hall 21 (by simp))
          rw [hall 22 (by simp)] at hk20
          rw [hall 23 (by simp)] at hk21
          simp only [if_true] at hk20 hk21
          have hBb : Below w8.heap.size w8 W := hB.bel (Below.refl _ _) (fun k hk => hk) (Nat.le_refl _)
          have H20 := Lib.hid hk20
          have H21 := Lib.hid hk21
          have HX9 := Lib.hid (HX8.out.trans (hBb.mono HX8.out.size))
          have HC9 := Lib.hid (HC8.out.below hBb)
          have HL9 := Lib.hid (HL8.out.below hBb HL8.out.lt)
          have HCS9 := Lib.hid (cell_fr HCS.out hB NBV)
          simp only [fillA, Act.put, List.setIfInBounds_toArray, List.set_cons_zero, List.set_cons_succ, if_true, hb20, hb21]
          clear hall hB hR hX hb20 hb21 hk20 hk21 hBb NGL NBV NBC HL8 HX8 HC8 HCV HCA HCB HCS
          obtain ⟨w9, hw9⟩ : ∃ w9, W = w9 := ⟨_, rfl⟩
          rw [hw9] at H20 H21 HX9 HC9 HL9 HCS9 ⊢
          clear hw9
          have m0 := HL9.out.cell 0
          have cs0 := HCS9.out
          have x0 := H20.out.cell 0; have x1 := H20.out.cell 1
          simp only [List.getElem?_toArray, List.getElem?_cons_zero, List.getElem?_cons_succ] at m0 x0 x1
          have i1 : (l.v : Int) < (n : Int) := by have := HP1.out; omega
          have HB9 := Lib.hid (HB5.out.trans (HX9.out.mono HB5.out.size))
          by_cases hqs : (v.ship.toList == ([97, 103, 101, 110, 116, 45, 111, 102, 45, 111, 117, 114, 115] : List UInt8)) = true
          · go_wp2_with fail
            refine (counts_any _).mono ?_
            rintro e w9 ⟨rfl, hb9⟩
            have HB9 := Lib.hid ((HB9.out).trans (hb9.mono (HB9.out).size))
            go_wp2_with fail
            go_ret
            exact ⟨rfl, HB9.out⟩
          have hqf : (v.ship.toList == ([97, 103, 101, 110, 116, 45, 111, 102, 45, 111, 117, 114, 115] : List UInt8)) = false := by simpa using hqs
          have HNE : Hid (((⟨#[97, 103, 101, 110, 116, 45, 111, 102, 45, 111, 117, 114, 115]⟩ : ByteArray).toList == v.ship.toList) = false ∧ (v.ship.toList == (⟨#[97, 103, 101, 110, 116, 45, 111, 102, 45, 111, 117, 114, 115]⟩ : ByteArray).toList) = false) := Lib.hid (by rw [agl]; exact ⟨beq_eq_false_iff_ne.2 (fun e => by rw [← e] at hqf; simp at hqf), hqf⟩)
          have hmx : max d a.cut = a.cut := by have := HDA.out; omega
          have hmy : max a.cut b.arr = b.arr := by have := HDA.out; omega
          have hnc : ¬ a.cut < d := by have := HDA.out; omega
          have hbd := hbuild1
          have HH1 := Lib.hid (hand_any w5.heap.size gc gm hs ⟨(⟨#[98, 111, 120]⟩ : ByteArray), (⟨#[97, 103, 101, 110, 116, 45, 111, 102, 45, 111, 117, 114, 115]⟩ : ByteArray), v.ship, a.port, a.cut⟩ y (2 * k) w9 HC9.out HX9.out.size HYY.out.2.1 HYY.out.2.2.1 HYY.out.2.2.2.1 (by rw [HYY.out.2.2.2.2]; exact HDA.out.1) (by rw [HYY.out.2.1]; omega) nmB nmA HNS.out HNA.out.1 HNE.out.1 HNA.out.2)
          clear hqs
          go_wp2_with fail
          refine HH1.out.mono ?_
          rintro e w10 ⟨rfl, hc10, hb10, hf10⟩
          have HX10 := Lib.hid (HX9.out.trans hb10)
          have HC10 := Lib.hid hc10
          have H20b := Lib.hid (hf10 _ _ _ H20.out (by decide))
          have H21b := Lib.hid (hf10 _ _ _ H21.out (by decide))
          clear hc10 hb10 hf10 m0 cs0 x0 x1 HH1 HL9 HCS9 H20 H21 HC9 HX9 hnc
          have HL1 : Hid ((hs ++ [(⟨(⟨#[98, 111, 120]⟩ : ByteArray), (⟨#[97, 103, 101, 110, 116, 45, 111, 102, 45, 111, 117, 114, 115]⟩ : ByteArray), v.ship, a.port, a.cut⟩ : Hd)]).length = 2 * k + 1 + 1) := Lib.hid (by rw [List.length_append, HYY.out.2.1]; rfl)
          have HG1 : Hid ((hs ++ [(⟨(⟨#[98, 111, 120]⟩ : ByteArray), (⟨#[97, 103, 101, 110, 116, 45, 111, 102, 45, 111, 117, 114, 115]⟩ : ByteArray), v.ship, a.port, a.cut⟩ : Hd)])[2 * k + 1]? = some (⟨(⟨#[98, 111, 120]⟩ : ByteArray), (⟨#[97, 103, 101, 110, 116, 45, 111, 102, 45, 111, 117, 114, 115]⟩ : ByteArray), v.ship, a.port, a.cut⟩ : Hd)) := Lib.hid (by rw [List.getElem?_append_right (by rw [HYY.out.2.1]; omega), HYY.out.2.1]; simp)
          have HI1 : Hid (Hist (⟨#[98, 111, 120]⟩ : ByteArray) (hs ++ [(⟨(⟨#[98, 111, 120]⟩ : ByteArray), (⟨#[97, 103, 101, 110, 116, 45, 111, 102, 45, 111, 117, 114, 115]⟩ : ByteArray), v.ship, a.port, a.cut⟩ : Hd)])) := Lib.hid (HYY.out.1.more HYY.out.2.1 HYY.out.2.2.1 rfl nmA HNS.out HNA.out.1 HNA.out.2 HNE.out.1 HYY.out.2.2.2.1 (by rw [HYY.out.2.2.2.2]; exact HDA.out.1))
          have HH2 := Lib.hid (hand_any w5.heap.size gc gm (hs ++ [(⟨(⟨#[98, 111, 120]⟩ : ByteArray), (⟨#[97, 103, 101, 110, 116, 45, 111, 102, 45, 111, 117, 114, 115]⟩ : ByteArray), v.ship, a.port, a.cut⟩ : Hd)]) (⟨(⟨#[98, 111, 120]⟩ : ByteArray), v.ship, (⟨#[97, 103, 101, 110, 116, 45, 111, 102, 45, 111, 117, 114, 115]⟩ : ByteArray), b.port, b.arr⟩ : Hd) (⟨(⟨#[98, 111, 120]⟩ : ByteArray), (⟨#[97, 103, 101, 110, 116, 45, 111, 102, 45, 111, 117, 114, 115]⟩ : ByteArray), v.ship, a.port, a.cut⟩ : Hd) (2 * k + 1) w10 HC10.out HX10.out.size HL1.out HG1.out rfl HDA.out.2 (by rw [HL1.out]; omega) nmB HNS.out nmA HNB.out.1 HNE.out.2 HNB.out.2)
          have hm3 := max3 w10 d a.cut b.arr HDA.out.1 HDA.out.2
          have x1 := H20b.out.cell 1
          have y0 := H21b.out.cell 0; have y2 := H21b.out.cell 2
          simp only [List.getElem?_toArray, List.getElem?_cons_zero, List.getElem?_cons_succ] at x1 y0 y2
          go_wp2_with fail
          refine HH2.out.mono ?_
          rintro e w11 ⟨rfl, hc11, hb11, hf11⟩
          have HX11 := Lib.hid (HX10.out.trans hb11)
          have HC11 := Lib.hid hc11
          have H21c := Lib.hid (hf11 _ _ _ H21b.out (by decide))
          clear hc11 hb11 hf11 x1 y0 y2 HH2 H20b H21b HC10 HX10 hmx hmy
          have y0 := H21c.out.cell 0; have y2 := H21c.out.cell 2
          simp only [List.getElem?_toArray, List.getElem?_cons_zero, List.getElem?_cons_succ] at y0 y2
          have HI2 : Hid (Hist (⟨#[98, 111, 120]⟩ : ByteArray) (hs ++ [(⟨(⟨#[98, 111, 120]⟩ : ByteArray), (⟨#[97, 103, 101, 110, 116, 45, 111, 102, 45, 111, 117, 114, 115]⟩ : ByteArray), v.ship, a.port, a.cut⟩ : Hd)] ++ [(⟨(⟨#[98, 111, 120]⟩ : ByteArray), v.ship, (⟨#[97, 103, 101, 110, 116, 45, 111, 102, 45, 111, 117, 114, 115]⟩ : ByteArray), b.port, b.arr⟩ : Hd)])) := Lib.hid (HI1.out.more HL1.out HG1.out rfl HNS.out nmA HNB.out.1 HNB.out.2 HNE.out.2 rfl HDA.out.2)
          have HL2 : Hid ((hs ++ [(⟨(⟨#[98, 111, 120]⟩ : ByteArray), (⟨#[97, 103, 101, 110, 116, 45, 111, 102, 45, 111, 117, 114, 115]⟩ : ByteArray), v.ship, a.port, a.cut⟩ : Hd)] ++ [(⟨(⟨#[98, 111, 120]⟩ : ByteArray), v.ship, (⟨#[97, 103, 101, 110, 116, 45, 111, 102, 45, 111, 117, 114, 115]⟩ : ByteArray), b.port, b.arr⟩ : Hd)]).length = 2 * (k + 1) + 1) := Lib.hid (by rw [List.length_append, HL1.out]; rfl)
          have HG2 : Hid ((hs ++ [(⟨(⟨#[98, 111, 120]⟩ : ByteArray), (⟨#[97, 103, 101, 110, 116, 45, 111, 102, 45, 111, 117, 114, 115]⟩ : ByteArray), v.ship, a.port, a.cut⟩ : Hd)] ++ [(⟨(⟨#[98, 111, 120]⟩ : ByteArray), v.ship, (⟨#[97, 103, 101, 110, 116, 45, 111, 102, 45, 111, 117, 114, 115]⟩ : ByteArray), b.port, b.arr⟩ : Hd)])[2 * (k + 1)]? = some (⟨(⟨#[98, 111, 120]⟩ : ByteArray), v.ship, (⟨#[97, 103, 101, 110, 116, 45, 111, 102, 45, 111, 117, 114, 115]⟩ : ByteArray), b.port, b.arr⟩ : Hd)) := Lib.hid (by rw [List.getElem?_append_right (by rw [HL1.out]; omega), HL1.out, show 2 * (k + 1) - (2 * k + 1 + 1) = 0 by omega]; rfl)
          go_upto_region 33 with (fail)
          go_quiet (fail)
          go_wp2_with fail
          go_roundw
          case rel => exact ⟨k + 1, hs ++ [(⟨(⟨#[98, 111, 120]⟩ : ByteArray), (⟨#[97, 103, 101, 110, 116, 45, 111, 102, 45, 111, 117, 114, 115]⟩ : ByteArray), v.ship, a.port, a.cut⟩ : Hd)] ++ [(⟨(⟨#[98, 111, 120]⟩ : ByteArray), v.ship, (⟨#[97, 103, 101, 110, 116, 45, 111, 102, 45, 111, 117, 114, 115]⟩ : ByteArray), b.port, b.arr⟩ : Hd)], (⟨(⟨#[98, 111, 120]⟩ : ByteArray), v.ship, (⟨#[97, 103, 101, 110, 116, 45, 111, 102, 45, 111, 117, 114, 115]⟩ : ByteArray), b.port, b.arr⟩ : Hd), by omega, by go_num, by rw [HG7.out], by rw [HG6.out], Lib.hid ⟨HI2.out, HL2.out, HG2.out, rfl, HG6.out.symm, HG7.out.symm, by rw [HG7.out]; exact HNB.out.2⟩, Lib.hid (HC11.out.below (below_drewN (Below.refl _ _) _)), Lib.hid (below_drewN HX11.out _)⟩
          case measure => simp [intOf]; omega
        · have hkn : n5 = k := by omega
          subst hkn
          obtain ⟨hy0, hy1, hy2, hy3, hy4, hy5, hy6⟩ := HHI.out
          rw [HQ2.out] at hy4 ⊢
          rw [HQ3.out] at hy5 hy6 ⊢
          have HHY := history_any w5.heap.size gc gm (⟨#[98, 111, 120]⟩ : ByteArray) hs wr HCW.out (by omega)
          have HIH := Lib.hid hy0
          have HY2 := Lib.hid hy2
          have HYP := Lib.hid (⟨hy1, hy3, hy4, hy5, hy6⟩ : hs.length = 2 * n5 + 1 ∧ y.to = (⟨#[97, 103, 101, 110, 116, 45, 111, 102, 45, 111, 117, 114, 115]⟩ : ByteArray) ∧ y.pl = (⟨#[111, 115, 108, 111]⟩ : ByteArray) ∧ y.day = day ∧ DayOK day)
          obtain ⟨N, hN⟩ : ∃ N, hs.length = N := ⟨_, rfl⟩
          have HNN := Lib.hid hN
          rw [hN] at HHY hy1
          have hw1 : IntKind.i64.wrap (2 * (n5 : Int)) = 2 * (n5 : Int) := IntWalk.i64_in _ (by omega)
          have hw2 : IntKind.i64.wrap (1 + 2 * (n5 : Int)) = 1 + 2 * (n5 : Int) := IntWalk.i64_in _ (by omega)
          have hNI : (N : Int) = 1 + 2 * (n5 : Int) := by omega
          have HNI := Lib.hid hNI
          have HHX := Lib.hid HHY
          clear hy0 hy1 hy2 hy3 hy4 hy5 hy6 HHI hN HHY hNI
          go_wp2_with fail
          refine HHX.out.mono ?_
          rintro e w10 ⟨A9, c9, rfl, hsl, hb10⟩
          have HCK := Lib.hid (check_any A9 N c9 (⟨#[98, 111, 120]⟩ : ByteArray) hs w10 hsl HIH.out (by have := HNI.out; omega))
          have HX10 := Lib.hid (HXW.out.trans (hb10.mono HXW.out.size))
          have HC10 := Lib.hid (HCW.out.below hb10)
          clear hsl hb10 HHX HCW HXW
          go_wp2_with fail
          refine HCK.out.mono ?_
          rintro e w11 ⟨rfl, hb11⟩
          have HX11 := Lib.hid (HX10.out.trans (hb11.mono HX10.out.size))
          have hno := now_any w5.heap.size gc gm (⟨#[98, 111, 120]⟩ : ByteArray) hs y (2 * n5) w11 (HC10.out.below hb11) (by rw [HYP.out.1]; omega) HYP.out.1 HY2.out (by rw [HYP.out.2.2.2.1]; exact HYP.out.2.2.2.2.2)
          rw [HYP.out.2.1, HYP.out.2.2.1] at hno
          have HNO := Lib.hid hno
          clear hno hb11 HCK HC10 HX10
          go_wp2_with fail
          refine HNO.out.mono ?_
          rintro e w12 ⟨rfl, hb12⟩
          have HBE := Lib.hid (HB5.out.trans ((HX11.out.trans (hb12.mono HX11.out.size)).mono HB5.out.size))
          have hNI := HNI.out
          clear hb12 HNO HX11
          go_wp2_with fail
          go_ret
          exact ⟨rfl, HBE.out⟩
end Go.Proofs.Ytlicmhgpldmliaa.kit
