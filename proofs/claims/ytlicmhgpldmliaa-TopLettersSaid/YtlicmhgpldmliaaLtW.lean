/- Letters there and back: the law. No condition. -/
import Derived.Test.YtlicmhgpldmliaaLtP
import Derived.Test.YtlicmhgpldmliaaTlX
namespace Go.Proofs.Ytlicmhgpldmliaa.kit
open Go.RowKit
set_option linter.unusedVariables false
set_option linter.unusedSimpArgs false
theorem nameA : nameB (⟨#[97]⟩ : ByteArray).data.toList = true := by decide
theorem nameC : nameB (⟨#[98]⟩ : ByteArray).data.toList = true := by decide
theorem bak0 (w : World) (i : Int) : (Instr.build 32 #[(3, .int .i64 13), (8, .int .i64 i)]).run Try.prog w = .ok (.agg #[.string ⟨#[]⟩, .string ⟨#[]⟩, .int .i64 0, .int .i64 13, .int .i64 0, .string ⟨#[]⟩, .string ⟨#[]⟩, .string ⟨#[]⟩, .int .i64 i, .int .i64 0, .string ⟨#[]⟩, .int .i64 0, .slice none 0 0, .slice none 0 0]) w := run_build w _ _ _ (by kernel_rfl)
set_option maxRecDepth 100000 in
set_option maxHeartbeats 12800000 in
theorem topLetters_walk (A : Option Addr) (n c : Nat) (xs : List Way) (w : World) (hx : SliceOf w 2 Way.cells A n xs) (hxu : ∀ x ∈ xs, x.wf) (hm : n ≤ maxLen) :
    Calls Try.prog 3 #[.slice A n c] w fun e w' => e = .returned (.bool true) ∧ Below w.heap.size w w' := by
  have HX := Lib.hid hx
  have HU := Lib.hid hxu
  clear hx hxu
  by_cases h40 : 40 < n
  · have d40 : (40 : Int) < (n : Int) := by omega
    go_enter Try.func3, Try.ntmps3
    go_wp2_with fail
    refine (counts_any _).mono ?_
    rintro e w1 ⟨rfl, hb1⟩
    go_wp2_with fail
    refine (counts_any _).mono ?_
    rintro e w2 ⟨rfl, hb2⟩
    have HB2 := Lib.hid (hb1.trans (hb2.mono hb1.size))
    go_wp2_with fail
    go_ret
    exact ⟨rfl, HB2.out⟩
  have d40 : ¬ (40 : Int) < (n : Int) := by omega
  go_enter Try.func3, Try.ntmps3
  go_wp2_with fail
  refine (counts_any _).mono ?_
  rintro e w1 ⟨rfl, hb1⟩
  have HB1 := Lib.hid hb1
  clear hb1
  go_wp2_with fail
  refine (new_any _ _ _ (by decide) (by decide) nameA nameC (by kernel_rfl)).mono ?_
  rintro e w2 ⟨ga, gma, rfl, g1, g2, g3, hea, hma, hb2⟩
  have HB2 := Lib.hid (HB1.out.trans (hb2.mono HB1.out.size))
  have HEA := Lib.hid hea
  have HG := Lib.hid (⟨Nat.le_trans HB1.out.size g1, g3⟩ : w.heap.size ≤ ga ∧ ga ≠ gma)
  clear hb2 hea hma g1 g2 g3
  go_wp2_with fail
  refine (new_any _ _ _ (by decide) (by decide) nameC nameA (by kernel_rfl)).mono ?_
  rintro e w3 ⟨gb, gmb, rfl, g1, g2, g3, heb, hmb, hb3⟩
  have HB3 := Lib.hid (HB2.out.trans (hb3.mono HB2.out.size))
  have HEA3 := Lib.hid (HEA.out.below hb3 HEA.out.lt)
  have HEB := Lib.hid heb
  have HMB := Lib.hid hmb
  have HGB : Hid (w.heap.size ≤ gb ∧ w.heap.size ≤ gmb ∧ ga ≠ gb ∧ gb < w3.heap.size ∧ gmb < w3.heap.size) := Lib.hid ⟨Nat.le_trans HB2.out.size g1, Nat.le_trans HB2.out.size g2, fun e => by have := HEA.out.lt; omega, heb.lt, hmb.lt⟩
  clear hb3 heb hmb g1 g2 g3 HEA
  obtain ⟨i0, hi, hz0, hz1, hz2⟩ := info_parts infoLt
  have HM0 : Hid (Mem w.heap.size w ga gma gb gmb w3.heap.size (w3.heap.size + 1) 0 0 0 0 false (.slice none 0 0) (.slice none 0 0) (.slice none 0 0) [] [] (fun _ => none) ((w3.alloc (.cells #[(.pointer (some ⟨gb, 0, none⟩))] 24)).alloc (.cells #[.int .i64 0] 3))) := Lib.hid (by
    have h2 := two_alloc w3 (.cells #[(.pointer (some ⟨gb, 0, none⟩))] 24) (.cells #[.int .i64 0] 3)
    have hs := HB3.out.size
    have hg := HGB.out
    exact ⟨HB3.out.trans (h2.mono hs), Nat.le_trans hs h2.size, HEA3.out.below h2 HEA3.out.lt, HEB.out.below h2 HEB.out.lt, (Blk.new _ _ _).alloc _, blk_second _ _ _ _, ⟨0, HMB.out.below h2 HMB.out.lt⟩, World.ownsRow_nil _ _ _ _, World.ownsRow_nil _ _ _ _, World.ownsRow_nil _ _ _ _, .inl rfl, .inl rfl, .inl rfl, HG.out.1, hg.1, hg.2.1, hs, by omega, hg.2.2.1⟩)
  go_upto_region 10 with (fail)
  obtain ⟨w4, hw4⟩ : ∃ W, (w3.alloc (.cells #[(.pointer (some ⟨gb, 0, none⟩))] 24)).alloc (.cells #[.int .i64 0] 3) = W := ⟨_, rfl⟩
  obtain ⟨bp, hbp⟩ : ∃ b, w3.heap.size = b := ⟨_, rfl⟩
  rw [hw4] at HM0 ⊢
  rw [hbp] at HM0
  simp only [hbp]
  obtain ⟨tp, htp⟩ : ∃ b, bp + 1 = b := ⟨_, rfl⟩
  rw [htp] at HM0
  simp only [htp]
  clear hw4 htp hbp HEA3 HEB HMB HGB HG HB1 HB2 HB3
  go_loopw [5, 6, 7, 46] (fun vt vb sv iv wr => Hid (LRel w ga gma gb gmb bp tp n vt vb sv iv wr)) (fun _ _ _ i _ => n - (intOf i).toNat)
  case atStart => exact Lib.hid (lrel 0 0 0 0 0 false _ [] [] _ (by omega) (by omega) rfl rfl (by simp) (by simp) Log.start HM0.out)
  case round =>
    obtain ⟨k, se, ac, T, S, ow, va, th, bk, m, hk, hsk, rfl, rfl, hlt4, hlb4, hlog, hmem⟩ := hrel.out
    clear hrel
    have HL := Lib.hid hlog
    have HM := Lib.hid hmem
    obtain ⟨At, ct, rfl⟩ := own_slice hmem.ot
    obtain ⟨Ab, cb, rfl⟩ := own_slice hmem.ob
    obtain ⟨N, hN⟩ : ∃ q, th.length = q := ⟨_, rfl⟩
    obtain ⟨NB, hNB⟩ : ∃ q, bk.length = q := ⟨_, rfl⟩
    have HN := Lib.hid hN
    have HNB := Lib.hid hNB
    rw [hN, hNB] at HM
    simp only [hN, hNB]
    have hTs : ¬ (se : Int) < (T : Int) := by have := hlog.o3; omega
    have hl4 : ¬ (400 : Int) < (N : Int) := by omega
    have hb4 : ¬ (400 : Int) < (NB : Int) := by omega
    clear hlog hmem hN hNB
    have hq0 : 0 < 14 := by omega
    have HLN : Hid (N ≤ 400 ∧ NB ≤ 400) := Lib.hid (by omega)
    by_cases hkn : k < n
    · have hx1 := HX.out.below (HM.out.bel)
      obtain ⟨b, off, y, rfl, hxk, hc⟩ := way_at hx1 hkn
      obtain ⟨⟨u0, u1⟩, v0, v1⟩ := HU.out y (List.mem_of_getElem? hxk)
      obtain ⟨kd, nn⟩ := y
      dsimp only at u0 u1 v0 v1
      have c0 := hc 0 _ rfl; have c1 := hc 1 _ rfl
      rw [Nat.add_zero] at c0
      have hkn' : (k : Int) < (n : Int) := by omega
      have HWy := Lib.hid (Blk.new wr 37 #[.int .u8 kd, .int .u8 nn])
      have HM1 := Lib.hid (HM.out.on (one_alloc wr (.cells #[.int .u8 kd, .int .u8 nn] 37)))
      clear hx1 hxk hc HM
      go_upto_region 12 with ((refine stop_store 37 _ _ rfl ?_; refine wpList_store_new rfl 37 _ _ rfl _ rfl rfl (by kernel_rfl) rfl rfl ?_))
      obtain ⟨w5, hw5⟩ : ∃ W, wr.alloc (.cells #[.int .u8 kd, .int .u8 nn] 37) = W := ⟨_, rfl⟩
      obtain ⟨gm, hgm⟩ : ∃ b, wr.heap.size = b := ⟨_, rfl⟩
      rw [hw5] at HWy HM1 ⊢
      rw [hgm] at HWy
      simp only [hgm]
      clear hw5 hgm c0 c1
      have y0 := HWy.out.cell 0; have y1 := HWy.out.cell 1
      simp only [List.getElem?_toArray, List.getElem?_cons_zero, List.getElem?_cons_succ] at y0 y1
      have HMr : Hid (∃ r : Int, Int.tmod kd 8 = r ∧ (r = 0 ∨ r = 1 ∨ r = 2 ∨ r = 3 ∨ r = 4 ∨ r = 5 ∨ r = 6 ∨ r = 7)) := Lib.hid ⟨_, rfl, by rw [Int.tmod_eq_emod_of_nonneg u0]; omega⟩
      obtain ⟨r, hr8, hr⟩ := HMr.out
      clear HMr
      rcases hr with rfl | rfl | rfl | rfl | rfl | rfl | rfl | rfl
      · as_aux_lemma =>
        skip
        obtain ⟨s1, hs1⟩ : ∃ s, se + 1 = s := ⟨_, rfl⟩
        have HSD := Lib.hid (send_m HM1.out HL.out (by omega))
        rw [hs1] at HSD
        have hw1 : IntKind.i64.wrap ((se : Int) + 1) = (s1 : Int) := by rw [← hs1]; exact IntWalk.i64_in _ (by omega)
        have hm3 : Int.tmod (s1 : Int) 3 = (s1 : Int) % 3 := Int.tmod_eq_emod_of_nonneg (by omega)
        have hnum : (Ll s1).num = (s1 : Int) := rfl
        have hbk := bak0
        go_wp2_with fail
        refine HSD.out.mono ?_
        rintro e w6 ⟨he, hkp, va', hm6⟩
        have HM6 := Lib.hid hm6
        have HL6 := Lib.hid HL.out.send
        have HW6 := Lib.hid (hkp _ _ HWy.out)
        rw [hs1] at HM6 HL6 he
        obtain ⟨ag, hag⟩ : ∃ v, (.agg #[.string (Ll s1).fr, .string (Ll s1).dst, .int .i64 (Ll s1).num, .int .i64 (Ll s1).kind, .int .i64 (Ll s1).ack, .string ⟨#[]⟩, .string ⟨#[]⟩, .string ⟨#[]⟩, .int .i64 (Ll s1).idx, .int .i64 0, .string ⟨#[]⟩, .int .i64 0, .slice none 0 0, .slice none 0 0] : Value) = v := ⟨_, rfl⟩
        have hfl : ∀ w, (Instr.field 32 ag 2).run Try.prog w = .ok (.int .i64 s1) w := fun w => by rw [← hag]; kernel_rfl
        rw [hag] at he
        subst he
        clear hm6 hkp HM1 HWy y0 y1 HSD hnum hag
        have y0 := HW6.out.cell 0; have y1 := HW6.out.cell 1
        simp only [List.getElem?_toArray, List.getElem?_cons_zero, List.getElem?_cons_succ] at y0 y1
        have t0 := HM6.out.pt.cell 0
        simp only [List.getElem?_toArray, List.getElem?_cons_zero] at t0
        have hTs' : ¬ (s1 : Int) < (T : Int) := by have := HL6.out.o3; omega
        go_wp2_with fail
        go_roundw
        case rel =>
          exact Lib.hid (lrel (k + 1) (s1) (ac) (T) (S) (ow) _ (th) (bk) _ (by omega) (by omega) rfl (by go_num) (hlt4) (hlb4) HL6.out HM6.out)
        case measure => simp [intOf]; omega
      · as_aux_lemma =>
        skip
        go_wp2_with fail
        refine (due_am HM1.out (by omega)).mono ?_
        rintro e w6 ⟨Ad, cd, rfl, hd, hm6, hb6⟩
        have HD6 := Lib.hid ((SliceOf.of_own_s hd lt_len rfl (outL_len ac se)).reads lt_len)
        have HM6 := Lib.hid hm6
        have HW6 := Lib.hid (HWy.out.below hb6 HWy.out.lt)
        clear hd hm6 hb6 HM1 HWy y0 y1
        have hq1 : N + (se - ac) ≤ maxLen := by unfold maxLen; omega
        have hq2 : (N + (se - ac)) * 192 ≤ 140737488355328 := by omega
        have HO6 : Hid (w6.ownsRow w.heap.size 32 14 (.slice At N ct) N (th.flatMap ltC)) := Lib.hid (by have := HM6.out.ot; rw [HN.out] at this; exact this)
        go_upto_region 22 with (at_builtin; refine wpList_append_any_s _ rfl (.tmp 67) (.tmp 69) 26 rfl w.heap.size 32 i0 _ 14 192 Try.underlying26 hi hz0 hz1 hz2 rfl hq0 _ N (th.flatMap ltC) rfl HO6.out _ Ad (se - ac) cd ((outL ac se).flatMap ltC) rfl HD6.out (lts_one _) hq1 hq2 HM6.out.siz ?_; intro A9 c9 w9 hown9 hg9 hl9; have HO9 := Lib.hid hown9; have HG9 := Lib.hid hg9; have HL9 := Lib.hid hl9; clear hown9 hg9 hl9)
        have HL7 := Lib.hid HL.out.due
        have HN7 : Hid ((th ++ outL ac se).length = N + (se - ac)) := Lib.hid (by rw [List.length_append, outL_len, HN.out])
        have HM7 : Hid (Mem w.heap.size w ga gma gb gmb bp tp se ac T S ow va (.slice A9 (N + (se - ac)) c9) (.slice Ab NB cb) (th ++ outL ac se) bk m w9) := Lib.hid (HM6.out.moreT HG9.out (by rw [HN7.out, List.flatMap_append]; exact HO9.out) (HL9.out.elim .inl (fun h => .inr (fun b hb => by rw [h] at hb; injection hb with hb; omega))))
        have HW7 := Lib.hid (HW6.out.grown HG9.out (fun e => own_blk_ne HO6.out HW6.out (by decide) e.symm))
        obtain ⟨N7, hN7⟩ : ∃ q, N + (se - ac) = q := ⟨_, rfl⟩
        rw [hN7] at HN7 HM7
        simp only [hN7]
        clear HM6 HW6 HO6 HO9 HG9 HL9 HD6 hq1 hq2 hN7
        have y0 := HW7.out.cell 0; have y1 := HW7.out.cell 1
        simp only [List.getElem?_toArray, List.getElem?_cons_zero, List.getElem?_cons_succ] at y0 y1
        by_cases h7 : 400 < N7
        · have h7' : (400 : Int) < (N7 : Int) := by omega
          go_wp2_with fail
          refine (counts_any _).mono ?_
          rintro e w10 ⟨rfl, hb10⟩
          have HBE := Lib.hid (HM7.out.bel.trans (hb10.mono HM7.out.siz))
          clear hb10
          go_wp2_with fail
          go_ret
          exact ⟨rfl, HBE.out⟩
        have h7' : ¬ (400 : Int) < (N7 : Int) := by omega
        have t0 := HM7.out.pt.cell 0
        simp only [List.getElem?_toArray, List.getElem?_cons_zero] at t0
        have hTs' : ¬ (se : Int) < (T : Int) := by have := HL7.out.o3; omega
        go_wp2_with fail
        go_roundw
        case rel =>
          exact Lib.hid (lrel (k + 1) (se) (ac) (T) (S) (ow) _ (th ++ outL ac se) (bk) _ (by omega) (by omega) rfl (by go_num) (by rw [HN7.out]; omega) (hlb4) HL7.out HM7.out)
        case measure => simp [intOf]; omega
      · as_aux_lemma =>
        skip
        by_cases h0 : 0 < N
        rotate_left
        · have h0' : ¬ (0 : Int) < (N : Int) := by omega
          have t0 := HM1.out.pt.cell 0
          simp only [List.getElem?_toArray, List.getElem?_cons_zero] at t0
          have hTs' : ¬ (se : Int) < (T : Int) := by have := HL.out.o3; omega
          go_wp2_with fail
          go_roundw
          case rel =>
            exact Lib.hid (lrel (k + 1) (se) (ac) (T) (S) (ow) _ (th) (bk) _ (by omega) (by omega) rfl (by go_num) (hlt4) (hlb4) HL.out HM1.out)
          case measure => simp [intOf]; omega
        have h0' : (0 : Int) < (N : Int) := by omega
        obtain ⟨i, hrem, hiN⟩ : ∃ i : Nat, Int.tmod nn (N : Int) = i ∧ i < N := by
          have h1 := Int.emod_nonneg nn (show (N : Int) ≠ 0 by omega)
          have h2 := Int.emod_lt_of_pos nn h0'
          exact ⟨(nn % (N : Int)).toNat, by rw [Int.tmod_eq_emod_of_nonneg v0]; omega, by omega⟩
        have hne0 : ((N : Int) == 0) = false := by simp; omega
        have hwn : IntKind.i64.wrap nn = nn := IntWalk.i64_in _ (by omega)
        have hwi : IntKind.i64.wrap (i : Int) = (i : Int) := IntWalk.i64_in _ (by omega)
        have hro : w5.ownsRow w.heap.size 32 14 (.slice At N ct) N (th.flatMap ltC) := by have := HM1.out.ot; rw [HN.out] at this; exact this
        obtain ⟨bt, c', hbv, hnc, hBb, hcm⟩ := own_addr hro h0
        injection hbv with hA1 _ hc1
        subst hA1 hc1
        have HSS := Lib.hid (SliceOf.of_own_s hro lt_len rfl HN.out)
        obtain ⟨b2, off2, x, hbo, hxk, hc⟩ := lt_at HSS.out hiN
        injection hbo with hbo
        injection hbo with hb2 ho2
        subst hb2 ho2
        simp only [Nat.zero_add] at hc
        have HXK := Lib.hid hxk
        obtain ⟨j, hj1, hj2, hxj⟩ := HL.out.tq x (List.mem_of_getElem? hxk)
        subst hxj
        have d0 := hc 0 _ rfl; have d1 := hc 1 _ rfl; have d2 := hc 2 _ rfl; have d3 := hc 3 _ rfl; have d4 := hc 4 _ rfl; have d5 := hc 5 _ rfl; have d6 := hc 6 _ rfl; have d7 := hc 7 _ rfl; have d8 := hc 8 _ rfl; have d9 := hc 9 _ rfl; have d10 := hc 10 _ rfl; have d11 := hc 11 _ rfl; have d12 := hc 12 _ rfl; have d13 := hc 13 _ rfl
        rw [Nat.add_zero] at d0
        have HX6 := Lib.hid (Blk.new w5 32 #[.string (Ll j).fr, .string (Ll j).dst, .int .i64 (Ll j).num, .int .i64 (Ll j).kind, .int .i64 (Ll j).ack, .string ⟨#[]⟩, .string ⟨#[]⟩, .string ⟨#[]⟩, .int .i64 (Ll j).idx, .int .i64 0, .string ⟨#[]⟩, .int .i64 0, .slice none 0 0, .slice none 0 0])
        have HM6 := Lib.hid (HM1.out.on (one_alloc w5 (.cells #[.string (Ll j).fr, .string (Ll j).dst, .int .i64 (Ll j).num, .int .i64 (Ll j).kind, .int .i64 (Ll j).ack, .string ⟨#[]⟩, .string ⟨#[]⟩, .string ⟨#[]⟩, .int .i64 (Ll j).idx, .int .i64 0, .string ⟨#[]⟩, .int .i64 0, .slice none 0 0, .slice none 0 0] 32)))
        have HW6 := Lib.hid (HWy.out.below (one_alloc w5 (.cells #[.string (Ll j).fr, .string (Ll j).dst, .int .i64 (Ll j).num, .int .i64 (Ll j).kind, .int .i64 (Ll j).ack, .string ⟨#[]⟩, .string ⟨#[]⟩, .string ⟨#[]⟩, .int .i64 (Ll j).idx, .int .i64 0, .string ⟨#[]⟩, .int .i64 0, .slice none 0 0, .slice none 0 0] 32)) HWy.out.lt)
        have HSA := Lib.hid (HSS.out.below (one_alloc w5 (.cells #[.string (Ll j).fr, .string (Ll j).dst, .int .i64 (Ll j).num, .int .i64 (Ll j).kind, .int .i64 (Ll j).ack, .string ⟨#[]⟩, .string ⟨#[]⟩, .string ⟨#[]⟩, .int .i64 (Ll j).idx, .int .i64 0, .string ⟨#[]⟩, .int .i64 0, .slice none 0 0, .slice none 0 0] 32)))
        clear hxk hc hro
        go_upto_region 28 with ((refine stop_store 32 _ _ rfl ?_; refine wpList_store_new rfl 32 _ _ rfl _ rfl rfl (by kernel_rfl) rfl rfl ?_))
        obtain ⟨w6, hw6⟩ : ∃ W, w5.alloc (.cells #[.string (Ll j).fr, .string (Ll j).dst, .int .i64 (Ll j).num, .int .i64 (Ll j).kind, .int .i64 (Ll j).ack, .string ⟨#[]⟩, .string ⟨#[]⟩, .string ⟨#[]⟩, .int .i64 (Ll j).idx, .int .i64 0, .string ⟨#[]⟩, .int .i64 0, .slice none 0 0, .slice none 0 0] 32) = W := ⟨_, rfl⟩
        obtain ⟨gx, hgx⟩ : ∃ g, w5.heap.size = g := ⟨_, rfl⟩
        rw [hw6] at HX6 HM6 HW6 HSA ⊢
        rw [hgx] at HX6
        simp only [hgx]
        clear d0 d1 d2 d3 d4 d5 d6 d7 d8 d9 d10 d11 d12 d13
        clear hw6 hgx HM1 HWy y0 y1 HSS
        have hic : i ≤ ct := by omega
        obtain ⟨i1, hi1⟩ : ∃ i1, i + 1 = i1 := ⟨_, rfl⟩
        have hi1N : i1 ≤ N := by omega
        have hqi : IntKind.i64.wrap ((i : Int) + 1) = (i1 : Int) := by rw [← hi1]; exact IntWalk.i64_in _ (by omega)
        have HS1 := Lib.hid (HSA.out.take_ (k := i) (by omega))
        have HS2 := Lib.hid (HSA.out.drop_ hi1N hnc)
        obtain ⟨A2, hA2⟩ : ∃ A2, (if ct = i1 then some ⟨bt, 0, none⟩ else (some ⟨bt, 0, none⟩ : Option Addr).map (·.add (i1 * 14))) = A2 := ⟨_, rfl⟩
        rw [hA2] at HS2
        have HA2 := Lib.hid hA2
        clear hA2
        obtain ⟨l1, hl1⟩ : ∃ l, th.take i = l := ⟨_, rfl⟩
        obtain ⟨l2, hl2⟩ : ∃ l, th.drop i1 = l := ⟨_, rfl⟩
        have HSUB : Hid ((∀ x ∈ l1 ++ l2, x ∈ th) ∧ (l1 ++ l2).length = i + (N - i1)) := Lib.hid ⟨by rw [← hl1, ← hl2]; intro x hx; rcases List.mem_append.1 hx with h | h; exact List.mem_of_mem_take h; exact List.mem_of_mem_drop h, by rw [← hl1, ← hl2, List.length_append, List.length_take, List.length_drop, HN.out]; omega⟩
        rw [hl1] at HS1
        rw [hl2] at HS2
        clear hl1 hl2
        go_upto_region 29 with (fail)
        refine wp_region_softX [AnyV, Is (.slice (some ⟨bt, 0, none⟩) N ct), Is (.int .i64 (i : Int)), Is (.slice (some ⟨bt, 0, none⟩) i ct), AnyV, Is (.slice (some ⟨bt, 0, none⟩) N ct), Is (.int .i64 (i : Int)), Is (.int .i64 (i1 : Int)), Is (.slice A2 (N - i1) (ct - i1)), AnyV, AnyV] ⟨stab_anyv, stab_is _, stab_is _, stab_is _, stab_anyv, stab_is _, stab_is _, stab_is _, stab_is _, stab_anyv, stab_anyv, trivial⟩ (fun k => w6.heap.size ≤ k) ⟨stabf_anyv _, stabf_is _ _, stabf_is _ _, stabf_is _ _, stabf_anyv _, stabf_is _ _, stabf_is _ _, stabf_is _ _, stabf_is _ _, stabf_anyv _, stabf_anyv _, trivial⟩ [true, false, false, false, true, false, false, false, false, true, true] (fun done vs W => CutX w6.heap.size l1 l2 i (N - i1) (done 0) (done 1) (done 4) (done 5) (done 9) (done 10) (vs 0) (vs 4) (vs 9) (vs 10) W) ?_ ?_ (by kernel_rfl) (by kernel_rfl) ?_ ?_
        · intro q hq done vs v W W' h hnd hb
          have n0 : upDn done q 0 = done 0 := up_ne done (fun e => by subst e; exact absurd hq (by decide))
          have n4 : upDn done q 4 = done 4 := up_ne done (fun e => by subst e; exact absurd hq (by decide))
          have n9 : upDn done q 9 = done 9 := up_ne done (fun e => by subst e; exact absurd hq (by decide))
          have n10 : upDn done q 10 = done 10 := up_ne done (fun e => by subst e; exact absurd hq (by decide))
          have m0 : upVs vs q v 0 = vs 0 := upv_ne vs v (fun e => by subst e; exact absurd hq (by decide))
          have m4 : upVs vs q v 4 = vs 4 := upv_ne vs v (fun e => by subst e; exact absurd hq (by decide))
          have m9 : upVs vs q v 9 = vs 9 := upv_ne vs v (fun e => by subst e; exact absurd hq (by decide))
          have m10 : upVs vs q v 10 = vs 10 := upv_ne vs v (fun e => by subst e; exact absurd hq (by decide))
          rw [n0, n4, n9, n10, m0, m4, m9, m10]
          exact (h.on hb).up (fun h => up_mono h) (fun h => up_mono h)
        · exact ⟨fun h => (by cases h), fun h => (by cases h), fun h => (by cases h), fun h => (by cases h), fun h => (by cases h), fun h => (by cases h), fun h => (by cases h)⟩
        · refine ⟨?_, ?_, ?_, ?_, ?_, ?_, ?_, ?_, ?_, ?_, ?_, trivial⟩
          all_goals intro done vs ac W1 hdep hnd hB hR hX hE
          all_goals try simp only [Nat.zero_add, Nat.reduceAdd] at hnd ⊢
          all_goals have ec : ∀ v : Value, ac.eval (.const v) = v := fun _ => rfl
          all_goals try simp [Region.binds] at hdep
          · have d4 : done 4 = false := not_of hX.o4 hnd
            have d9 : done 9 = false := not_of hX.o9 d4
            have d10 : done 10 = false := not_of (fun h => (hX.o10 h).1) d9
            refine wp_bs0 26 32 0 _ rfl #[] (by simp) #[] (bs_lt W1) ⟨_, rfl, (Fr.refl _ _).alloc _, ?_, trivial⟩
            obtain ⟨v', hv'⟩ : ∃ v', Value.slice (some ⟨W1.heap.size, 0, none⟩) 0 0 = v' := ⟨_, rfl⟩
            have hrow : (W1.alloc (.cells #[] 32)).ownsRow w6.heap.size 32 14 (Value.slice (some ⟨W1.heap.size, 0, none⟩) 0 0) 0 [] := own_empty (Blk.new _ _ _) hB.size
            rw [hv'] at hrow ⊢
            have n1 : upDn done 0 1 = done 1 := up_ne done (by decide)
            have n4 : upDn done 0 4 = done 4 := up_ne done (by decide)
            have n5 : upDn done 0 5 = done 5 := up_ne done (by decide)
            have n9 : upDn done 0 9 = done 9 := up_ne done (by decide)
            have n10 : upDn done 0 10 = done 10 := up_ne done (by decide)
            have m4 : upVs vs 0 v' 4 = vs 4 := upv_ne vs v' (by decide)
            have m9 : upVs vs 0 v' 9 = vs 9 := upv_ne vs v' (by decide)
            have m10 : upVs vs 0 v' 10 = vs 10 := upv_ne vs v' (by decide)
            rw [up_same, upv_same, n1, n4, n5, n9, n10, m4, m9, m10]
            rw [d4, d9, d10]
            exact ⟨fun _ _ => hrow, fun h => (by cases h), fun h => (by cases h), fun h => (by cases h), fun h => (by cases h), fun h => (by cases h), fun h => (by cases h)⟩
          · have dn10 : done 10 = false := not_of (fun h => (hX.o1 h).1) hnd
            have e5 : ac.eval (.tmp 5) = .slice (some ⟨bt, 0, none⟩) N ct := (hE 5 (by simp)).trans (by simp [evF, Act.eval, dn10])
            exact soft_value (.slice (some ⟨bt, 0, none⟩) N ct) (by unfold execOp; simp only [e5, ec]; rfl) rfl
          · have e13 : ac.eval (.tmp 13) = .int .i64 (i : Int) := (hE 13 (by simp)).trans (by simp [evF, Act.eval])
            exact soft_value (.int .i64 (i : Int)) (by unfold execOp; simp only [e13, ec]; rfl) rfl
          · have d1 : vs 1 = .slice (some ⟨bt, 0, none⟩) N ct := hR 1 (by simp [hdep])
            have e117 : ac.eval (.tmp 117) = .slice (some ⟨bt, 0, none⟩) N ct := (hE 117 (by simp)).trans (by simp [evF, hdep, d1])
            have d2 : vs 2 = .int .i64 (i : Int) := hR 2 (by simp [hdep])
            have e118 : ac.eval (.tmp 118) = .int .i64 (i : Int) := (hE 118 (by simp)).trans (by simp [evF, hdep, d2])
            exact soft_value (.slice (some ⟨bt, 0, none⟩) i ct) (by simp [execOp, e117, e118, sl_h W1 bt N ct i hic, Result.andThen]) rfl
          · have d0 : vs 0 = vs 0 := rfl
            have e116 : ac.eval (.tmp 116) = (vs 0) := (hE 116 (by simp)).trans (by simp [evF, hdep, d0])
            have d3 : vs 3 = .slice (some ⟨bt, 0, none⟩) i ct := hR 3 (by simp [hdep])
            have e119 : ac.eval (.tmp 119) = .slice (some ⟨bt, 0, none⟩) i ct := (hE 119 (by simp)).trans (by simp [evF, hdep, d3])
            have d9 : done 9 = false := not_of hX.o9 hnd
            have d10 : done 10 = false := not_of (fun h => (hX.o10 h).1) d9
            have d0t : done 0 = true := by simp [hdep]
            have ho := hX.c0 d0t hnd
            have hBb : Below w6.heap.size w6 W1 := hB.bel (Below.refl _ _) (fun k hk => hk) (Nat.le_refl _)
            refine wp_append_any W1 (.tmp 116) (.tmp 119) 26 rfl w6.heap.size 32 i0 _ 14 192 Try.underlying26 hi hz0 hz1 hz2 rfl hq0 (vs 0) 0 [] e116 ho W1.heap.size (some ⟨bt, 0, none⟩) i (ct) (l1.flatMap ltC) e119 ((HS1.out.below hBb).reads lt_len) (lts_one _) (by unfold maxLen; omega) (by omega) hB.size ?_
            intro v' w' ho' hg' hl'
            rw [Nat.zero_add, List.nil_append] at ho'
            refine ⟨_, rfl, (Fr.refl _ _).grown hg' (fun k hk => .inl (ho.lt k hk).1), ?_, trivial⟩
            have n0 : upDn done 4 0 = done 0 := up_ne done (by decide)
            have n1 : upDn done 4 1 = done 1 := up_ne done (by decide)
            have n5 : upDn done 4 5 = done 5 := up_ne done (by decide)
            have n9 : upDn done 4 9 = done 9 := up_ne done (by decide)
            have n10 : upDn done 4 10 = done 10 := up_ne done (by decide)
            have m0 : upVs vs 4 v' 0 = vs 0 := upv_ne vs v' (by decide)
            have m9 : upVs vs 4 v' 9 = vs 9 := upv_ne vs v' (by decide)
            have m10 : upVs vs 4 v' 10 = vs 10 := upv_ne vs v' (by decide)
            rw [up_same, upv_same, n0, n1, n5, n9, n10, m0, m9, m10]
            rw [d0t, d9, d10]
            exact ⟨fun _ h => (by cases h), fun _ _ => ho', fun h => (by cases h), fun _ => rfl, fun h => (by cases h), fun h => (by cases h), fun h => (by cases h)⟩
          · have dn10 : done 10 = false := not_of (fun h => (hX.o1 h).2) hnd
            have e5 : ac.eval (.tmp 5) = .slice (some ⟨bt, 0, none⟩) N ct := (hE 5 (by simp)).trans (by simp [evF, Act.eval, dn10])
            exact soft_value (.slice (some ⟨bt, 0, none⟩) N ct) (by unfold execOp; simp only [e5, ec]; rfl) rfl
          · have e13 : ac.eval (.tmp 13) = .int .i64 (i : Int) := (hE 13 (by simp)).trans (by simp [evF, Act.eval])
            exact soft_value (.int .i64 (i : Int)) (by unfold execOp; simp only [e13, ec]; rfl) rfl
          · have d6 : vs 6 = .int .i64 (i : Int) := hR 6 (by simp [hdep])
            have e122 : ac.eval (.tmp 122) = .int .i64 (i : Int) := (hE 122 (by simp)).trans (by simp [evF, hdep, d6])
            exact soft_value (.int .i64 (i1 : Int)) (by unfold execOp; simp only [e122, ec]; go_simp) rfl
          · have d5 : vs 5 = .slice (some ⟨bt, 0, none⟩) N ct := hR 5 (by simp [hdep])
            have e121 : ac.eval (.tmp 121) = .slice (some ⟨bt, 0, none⟩) N ct := (hE 121 (by simp)).trans (by simp [evF, hdep, d5])
            have d7 : vs 7 = .int .i64 (i1 : Int) := hR 7 (by simp [hdep])
            have e123 : ac.eval (.tmp 123) = .int .i64 (i1 : Int) := (hE 123 (by simp)).trans (by simp [evF, hdep, d7])
            have hsl := sl_l W1 bt N ct i1 hi1N
            rw [HA2.out] at hsl
            exact soft_value (.slice A2 (N - i1) (ct - i1)) (by simp [execOp, e121, e123, hsl, Result.andThen]) rfl
          · have d4 : vs 4 = vs 4 := rfl
            have e120 : ac.eval (.tmp 120) = (vs 4) := (hE 120 (by simp)).trans (by simp [evF, hdep, d4])
            have d8 : vs 8 = .slice A2 (N - i1) (ct - i1) := hR 8 (by simp [hdep])
            have e124 : ac.eval (.tmp 124) = .slice A2 (N - i1) (ct - i1) := (hE 124 (by simp)).trans (by simp [evF, hdep, d8])
            have d10 : done 10 = false := not_of (fun h => (hX.o10 h).1) hnd
            have d4t : done 4 = true := by simp [hdep]
            have d0t : done 0 = true := hX.o4 d4t
            have ho := hX.c4 d4t hnd
            have hBb : Below w6.heap.size w6 W1 := hB.bel (Below.refl _ _) (fun k hk => hk) (Nat.le_refl _)
            refine wp_append_any W1 (.tmp 120) (.tmp 124) 26 rfl w6.heap.size 32 i0 _ 14 192 Try.underlying26 hi hz0 hz1 hz2 rfl hq0 (vs 4) i (l1.flatMap ltC) e120 ho W1.heap.size (A2) (N - i1) (ct - i1) (l2.flatMap ltC) e124 ((HS2.out.below hBb).reads lt_len) (lts_one _) (by unfold maxLen; omega) (by omega) hB.size ?_
            intro v' w' ho' hg' hl'
            rw [← List.flatMap_append] at ho'
            refine ⟨_, rfl, (Fr.refl _ _).grown hg' (fun k hk => .inl (ho.lt k hk).1), ?_, trivial⟩
            have n0 : upDn done 9 0 = done 0 := up_ne done (by decide)
            have n1 : upDn done 9 1 = done 1 := up_ne done (by decide)
            have n4 : upDn done 9 4 = done 4 := up_ne done (by decide)
            have n5 : upDn done 9 5 = done 5 := up_ne done (by decide)
            have n10 : upDn done 9 10 = done 10 := up_ne done (by decide)
            have m0 : upVs vs 9 v' 0 = vs 0 := upv_ne vs v' (by decide)
            have m4 : upVs vs 9 v' 4 = vs 4 := upv_ne vs v' (by decide)
            have m10 : upVs vs 9 v' 10 = vs 10 := upv_ne vs v' (by decide)
            rw [up_same, upv_same, n0, n1, n4, n5, n10, m0, m4, m10]
            rw [d0t, d4t, d10]
            exact ⟨fun _ h => (by cases h), fun _ h => (by cases h), fun _ => ho', fun _ => rfl, fun _ => rfl, fun h => (by cases h), fun h => (by cases h)⟩
          · have d9 : vs 9 = vs 9 := rfl
            have e125 : ac.eval (.tmp 125) = (vs 9) := (hE 125 (by simp)).trans (by simp [evF, hdep, d9])
            have d9t : done 9 = true := by simp [hdep]
            have d4t : done 4 = true := hX.o9 d9t
            have d0t : done 0 = true := hX.o4 d4t
            obtain ⟨v', hv'⟩ : ∃ v', vs 9 = v' := ⟨_, rfl⟩
            refine wp_value (vs 9) (by unfold execOp; simp only [e125]; rfl) ⟨_, rfl, Fr.refl _ _, ?_, trivial⟩
            have hc9 := hX.c9 d9t
            rw [hv'] at hc9 ⊢
            have n0 : upDn done 10 0 = done 0 := up_ne done (by decide)
            have n1 : upDn done 10 1 = done 1 := up_ne done (by decide)
            have n4 : upDn done 10 4 = done 4 := up_ne done (by decide)
            have n5 : upDn done 10 5 = done 5 := up_ne done (by decide)
            have n9 : upDn done 10 9 = done 9 := up_ne done (by decide)
            have m0 : upVs vs 10 v' 0 = vs 0 := upv_ne vs v' (by decide)
            have m4 : upVs vs 10 v' 4 = vs 4 := upv_ne vs v' (by decide)
            have m9 : upVs vs 10 v' 9 = vs 9 := upv_ne vs v' (by decide)
            rw [up_same, upv_same, n0, n1, n4, n5, n9, m0, m4, m9]
            rw [d0t, d4t, d9t]
            exact ⟨fun _ h => (by cases h), fun _ h => (by cases h), fun _ => hv'.symm ▸ hc9, fun _ => rfl, fun _ => rfl, fun _ => ⟨rfl, hv'.symm⟩, fun _ => ⟨by simp [hdep], by simp [hdep]⟩⟩
        · intro done vs W hall hB hR hX
          have hBb : Below w6.heap.size w6 W := hB.bel (Below.refl _ _) (fun k hk => hk) (Nat.le_refl _)
          have ho9 := hX.c9 (hall 9 (by simp))
          have h10 := (hX.o10 (hall 10 (by simp))).2
          obtain ⟨A9, c9, hv9⟩ := own_slice ho9
          rw [hv9] at ho9 h10
          simp only [fillA, Act.put, List.setIfInBounds_toArray, List.set_cons_zero, List.set_cons_succ, if_true, h10]
          have HM7 : Hid (Mem w.heap.size w ga gma gb gmb bp tp se ac T S ow va (.slice A9 (i + (N - i1)) c9) (.slice Ab NB cb) (l1 ++ l2) bk m W) := Lib.hid (HM6.out.newT hBb (by rw [HSUB.out.2]; exact ho9))
          have HL7 := Lib.hid (HL.out.sub HSUB.out.1 (fun x hx => hx))
          have HW7 := Lib.hid (HW6.out.below hBb HW6.out.lt)
          have HX7 := Lib.hid (HX6.out.below hBb HX6.out.lt)
          clear hall hB hR hX hBb ho9 h10 hv9 HM6 HW6 HX6 HS1 HS2 HSA
          go_wp2_with ((refine stop_load 32 _ rfl ?_; refine wpList_load_want rfl 32 _ rfl gx rfl 32 _ _ HX7.out Try.underlying32 rfl (by kernel_rfl) ?_))
          refine (take_m HM7.out HL7.out (by omega) ⟨hj1, hj2⟩).mono ?_
          rintro e w8 ⟨rfl, T', m', hTT, _, hl8, hm8, _, hkp⟩
          have HM8 := Lib.hid hm8
          have HL8 := Lib.hid hl8
          have HW8 := Lib.hid (hkp _ _ HW7.out)
          clear hm8 hl8 hkp HM7 HL7 HW7 HX7 hTs
          have y0 := HW8.out.cell 0; have y1 := HW8.out.cell 1
          simp only [List.getElem?_toArray, List.getElem?_cons_zero, List.getElem?_cons_succ] at y0 y1
          have t0 := HM8.out.pt.cell 0
          simp only [List.getElem?_toArray, List.getElem?_cons_zero] at t0
          have hTs' : ¬ (se : Int) < (T' : Int) := by have := HL8.out.o3; omega
          go_wp2_with fail
          go_roundw
          case rel =>
            exact Lib.hid (lrel (k + 1) (se) (ac) (T') (S) (true) _ (l1 ++ l2) (bk) _ (by omega) (by omega) rfl (by go_num) (by rw [HSUB.out.2]; omega) (hlb4) HL8.out HM8.out)
          case measure => simp [intOf]; omega
      · as_aux_lemma =>
        skip
        by_cases h0 : 0 < N
        rotate_left
        · have h0' : ¬ (0 : Int) < (N : Int) := by omega
          have t0 := HM1.out.pt.cell 0
          simp only [List.getElem?_toArray, List.getElem?_cons_zero] at t0
          have hTs' : ¬ (se : Int) < (T : Int) := by have := HL.out.o3; omega
          go_wp2_with fail
          go_roundw
          case rel =>
            exact Lib.hid (lrel (k + 1) (se) (ac) (T) (S) (ow) _ (th) (bk) _ (by omega) (by omega) rfl (by go_num) (hlt4) (hlb4) HL.out HM1.out)
          case measure => simp [intOf]; omega
        have h0' : (0 : Int) < (N : Int) := by omega
        obtain ⟨i, hrem, hiN⟩ : ∃ i : Nat, Int.tmod nn (N : Int) = i ∧ i < N := by
          have h1 := Int.emod_nonneg nn (show (N : Int) ≠ 0 by omega)
          have h2 := Int.emod_lt_of_pos nn h0'
          exact ⟨(nn % (N : Int)).toNat, by rw [Int.tmod_eq_emod_of_nonneg v0]; omega, by omega⟩
        have hne0 : ((N : Int) == 0) = false := by simp; omega
        have hwn : IntKind.i64.wrap nn = nn := IntWalk.i64_in _ (by omega)
        have hwi : IntKind.i64.wrap (i : Int) = (i : Int) := IntWalk.i64_in _ (by omega)
        have hro : w5.ownsRow w.heap.size 32 14 (.slice At N ct) N (th.flatMap ltC) := by have := HM1.out.ot; rw [HN.out] at this; exact this
        obtain ⟨bt, c', hbv, hnc, hBb, hcm⟩ := own_addr hro h0
        injection hbv with hA1 _ hc1
        subst hA1 hc1
        have HSS := Lib.hid (SliceOf.of_own_s hro lt_len rfl HN.out)
        obtain ⟨b2, off2, x, hbo, hxk, hc⟩ := lt_at HSS.out hiN
        injection hbo with hbo
        injection hbo with hb2 ho2
        subst hb2 ho2
        simp only [Nat.zero_add] at hc
        have HXK := Lib.hid hxk
        obtain ⟨j, hj1, hj2, hxj⟩ := HL.out.tq x (List.mem_of_getElem? hxk)
        subst hxj
        have d0 := hc 0 _ rfl; have d1 := hc 1 _ rfl; have d2 := hc 2 _ rfl; have d3 := hc 3 _ rfl; have d4 := hc 4 _ rfl; have d5 := hc 5 _ rfl; have d6 := hc 6 _ rfl; have d7 := hc 7 _ rfl; have d8 := hc 8 _ rfl; have d9 := hc 9 _ rfl; have d10 := hc 10 _ rfl; have d11 := hc 11 _ rfl; have d12 := hc 12 _ rfl; have d13 := hc 13 _ rfl
        rw [Nat.add_zero] at d0
        have HX6 := Lib.hid (Blk.new w5 32 #[.string (Ll j).fr, .string (Ll j).dst, .int .i64 (Ll j).num, .int .i64 (Ll j).kind, .int .i64 (Ll j).ack, .string ⟨#[]⟩, .string ⟨#[]⟩, .string ⟨#[]⟩, .int .i64 (Ll j).idx, .int .i64 0, .string ⟨#[]⟩, .int .i64 0, .slice none 0 0, .slice none 0 0])
        have HM6 := Lib.hid (HM1.out.on (one_alloc w5 (.cells #[.string (Ll j).fr, .string (Ll j).dst, .int .i64 (Ll j).num, .int .i64 (Ll j).kind, .int .i64 (Ll j).ack, .string ⟨#[]⟩, .string ⟨#[]⟩, .string ⟨#[]⟩, .int .i64 (Ll j).idx, .int .i64 0, .string ⟨#[]⟩, .int .i64 0, .slice none 0 0, .slice none 0 0] 32)))
        have HW6 := Lib.hid (HWy.out.below (one_alloc w5 (.cells #[.string (Ll j).fr, .string (Ll j).dst, .int .i64 (Ll j).num, .int .i64 (Ll j).kind, .int .i64 (Ll j).ack, .string ⟨#[]⟩, .string ⟨#[]⟩, .string ⟨#[]⟩, .int .i64 (Ll j).idx, .int .i64 0, .string ⟨#[]⟩, .int .i64 0, .slice none 0 0, .slice none 0 0] 32)) HWy.out.lt)
        have HSA := Lib.hid (HSS.out.below (one_alloc w5 (.cells #[.string (Ll j).fr, .string (Ll j).dst, .int .i64 (Ll j).num, .int .i64 (Ll j).kind, .int .i64 (Ll j).ack, .string ⟨#[]⟩, .string ⟨#[]⟩, .string ⟨#[]⟩, .int .i64 (Ll j).idx, .int .i64 0, .string ⟨#[]⟩, .int .i64 0, .slice none 0 0, .slice none 0 0] 32)))
        clear hxk hc hro
        go_upto_region 28 with ((refine stop_store 32 _ _ rfl ?_; refine wpList_store_new rfl 32 _ _ rfl _ rfl rfl (by kernel_rfl) rfl rfl ?_))
        obtain ⟨w6, hw6⟩ : ∃ W, w5.alloc (.cells #[.string (Ll j).fr, .string (Ll j).dst, .int .i64 (Ll j).num, .int .i64 (Ll j).kind, .int .i64 (Ll j).ack, .string ⟨#[]⟩, .string ⟨#[]⟩, .string ⟨#[]⟩, .int .i64 (Ll j).idx, .int .i64 0, .string ⟨#[]⟩, .int .i64 0, .slice none 0 0, .slice none 0 0] 32) = W := ⟨_, rfl⟩
        obtain ⟨gx, hgx⟩ : ∃ g, w5.heap.size = g := ⟨_, rfl⟩
        rw [hw6] at HX6 HM6 HW6 HSA ⊢
        rw [hgx] at HX6
        simp only [hgx]
        clear d0 d1 d2 d3 d4 d5 d6 d7 d8 d9 d10 d11 d12 d13
        clear hw6 hgx HM1 HWy y0 y1 HSS
        have hic : i ≤ ct := by omega
        obtain ⟨i1, hi1⟩ : ∃ i1, i + 1 = i1 := ⟨_, rfl⟩
        have hi1N : i1 ≤ N := by omega
        have hqi : IntKind.i64.wrap ((i : Int) + 1) = (i1 : Int) := by rw [← hi1]; exact IntWalk.i64_in _ (by omega)
        have HS1 := Lib.hid (HSA.out.take_ (k := i) (by omega))
        have HS2 := Lib.hid (HSA.out.drop_ hi1N hnc)
        obtain ⟨A2, hA2⟩ : ∃ A2, (if ct = i1 then some ⟨bt, 0, none⟩ else (some ⟨bt, 0, none⟩ : Option Addr).map (·.add (i1 * 14))) = A2 := ⟨_, rfl⟩
        rw [hA2] at HS2
        have HA2 := Lib.hid hA2
        clear hA2
        obtain ⟨l1, hl1⟩ : ∃ l, th.take i = l := ⟨_, rfl⟩
        obtain ⟨l2, hl2⟩ : ∃ l, th.drop i1 = l := ⟨_, rfl⟩
        have HSUB : Hid ((∀ x ∈ l1 ++ l2, x ∈ th) ∧ (l1 ++ l2).length = i + (N - i1)) := Lib.hid ⟨by rw [← hl1, ← hl2]; intro x hx; rcases List.mem_append.1 hx with h | h; exact List.mem_of_mem_take h; exact List.mem_of_mem_drop h, by rw [← hl1, ← hl2, List.length_append, List.length_take, List.length_drop, HN.out]; omega⟩
        rw [hl1] at HS1
        rw [hl2] at HS2
        clear hl1 hl2
        go_upto_region 29 with (fail)
        refine wp_region_softX [AnyV, Is (.slice (some ⟨bt, 0, none⟩) N ct), Is (.int .i64 (i : Int)), Is (.slice (some ⟨bt, 0, none⟩) i ct), AnyV, Is (.slice (some ⟨bt, 0, none⟩) N ct), Is (.int .i64 (i : Int)), Is (.int .i64 (i1 : Int)), Is (.slice A2 (N - i1) (ct - i1)), AnyV, AnyV] ⟨stab_anyv, stab_is _, stab_is _, stab_is _, stab_anyv, stab_is _, stab_is _, stab_is _, stab_is _, stab_anyv, stab_anyv, trivial⟩ (fun k => w6.heap.size ≤ k) ⟨stabf_anyv _, stabf_is _ _, stabf_is _ _, stabf_is _ _, stabf_anyv _, stabf_is _ _, stabf_is _ _, stabf_is _ _, stabf_is _ _, stabf_anyv _, stabf_anyv _, trivial⟩ [true, false, false, false, true, false, false, false, false, true, true] (fun done vs W => CutX w6.heap.size l1 l2 i (N - i1) (done 0) (done 1) (done 4) (done 5) (done 9) (done 10) (vs 0) (vs 4) (vs 9) (vs 10) W) ?_ ?_ (by kernel_rfl) (by kernel_rfl) ?_ ?_
        · intro q hq done vs v W W' h hnd hb
          have n0 : upDn done q 0 = done 0 := up_ne done (fun e => by subst e; exact absurd hq (by decide))
          have n4 : upDn done q 4 = done 4 := up_ne done (fun e => by subst e; exact absurd hq (by decide))
          have n9 : upDn done q 9 = done 9 := up_ne done (fun e => by subst e; exact absurd hq (by decide))
          have n10 : upDn done q 10 = done 10 := up_ne done (fun e => by subst e; exact absurd hq (by decide))
          have m0 : upVs vs q v 0 = vs 0 := upv_ne vs v (fun e => by subst e; exact absurd hq (by decide))
          have m4 : upVs vs q v 4 = vs 4 := upv_ne vs v (fun e => by subst e; exact absurd hq (by decide))
          have m9 : upVs vs q v 9 = vs 9 := upv_ne vs v (fun e => by subst e; exact absurd hq (by decide))
          have m10 : upVs vs q v 10 = vs 10 := upv_ne vs v (fun e => by subst e; exact absurd hq (by decide))
          rw [n0, n4, n9, n10, m0, m4, m9, m10]
          exact (h.on hb).up (fun h => up_mono h) (fun h => up_mono h)
        · exact ⟨fun h => (by cases h), fun h => (by cases h), fun h => (by cases h), fun h => (by cases h), fun h => (by cases h), fun h => (by cases h), fun h => (by cases h)⟩
        · refine ⟨?_, ?_, ?_, ?_, ?_, ?_, ?_, ?_, ?_, ?_, ?_, trivial⟩
          all_goals intro done vs ac W1 hdep hnd hB hR hX hE
          all_goals try simp only [Nat.zero_add, Nat.reduceAdd] at hnd ⊢
          all_goals have ec : ∀ v : Value, ac.eval (.const v) = v := fun _ => rfl
          all_goals try simp [Region.binds] at hdep
          · have d4 : done 4 = false := not_of hX.o4 hnd
            have d9 : done 9 = false := not_of hX.o9 d4
            have d10 : done 10 = false := not_of (fun h => (hX.o10 h).1) d9
            refine wp_bs0 26 32 0 _ rfl #[] (by simp) #[] (bs_lt W1) ⟨_, rfl, (Fr.refl _ _).alloc _, ?_, trivial⟩
            obtain ⟨v', hv'⟩ : ∃ v', Value.slice (some ⟨W1.heap.size, 0, none⟩) 0 0 = v' := ⟨_, rfl⟩
            have hrow : (W1.alloc (.cells #[] 32)).ownsRow w6.heap.size 32 14 (Value.slice (some ⟨W1.heap.size, 0, none⟩) 0 0) 0 [] := own_empty (Blk.new _ _ _) hB.size
            rw [hv'] at hrow ⊢
            have n1 : upDn done 0 1 = done 1 := up_ne done (by decide)
            have n4 : upDn done 0 4 = done 4 := up_ne done (by decide)
            have n5 : upDn done 0 5 = done 5 := up_ne done (by decide)
            have n9 : upDn done 0 9 = done 9 := up_ne done (by decide)
            have n10 : upDn done 0 10 = done 10 := up_ne done (by decide)
            have m4 : upVs vs 0 v' 4 = vs 4 := upv_ne vs v' (by decide)
            have m9 : upVs vs 0 v' 9 = vs 9 := upv_ne vs v' (by decide)
            have m10 : upVs vs 0 v' 10 = vs 10 := upv_ne vs v' (by decide)
            rw [up_same, upv_same, n1, n4, n5, n9, n10, m4, m9, m10]
            rw [d4, d9, d10]
            exact ⟨fun _ _ => hrow, fun h => (by cases h), fun h => (by cases h), fun h => (by cases h), fun h => (by cases h), fun h => (by cases h), fun h => (by cases h)⟩
          · have dn10 : done 10 = false := not_of (fun h => (hX.o1 h).1) hnd
            have e5 : ac.eval (.tmp 5) = .slice (some ⟨bt, 0, none⟩) N ct := (hE 5 (by simp)).trans (by simp [evF, Act.eval, dn10])
            exact soft_value (.slice (some ⟨bt, 0, none⟩) N ct) (by unfold execOp; simp only [e5, ec]; rfl) rfl
          · have e13 : ac.eval (.tmp 13) = .int .i64 (i : Int) := (hE 13 (by simp)).trans (by simp [evF, Act.eval])
            exact soft_value (.int .i64 (i : Int)) (by unfold execOp; simp only [e13, ec]; rfl) rfl
          · have d1 : vs 1 = .slice (some ⟨bt, 0, none⟩) N ct := hR 1 (by simp [hdep])
            have e117 : ac.eval (.tmp 117) = .slice (some ⟨bt, 0, none⟩) N ct := (hE 117 (by simp)).trans (by simp [evF, hdep, d1])
            have d2 : vs 2 = .int .i64 (i : Int) := hR 2 (by simp [hdep])
            have e118 : ac.eval (.tmp 118) = .int .i64 (i : Int) := (hE 118 (by simp)).trans (by simp [evF, hdep, d2])
            exact soft_value (.slice (some ⟨bt, 0, none⟩) i ct) (by simp [execOp, e117, e118, sl_h W1 bt N ct i hic, Result.andThen]) rfl
          · have d0 : vs 0 = vs 0 := rfl
            have e116 : ac.eval (.tmp 116) = (vs 0) := (hE 116 (by simp)).trans (by simp [evF, hdep, d0])
            have d3 : vs 3 = .slice (some ⟨bt, 0, none⟩) i ct := hR 3 (by simp [hdep])
            have e119 : ac.eval (.tmp 119) = .slice (some ⟨bt, 0, none⟩) i ct := (hE 119 (by simp)).trans (by simp [evF, hdep, d3])
            have d9 : done 9 = false := not_of hX.o9 hnd
            have d10 : done 10 = false := not_of (fun h => (hX.o10 h).1) d9
            have d0t : done 0 = true := by simp [hdep]
            have ho := hX.c0 d0t hnd
            have hBb : Below w6.heap.size w6 W1 := hB.bel (Below.refl _ _) (fun k hk => hk) (Nat.le_refl _)
            refine wp_append_any W1 (.tmp 116) (.tmp 119) 26 rfl w6.heap.size 32 i0 _ 14 192 Try.underlying26 hi hz0 hz1 hz2 rfl hq0 (vs 0) 0 [] e116 ho W1.heap.size (some ⟨bt, 0, none⟩) i (ct) (l1.flatMap ltC) e119 ((HS1.out.below hBb).reads lt_len) (lts_one _) (by unfold maxLen; omega) (by omega) hB.size ?_
            intro v' w' ho' hg' hl'
            rw [Nat.zero_add, List.nil_append] at ho'
            refine ⟨_, rfl, (Fr.refl _ _).grown hg' (fun k hk => .inl (ho.lt k hk).1), ?_, trivial⟩
            have n0 : upDn done 4 0 = done 0 := up_ne done (by decide)
            have n1 : upDn done 4 1 = done 1 := up_ne done (by decide)
            have n5 : upDn done 4 5 = done 5 := up_ne done (by decide)
            have n9 : upDn done 4 9 = done 9 := up_ne done (by decide)
            have n10 : upDn done 4 10 = done 10 := up_ne done (by decide)
            have m0 : upVs vs 4 v' 0 = vs 0 := upv_ne vs v' (by decide)
            have m9 : upVs vs 4 v' 9 = vs 9 := upv_ne vs v' (by decide)
            have m10 : upVs vs 4 v' 10 = vs 10 := upv_ne vs v' (by decide)
            rw [up_same, upv_same, n0, n1, n5, n9, n10, m0, m9, m10]
            rw [d0t, d9, d10]
            exact ⟨fun _ h => (by cases h), fun _ _ => ho', fun h => (by cases h), fun _ => rfl, fun h => (by cases h), fun h => (by cases h), fun h => (by cases h)⟩
          · have dn10 : done 10 = false := not_of (fun h => (hX.o1 h).2) hnd
            have e5 : ac.eval (.tmp 5) = .slice (some ⟨bt, 0, none⟩) N ct := (hE 5 (by simp)).trans (by simp [evF, Act.eval, dn10])
            exact soft_value (.slice (some ⟨bt, 0, none⟩) N ct) (by unfold execOp; simp only [e5, ec]; rfl) rfl
          · have e13 : ac.eval (.tmp 13) = .int .i64 (i : Int) := (hE 13 (by simp)).trans (by simp [evF, Act.eval])
            exact soft_value (.int .i64 (i : Int)) (by unfold execOp; simp only [e13, ec]; rfl) rfl
          · have d6 : vs 6 = .int .i64 (i : Int) := hR 6 (by simp [hdep])
            have e122 : ac.eval (.tmp 122) = .int .i64 (i : Int) := (hE 122 (by simp)).trans (by simp [evF, hdep, d6])
            exact soft_value (.int .i64 (i1 : Int)) (by unfold execOp; simp only [e122, ec]; go_simp) rfl
          · have d5 : vs 5 = .slice (some ⟨bt, 0, none⟩) N ct := hR 5 (by simp [hdep])
            have e121 : ac.eval (.tmp 121) = .slice (some ⟨bt, 0, none⟩) N ct := (hE 121 (by simp)).trans (by simp [evF, hdep, d5])
            have d7 : vs 7 = .int .i64 (i1 : Int) := hR 7 (by simp [hdep])
            have e123 : ac.eval (.tmp 123) = .int .i64 (i1 : Int) := (hE 123 (by simp)).trans (by simp [evF, hdep, d7])
            have hsl := sl_l W1 bt N ct i1 hi1N
            rw [HA2.out] at hsl
            exact soft_value (.slice A2 (N - i1) (ct - i1)) (by simp [execOp, e121, e123, hsl, Result.andThen]) rfl
          · have d4 : vs 4 = vs 4 := rfl
            have e120 : ac.eval (.tmp 120) = (vs 4) := (hE 120 (by simp)).trans (by simp [evF, hdep, d4])
            have d8 : vs 8 = .slice A2 (N - i1) (ct - i1) := hR 8 (by simp [hdep])
            have e124 : ac.eval (.tmp 124) = .slice A2 (N - i1) (ct - i1) := (hE 124 (by simp)).trans (by simp [evF, hdep, d8])
            have d10 : done 10 = false := not_of (fun h => (hX.o10 h).1) hnd
            have d4t : done 4 = true := by simp [hdep]
            have d0t : done 0 = true := hX.o4 d4t
            have ho := hX.c4 d4t hnd
            have hBb : Below w6.heap.size w6 W1 := hB.bel (Below.refl _ _) (fun k hk => hk) (Nat.le_refl _)
            refine wp_append_any W1 (.tmp 120) (.tmp 124) 26 rfl w6.heap.size 32 i0 _ 14 192 Try.underlying26 hi hz0 hz1 hz2 rfl hq0 (vs 4) i (l1.flatMap ltC) e120 ho W1.heap.size (A2) (N - i1) (ct - i1) (l2.flatMap ltC) e124 ((HS2.out.below hBb).reads lt_len) (lts_one _) (by unfold maxLen; omega) (by omega) hB.size ?_
            intro v' w' ho' hg' hl'
            rw [← List.flatMap_append] at ho'
            refine ⟨_, rfl, (Fr.refl _ _).grown hg' (fun k hk => .inl (ho.lt k hk).1), ?_, trivial⟩
            have n0 : upDn done 9 0 = done 0 := up_ne done (by decide)
            have n1 : upDn done 9 1 = done 1 := up_ne done (by decide)
            have n4 : upDn done 9 4 = done 4 := up_ne done (by decide)
            have n5 : upDn done 9 5 = done 5 := up_ne done (by decide)
            have n10 : upDn done 9 10 = done 10 := up_ne done (by decide)
            have m0 : upVs vs 9 v' 0 = vs 0 := upv_ne vs v' (by decide)
            have m4 : upVs vs 9 v' 4 = vs 4 := upv_ne vs v' (by decide)
            have m10 : upVs vs 9 v' 10 = vs 10 := upv_ne vs v' (by decide)
            rw [up_same, upv_same, n0, n1, n4, n5, n10, m0, m4, m10]
            rw [d0t, d4t, d10]
            exact ⟨fun _ h => (by cases h), fun _ h => (by cases h), fun _ => ho', fun _ => rfl, fun _ => rfl, fun h => (by cases h), fun h => (by cases h)⟩
          · have d9 : vs 9 = vs 9 := rfl
            have e125 : ac.eval (.tmp 125) = (vs 9) := (hE 125 (by simp)).trans (by simp [evF, hdep, d9])
            have d9t : done 9 = true := by simp [hdep]
            have d4t : done 4 = true := hX.o9 d9t
            have d0t : done 0 = true := hX.o4 d4t
            obtain ⟨v', hv'⟩ : ∃ v', vs 9 = v' := ⟨_, rfl⟩
            refine wp_value (vs 9) (by unfold execOp; simp only [e125]; rfl) ⟨_, rfl, Fr.refl _ _, ?_, trivial⟩
            have hc9 := hX.c9 d9t
            rw [hv'] at hc9 ⊢
            have n0 : upDn done 10 0 = done 0 := up_ne done (by decide)
            have n1 : upDn done 10 1 = done 1 := up_ne done (by decide)
            have n4 : upDn done 10 4 = done 4 := up_ne done (by decide)
            have n5 : upDn done 10 5 = done 5 := up_ne done (by decide)
            have n9 : upDn done 10 9 = done 9 := up_ne done (by decide)
            have m0 : upVs vs 10 v' 0 = vs 0 := upv_ne vs v' (by decide)
            have m4 : upVs vs 10 v' 4 = vs 4 := upv_ne vs v' (by decide)
            have m9 : upVs vs 10 v' 9 = vs 9 := upv_ne vs v' (by decide)
            rw [up_same, upv_same, n0, n1, n4, n5, n9, m0, m4, m9]
            rw [d0t, d4t, d9t]
            exact ⟨fun _ h => (by cases h), fun _ h => (by cases h), fun _ => hv'.symm ▸ hc9, fun _ => rfl, fun _ => rfl, fun _ => ⟨rfl, hv'.symm⟩, fun _ => ⟨by simp [hdep], by simp [hdep]⟩⟩
        · intro done vs W hall hB hR hX
          have hBb : Below w6.heap.size w6 W := hB.bel (Below.refl _ _) (fun k hk => hk) (Nat.le_refl _)
          have ho9 := hX.c9 (hall 9 (by simp))
          have h10 := (hX.o10 (hall 10 (by simp))).2
          obtain ⟨A9, c9, hv9⟩ := own_slice ho9
          rw [hv9] at ho9 h10
          simp only [fillA, Act.put, List.setIfInBounds_toArray, List.set_cons_zero, List.set_cons_succ, if_true, h10]
          have HM7 : Hid (Mem w.heap.size w ga gma gb gmb bp tp se ac T S ow va (.slice A9 (i + (N - i1)) c9) (.slice Ab NB cb) (l1 ++ l2) bk m W) := Lib.hid (HM6.out.newT hBb (by rw [HSUB.out.2]; exact ho9))
          have HL7 := Lib.hid (HL.out.sub HSUB.out.1 (fun x hx => hx))
          have HW7 := Lib.hid (HW6.out.below hBb HW6.out.lt)
          have HX7 := Lib.hid (HX6.out.below hBb HX6.out.lt)
          clear hall hB hR hX hBb ho9 h10 hv9 HM6 HW6 HX6 HS1 HS2 HSA
          have y0 := HW7.out.cell 0; have y1 := HW7.out.cell 1
          simp only [List.getElem?_toArray, List.getElem?_cons_zero, List.getElem?_cons_succ] at y0 y1
          have t0 := HM7.out.pt.cell 0
          simp only [List.getElem?_toArray, List.getElem?_cons_zero] at t0
          have hTs' : ¬ (se : Int) < (T : Int) := by have := HL7.out.o3; omega
          go_wp2_with fail
          go_roundw
          case rel =>
            exact Lib.hid (lrel (k + 1) (se) (ac) (T) (S) (ow) _ (l1 ++ l2) (bk) _ (by omega) (by omega) rfl (by go_num) (by rw [HSUB.out.2]; omega) (hlb4) HL7.out HM7.out)
          case measure => simp [intOf]; omega
      · as_aux_lemma =>
        skip
        by_cases h0 : 0 < N
        rotate_left
        · have h0' : ¬ (0 : Int) < (N : Int) := by omega
          have t0 := HM1.out.pt.cell 0
          simp only [List.getElem?_toArray, List.getElem?_cons_zero] at t0
          have hTs' : ¬ (se : Int) < (T : Int) := by have := HL.out.o3; omega
          go_wp2_with fail
          go_roundw
          case rel =>
            exact Lib.hid (lrel (k + 1) (se) (ac) (T) (S) (ow) _ (th) (bk) _ (by omega) (by omega) rfl (by go_num) (hlt4) (hlb4) HL.out HM1.out)
          case measure => simp [intOf]; omega
        have h0' : (0 : Int) < (N : Int) := by omega
        obtain ⟨i, hrem, hiN⟩ : ∃ i : Nat, Int.tmod nn (N : Int) = i ∧ i < N := by
          have h1 := Int.emod_nonneg nn (show (N : Int) ≠ 0 by omega)
          have h2 := Int.emod_lt_of_pos nn h0'
          exact ⟨(nn % (N : Int)).toNat, by rw [Int.tmod_eq_emod_of_nonneg v0]; omega, by omega⟩
        have hne0 : ((N : Int) == 0) = false := by simp; omega
        have hwn : IntKind.i64.wrap nn = nn := IntWalk.i64_in _ (by omega)
        have hwi : IntKind.i64.wrap (i : Int) = (i : Int) := IntWalk.i64_in _ (by omega)
        have hro : w5.ownsRow w.heap.size 32 14 (.slice At N ct) N (th.flatMap ltC) := by have := HM1.out.ot; rw [HN.out] at this; exact this
        obtain ⟨bt, c', hbv, hnc, hBb, hcm⟩ := own_addr hro h0
        injection hbv with hA1 _ hc1
        subst hA1 hc1
        have HSS := Lib.hid (SliceOf.of_own_s hro lt_len rfl HN.out)
        obtain ⟨b2, off2, x, hbo, hxk, hc⟩ := lt_at HSS.out hiN
        injection hbo with hbo
        injection hbo with hb2 ho2
        subst hb2 ho2
        simp only [Nat.zero_add] at hc
        have HXK := Lib.hid hxk
        obtain ⟨j, hj1, hj2, hxj⟩ := HL.out.tq x (List.mem_of_getElem? hxk)
        subst hxj
        have d0 := hc 0 _ rfl; have d1 := hc 1 _ rfl; have d2 := hc 2 _ rfl; have d3 := hc 3 _ rfl; have d4 := hc 4 _ rfl; have d5 := hc 5 _ rfl; have d6 := hc 6 _ rfl; have d7 := hc 7 _ rfl; have d8 := hc 8 _ rfl; have d9 := hc 9 _ rfl; have d10 := hc 10 _ rfl; have d11 := hc 11 _ rfl; have d12 := hc 12 _ rfl; have d13 := hc 13 _ rfl
        rw [Nat.add_zero] at d0
        have HX6 := Lib.hid (Blk.new w5 32 #[.string (Ll j).fr, .string (Ll j).dst, .int .i64 (Ll j).num, .int .i64 (Ll j).kind, .int .i64 (Ll j).ack, .string ⟨#[]⟩, .string ⟨#[]⟩, .string ⟨#[]⟩, .int .i64 (Ll j).idx, .int .i64 0, .string ⟨#[]⟩, .int .i64 0, .slice none 0 0, .slice none 0 0])
        have HM6 := Lib.hid (HM1.out.on (one_alloc w5 (.cells #[.string (Ll j).fr, .string (Ll j).dst, .int .i64 (Ll j).num, .int .i64 (Ll j).kind, .int .i64 (Ll j).ack, .string ⟨#[]⟩, .string ⟨#[]⟩, .string ⟨#[]⟩, .int .i64 (Ll j).idx, .int .i64 0, .string ⟨#[]⟩, .int .i64 0, .slice none 0 0, .slice none 0 0] 32)))
        have HW6 := Lib.hid (HWy.out.below (one_alloc w5 (.cells #[.string (Ll j).fr, .string (Ll j).dst, .int .i64 (Ll j).num, .int .i64 (Ll j).kind, .int .i64 (Ll j).ack, .string ⟨#[]⟩, .string ⟨#[]⟩, .string ⟨#[]⟩, .int .i64 (Ll j).idx, .int .i64 0, .string ⟨#[]⟩, .int .i64 0, .slice none 0 0, .slice none 0 0] 32)) HWy.out.lt)
        have HSA := Lib.hid (HSS.out.below (one_alloc w5 (.cells #[.string (Ll j).fr, .string (Ll j).dst, .int .i64 (Ll j).num, .int .i64 (Ll j).kind, .int .i64 (Ll j).ack, .string ⟨#[]⟩, .string ⟨#[]⟩, .string ⟨#[]⟩, .int .i64 (Ll j).idx, .int .i64 0, .string ⟨#[]⟩, .int .i64 0, .slice none 0 0, .slice none 0 0] 32)))
        clear hxk hc hro
        go_upto_region 28 with ((refine stop_store 32 _ _ rfl ?_; refine wpList_store_new rfl 32 _ _ rfl _ rfl rfl (by kernel_rfl) rfl rfl ?_))
        obtain ⟨w6, hw6⟩ : ∃ W, w5.alloc (.cells #[.string (Ll j).fr, .string (Ll j).dst, .int .i64 (Ll j).num, .int .i64 (Ll j).kind, .int .i64 (Ll j).ack, .string ⟨#[]⟩, .string ⟨#[]⟩, .string ⟨#[]⟩, .int .i64 (Ll j).idx, .int .i64 0, .string ⟨#[]⟩, .int .i64 0, .slice none 0 0, .slice none 0 0] 32) = W := ⟨_, rfl⟩
        obtain ⟨gx, hgx⟩ : ∃ g, w5.heap.size = g := ⟨_, rfl⟩
        rw [hw6] at HX6 HM6 HW6 HSA ⊢
        rw [hgx] at HX6
        simp only [hgx]
        clear d0 d1 d2 d3 d4 d5 d6 d7 d8 d9 d10 d11 d12 d13
        clear hw6 hgx HM1 HWy y0 y1 HSS
        go_wp2_with ((refine stop_load 32 _ rfl ?_; refine wpList_load_want rfl 32 _ rfl gx rfl 32 _ _ HX6.out Try.underlying32 rfl (by kernel_rfl) ?_))
        refine (take_m HM6.out HL.out (by omega) ⟨hj1, hj2⟩).mono ?_
        rintro e w8 ⟨rfl, T', m', hTT, _, hl8, hm8, _, hkp⟩
        have HM8 := Lib.hid hm8
        have HL8 := Lib.hid hl8
        have HW8 := Lib.hid (hkp _ _ HW6.out)
        clear hm8 hl8 hkp HM6 HW6 HX6 hTs HSA
        have y0 := HW8.out.cell 0; have y1 := HW8.out.cell 1
        simp only [List.getElem?_toArray, List.getElem?_cons_zero, List.getElem?_cons_succ] at y0 y1
        have t0 := HM8.out.pt.cell 0
        simp only [List.getElem?_toArray, List.getElem?_cons_zero] at t0
        have hTs' : ¬ (se : Int) < (T' : Int) := by have := HL8.out.o3; omega
        go_wp2_with fail
        go_roundw
        case rel =>
          exact Lib.hid (lrel (k + 1) (se) (ac) (T') (S) (true) _ (th) (bk) _ (by omega) (by omega) rfl (by go_num) (hlt4) (hlb4) HL8.out HM8.out)
        case measure => simp [intOf]; omega
      · as_aux_lemma =>
        skip
        go_upto_region 20 with (fail)
        refine wp_region_soft_last [Is (.pointer (some ⟨gb, 0, none⟩)), Is (.pointer (some ⟨gb, 0, none⟩)), Is (.int .i64 (T : Int)), AnyV] ⟨stab_is _, stab_is _, stab_is _, stab_anyv, trivial⟩ (by kernel_rfl) (by kernel_rfl) (by kernel_rfl) (Nat.zero_lt_succ _) ?_
        refine ⟨?_, ?_, ?_, ?_⟩
        all_goals intro done vs ac_ W1 hdep hB hR hE
        · have e4 : ac_.eval (.tmp 4) = (.pointer (some ⟨bp, 0, none⟩)) := (hE 4 (by simp)).trans (by simp [evF, Act.eval])
          have hp : W1.cell? ⟨bp, 0, none⟩ = some (.pointer (some ⟨gb, 0, none⟩)) := (HM1.out.pb.below hB HM1.out.pb.lt).cell 0
          exact soft_value (.pointer (some ⟨gb, 0, none⟩)) (by unfold execOp; simp only [e4]; go_simp) rfl
        · have e4 : ac_.eval (.tmp 4) = (.pointer (some ⟨bp, 0, none⟩)) := (hE 4 (by simp)).trans (by simp [evF, Act.eval])
          have hp : W1.cell? ⟨bp, 0, none⟩ = some (.pointer (some ⟨gb, 0, none⟩)) := (HM1.out.pb.below hB HM1.out.pb.lt).cell 0
          exact soft_value (.pointer (some ⟨gb, 0, none⟩)) (by unfold execOp; simp only [e4]; go_simp) rfl
        · simp [Region.binds] at hdep
          have d1 : vs 1 = (.pointer (some ⟨gb, 0, none⟩)) := hR 1 (by simp [hdep])
          have e2 : ac_.eval (.tmp 74) = (.pointer (some ⟨gb, 0, none⟩)) := (hE 74 (by simp)).trans (by simp [evF, hdep, d1])
          refine soft_call 13 _ _ rfl (enters_fn Try.func13 (by kernel_rfl) rfl) #[(.pointer (some ⟨gb, 0, none⟩))] (by simp [e2]) ?_
          refine (got_m (HM1.out.on hB)).mono ?_
          rintro e9 w9 ⟨rfl, rfl⟩
          exact ⟨_, rfl, Below.refl _ _, rfl⟩
        · have d0 : vs 0 = (.pointer (some ⟨gb, 0, none⟩)) := hR 0 (by omega)
          have d2 : vs 2 = .int .i64 (T : Int) := hR 2 (by omega)
          have e1 : ac_.eval (.tmp 73) = (.pointer (some ⟨gb, 0, none⟩)) := (hE 73 (by simp)).trans (by simp [evF, hdep 0 (by omega), d0])
          have e3 : ac_.eval (.tmp 75) = .int .i64 (T : Int) := (hE 75 (by simp)).trans (by simp [evF, hdep 2 (by omega), d2])
          refine wp_call_fn 12 _ _ rfl (enters_fn Try.func12 (by kernel_rfl) rfl) #[(.pointer (some ⟨gb, 0, none⟩)), .int .i64 (T : Int)] (by simp [e1, e3]) ?_
          refine (sure_m (HM1.out.on hB) HL.out).mono ?_
          rintro e9 w6 ⟨rfl, hkp, hm6⟩
          refine ⟨_, rfl, _, rfl, ?_⟩
          simp only [fillA, Act.put, List.setIfInBounds_toArray, List.set_cons_zero, List.set_cons_succ, if_true]
          have HM6 := Lib.hid hm6
          have HL6 := Lib.hid HL.out.sure
          have HW6 := Lib.hid (hkp _ _ (HWy.out.below hB HWy.out.lt))
          clear hm6 hkp hE hR hB hdep d0 d2 e1 e3 HM1 HWy y0 y1
          have p0 := HM6.out.pb.cell 0
          simp only [List.getElem?_toArray, List.getElem?_cons_zero] at p0
          go_wp2_with fail
          refine (due_bm HM6.out).mono ?_
          rintro e w7 ⟨Ad, cd, rfl, hd, hfresh, hm7, hsz, hkp⟩
          have HM7 := Lib.hid hm7
          have HW7 := Lib.hid (hkp _ _ HW6.out)
          have HD7 := Lib.hid (hd.reads lt_len)
          have HLR : Hid (∀ x ∈ recs (ow || decide ((S : Int) < T)) T, x = Rc T) := Lib.hid (fun x hx => recs_eq hx)
          have hrl : (recs (ow || decide ((S : Int) < T)) T).length ≤ 1 := by unfold recs; split <;> simp
          obtain ⟨rl, hrl2⟩ : ∃ l, recs (ow || decide ((S : Int) < T)) T = l := ⟨_, rfl⟩
          rw [hrl2] at HD7 HLR hrl
          simp only [hrl2]
          obtain ⟨NR, hNR⟩ : ∃ q, rl.length = q := ⟨_, rfl⟩
          have HNR := Lib.hid hNR
          rw [hNR] at HD7 hrl
          simp only [hNR]
          clear hNR hrl2 hd hfresh hm7 hsz hkp HM6 HW6 p0
          have hq1 : NB + NR ≤ maxLen := by unfold maxLen; omega
          have hq2 : (NB + NR) * 192 ≤ 140737488355328 := by omega
          have HO6 : Hid (w7.ownsRow w.heap.size 32 14 (.slice Ab NB cb) NB (bk.flatMap ltC)) := Lib.hid (by have := HM7.out.ob; rw [HNB.out] at this; exact this)
          go_upto_region 22 with (at_builtin; refine wpList_append_any_s _ rfl (.tmp 77) (.tmp 79) 26 rfl w.heap.size 32 i0 _ 14 192 Try.underlying26 hi hz0 hz1 hz2 rfl hq0 _ NB (bk.flatMap ltC) rfl HO6.out _ Ad NR cd (rl.flatMap ltC) rfl HD7.out (lts_one _) hq1 hq2 HM7.out.siz ?_; intro A9 c9 w9 hown9 hg9 hl9; have HO9 := Lib.hid hown9; have HG9 := Lib.hid hg9; have HL9 := Lib.hid hl9; clear hown9 hg9 hl9)
          have HL8 := Lib.hid (HL6.out.rcpt HLR.out)
          have HN8 : Hid ((bk ++ rl).length = NB + NR) := Lib.hid (by rw [List.length_append, HNR.out, HNB.out])
          have HM8 : Hid (Mem w.heap.size w ga gma gb gmb bp tp se ac T T false va (.slice At N ct) (.slice A9 (NB + NR) c9) th (bk ++ rl) m w9) := Lib.hid (HM7.out.moreB HG9.out (by rw [HN8.out, List.flatMap_append]; exact HO9.out) (HL9.out.elim .inl (fun h => .inr (fun b hb => by rw [h] at hb; injection hb with hb; omega))))
          have HW8 := Lib.hid (HW7.out.grown HG9.out (fun e => own_blk_ne HO6.out HW7.out (by decide) e.symm))
          obtain ⟨N7, hN7⟩ : ∃ q, NB + NR = q := ⟨_, rfl⟩
          rw [hN7] at HN8 HM8
          simp only [hN7]
          clear HM7 HW7 HO6 HO9 HG9 HL9 HD7 hq1 hq2 hN7
          have y0 := HW8.out.cell 0; have y1 := HW8.out.cell 1
          simp only [List.getElem?_toArray, List.getElem?_cons_zero, List.getElem?_cons_succ] at y0 y1
          by_cases h7 : 400 < N7
          · have h7' : (400 : Int) < (N7 : Int) := by omega
            go_wp2_with fail
            refine (counts_any _).mono ?_
            rintro e w10 ⟨rfl, hb10⟩
            have HBE := Lib.hid (HM8.out.bel.trans (hb10.mono HM8.out.siz))
            clear hb10
            go_wp2_with fail
            go_ret
            exact ⟨rfl, HBE.out⟩
          have h7' : ¬ (400 : Int) < (N7 : Int) := by omega
          have t0 := HM8.out.pt.cell 0
          simp only [List.getElem?_toArray, List.getElem?_cons_zero] at t0
          have hTs' : ¬ (se : Int) < (T : Int) := by have := HL8.out.o3; omega
          go_wp2_with fail
          go_roundw
          case rel =>
            exact Lib.hid (lrel (k + 1) (se) (ac) (T) (T) (false) _ (th) (bk ++ rl) _ (by omega) (by omega) rfl (by go_num) (hlt4) (by rw [HN8.out]; omega) HL8.out HM8.out)
          case measure => simp [intOf]; omega
      · as_aux_lemma =>
        skip
        by_cases h0 : 0 < NB
        rotate_left
        · have h0' : ¬ (0 : Int) < (NB : Int) := by omega
          have t0 := HM1.out.pt.cell 0
          simp only [List.getElem?_toArray, List.getElem?_cons_zero] at t0
          have hTs' : ¬ (se : Int) < (T : Int) := by have := HL.out.o3; omega
          go_wp2_with fail
          go_roundw
          case rel =>
            exact Lib.hid (lrel (k + 1) (se) (ac) (T) (S) (ow) _ (th) (bk) _ (by omega) (by omega) rfl (by go_num) (hlt4) (hlb4) HL.out HM1.out)
          case measure => simp [intOf]; omega
        have h0' : (0 : Int) < (NB : Int) := by omega
        obtain ⟨i, hrem, hiN⟩ : ∃ i : Nat, Int.tmod nn (NB : Int) = i ∧ i < NB := by
          have h1 := Int.emod_nonneg nn (show (NB : Int) ≠ 0 by omega)
          have h2 := Int.emod_lt_of_pos nn h0'
          exact ⟨(nn % (NB : Int)).toNat, by rw [Int.tmod_eq_emod_of_nonneg v0]; omega, by omega⟩
        have hne0 : ((NB : Int) == 0) = false := by simp; omega
        have hwn : IntKind.i64.wrap nn = nn := IntWalk.i64_in _ (by omega)
        have hwi : IntKind.i64.wrap (i : Int) = (i : Int) := IntWalk.i64_in _ (by omega)
        have hro : w5.ownsRow w.heap.size 32 14 (.slice Ab NB cb) NB (bk.flatMap ltC) := by have := HM1.out.ob; rw [HNB.out] at this; exact this
        obtain ⟨bt, c', hbv, hnc, hBb, hcm⟩ := own_addr hro h0
        injection hbv with hA1 _ hc1
        subst hA1 hc1
        have HSS := Lib.hid (SliceOf.of_own_s hro lt_len rfl HNB.out)
        obtain ⟨b2, off2, x, hbo, hxk, hc⟩ := lt_at HSS.out hiN
        injection hbo with hbo
        injection hbo with hb2 ho2
        subst hb2 ho2
        simp only [Nat.zero_add] at hc
        have HXK := Lib.hid hxk
        obtain ⟨j, hj1, hxj⟩ := HL.out.bq x (List.mem_of_getElem? hxk)
        subst hxj
        have d0 := hc 0 _ rfl; have d1 := hc 1 _ rfl; have d2 := hc 2 _ rfl; have d3 := hc 3 _ rfl; have d4 := hc 4 _ rfl; have d5 := hc 5 _ rfl; have d6 := hc 6 _ rfl; have d7 := hc 7 _ rfl; have d8 := hc 8 _ rfl; have d9 := hc 9 _ rfl; have d10 := hc 10 _ rfl; have d11 := hc 11 _ rfl; have d12 := hc 12 _ rfl; have d13 := hc 13 _ rfl
        rw [Nat.add_zero] at d0
        have HX6 := Lib.hid (Blk.new w5 32 #[.string (Rc j).fr, .string (Rc j).dst, .int .i64 (Rc j).num, .int .i64 (Rc j).kind, .int .i64 (Rc j).ack, .string ⟨#[]⟩, .string ⟨#[]⟩, .string ⟨#[]⟩, .int .i64 (Rc j).idx, .int .i64 0, .string ⟨#[]⟩, .int .i64 0, .slice none 0 0, .slice none 0 0])
        have HM6 := Lib.hid (HM1.out.on (one_alloc w5 (.cells #[.string (Rc j).fr, .string (Rc j).dst, .int .i64 (Rc j).num, .int .i64 (Rc j).kind, .int .i64 (Rc j).ack, .string ⟨#[]⟩, .string ⟨#[]⟩, .string ⟨#[]⟩, .int .i64 (Rc j).idx, .int .i64 0, .string ⟨#[]⟩, .int .i64 0, .slice none 0 0, .slice none 0 0] 32)))
        have HW6 := Lib.hid (HWy.out.below (one_alloc w5 (.cells #[.string (Rc j).fr, .string (Rc j).dst, .int .i64 (Rc j).num, .int .i64 (Rc j).kind, .int .i64 (Rc j).ack, .string ⟨#[]⟩, .string ⟨#[]⟩, .string ⟨#[]⟩, .int .i64 (Rc j).idx, .int .i64 0, .string ⟨#[]⟩, .int .i64 0, .slice none 0 0, .slice none 0 0] 32)) HWy.out.lt)
        have HSA := Lib.hid (HSS.out.below (one_alloc w5 (.cells #[.string (Rc j).fr, .string (Rc j).dst, .int .i64 (Rc j).num, .int .i64 (Rc j).kind, .int .i64 (Rc j).ack, .string ⟨#[]⟩, .string ⟨#[]⟩, .string ⟨#[]⟩, .int .i64 (Rc j).idx, .int .i64 0, .string ⟨#[]⟩, .int .i64 0, .slice none 0 0, .slice none 0 0] 32)))
        clear hxk hc hro
        go_upto_region 36 with ((refine stop_store 32 _ _ rfl ?_; refine wpList_store_new rfl 32 _ _ rfl _ rfl rfl (by kernel_rfl) rfl rfl ?_))
        obtain ⟨w6, hw6⟩ : ∃ W, w5.alloc (.cells #[.string (Rc j).fr, .string (Rc j).dst, .int .i64 (Rc j).num, .int .i64 (Rc j).kind, .int .i64 (Rc j).ack, .string ⟨#[]⟩, .string ⟨#[]⟩, .string ⟨#[]⟩, .int .i64 (Rc j).idx, .int .i64 0, .string ⟨#[]⟩, .int .i64 0, .slice none 0 0, .slice none 0 0] 32) = W := ⟨_, rfl⟩
        obtain ⟨gx, hgx⟩ : ∃ g, w5.heap.size = g := ⟨_, rfl⟩
        rw [hw6] at HX6 HM6 HW6 HSA ⊢
        rw [hgx] at HX6
        simp only [hgx]
        clear d0 d1 d2 d3 d4 d5 d6 d7 d8 d9 d10 d11 d12 d13
        clear hw6 hgx HM1 HWy y0 y1 HSS
        have hic : i ≤ cb := by omega
        obtain ⟨i1, hi1⟩ : ∃ i1, i + 1 = i1 := ⟨_, rfl⟩
        have hi1N : i1 ≤ NB := by omega
        have hqi : IntKind.i64.wrap ((i : Int) + 1) = (i1 : Int) := by rw [← hi1]; exact IntWalk.i64_in _ (by omega)
        have HS1 := Lib.hid (HSA.out.take_ (k := i) (by omega))
        have HS2 := Lib.hid (HSA.out.drop_ hi1N hnc)
        obtain ⟨A2, hA2⟩ : ∃ A2, (if cb = i1 then some ⟨bt, 0, none⟩ else (some ⟨bt, 0, none⟩ : Option Addr).map (·.add (i1 * 14))) = A2 := ⟨_, rfl⟩
        rw [hA2] at HS2
        have HA2 := Lib.hid hA2
        clear hA2
        obtain ⟨l1, hl1⟩ : ∃ l, bk.take i = l := ⟨_, rfl⟩
        obtain ⟨l2, hl2⟩ : ∃ l, bk.drop i1 = l := ⟨_, rfl⟩
        have HSUB : Hid ((∀ x ∈ l1 ++ l2, x ∈ bk) ∧ (l1 ++ l2).length = i + (NB - i1)) := Lib.hid ⟨by rw [← hl1, ← hl2]; intro x hx; rcases List.mem_append.1 hx with h | h; exact List.mem_of_mem_take h; exact List.mem_of_mem_drop h, by rw [← hl1, ← hl2, List.length_append, List.length_take, List.length_drop, HNB.out]; omega⟩
        rw [hl1] at HS1
        rw [hl2] at HS2
        clear hl1 hl2
        try simp only [Act.put, List.setIfInBounds_toArray, List.set_cons_zero, List.set_cons_succ]
        refine wp_region_softX [AnyV, Is (.slice (some ⟨bt, 0, none⟩) NB cb), Is (.int .i64 (i : Int)), Is (.slice (some ⟨bt, 0, none⟩) i cb), AnyV, Is (.slice (some ⟨bt, 0, none⟩) NB cb), Is (.int .i64 (i : Int)), Is (.int .i64 (i1 : Int)), Is (.slice A2 (NB - i1) (cb - i1)), AnyV, AnyV] ⟨stab_anyv, stab_is _, stab_is _, stab_is _, stab_anyv, stab_is _, stab_is _, stab_is _, stab_is _, stab_anyv, stab_anyv, trivial⟩ (fun k => w6.heap.size ≤ k) ⟨stabf_anyv _, stabf_is _ _, stabf_is _ _, stabf_is _ _, stabf_anyv _, stabf_is _ _, stabf_is _ _, stabf_is _ _, stabf_is _ _, stabf_anyv _, stabf_anyv _, trivial⟩ [true, false, false, false, true, false, false, false, false, true, true] (fun done vs W => CutX w6.heap.size l1 l2 i (NB - i1) (done 0) (done 1) (done 4) (done 5) (done 9) (done 10) (vs 0) (vs 4) (vs 9) (vs 10) W) ?_ ?_ (by kernel_rfl) (by kernel_rfl) ?_ ?_
        · intro q hq done vs v W W' h hnd hb
          have n0 : upDn done q 0 = done 0 := up_ne done (fun e => by subst e; exact absurd hq (by decide))
          have n4 : upDn done q 4 = done 4 := up_ne done (fun e => by subst e; exact absurd hq (by decide))
          have n9 : upDn done q 9 = done 9 := up_ne done (fun e => by subst e; exact absurd hq (by decide))
          have n10 : upDn done q 10 = done 10 := up_ne done (fun e => by subst e; exact absurd hq (by decide))
          have m0 : upVs vs q v 0 = vs 0 := upv_ne vs v (fun e => by subst e; exact absurd hq (by decide))
          have m4 : upVs vs q v 4 = vs 4 := upv_ne vs v (fun e => by subst e; exact absurd hq (by decide))
          have m9 : upVs vs q v 9 = vs 9 := upv_ne vs v (fun e => by subst e; exact absurd hq (by decide))
          have m10 : upVs vs q v 10 = vs 10 := upv_ne vs v (fun e => by subst e; exact absurd hq (by decide))
          rw [n0, n4, n9, n10, m0, m4, m9, m10]
          exact (h.on hb).up (fun h => up_mono h) (fun h => up_mono h)
        · exact ⟨fun h => (by cases h), fun h => (by cases h), fun h => (by cases h), fun h => (by cases h), fun h => (by cases h), fun h => (by cases h), fun h => (by cases h)⟩
        · refine ⟨?_, ?_, ?_, ?_, ?_, ?_, ?_, ?_, ?_, ?_, ?_, trivial⟩
          all_goals intro done vs ac W1 hdep hnd hB hR hX hE
          all_goals try simp only [Nat.zero_add, Nat.reduceAdd] at hnd ⊢
          all_goals have ec : ∀ v : Value, ac.eval (.const v) = v := fun _ => rfl
          all_goals try simp [Region.binds] at hdep
          · have d4 : done 4 = false := not_of hX.o4 hnd
            have d9 : done 9 = false := not_of hX.o9 d4
            have d10 : done 10 = false := not_of (fun h => (hX.o10 h).1) d9
            refine wp_bs0 26 32 0 _ rfl #[] (by simp) #[] (bs_lt W1) ⟨_, rfl, (Fr.refl _ _).alloc _, ?_, trivial⟩
            obtain ⟨v', hv'⟩ : ∃ v', Value.slice (some ⟨W1.heap.size, 0, none⟩) 0 0 = v' := ⟨_, rfl⟩
            have hrow : (W1.alloc (.cells #[] 32)).ownsRow w6.heap.size 32 14 (Value.slice (some ⟨W1.heap.size, 0, none⟩) 0 0) 0 [] := own_empty (Blk.new _ _ _) hB.size
            rw [hv'] at hrow ⊢
            have n1 : upDn done 0 1 = done 1 := up_ne done (by decide)
            have n4 : upDn done 0 4 = done 4 := up_ne done (by decide)
            have n5 : upDn done 0 5 = done 5 := up_ne done (by decide)
            have n9 : upDn done 0 9 = done 9 := up_ne done (by decide)
            have n10 : upDn done 0 10 = done 10 := up_ne done (by decide)
            have m4 : upVs vs 0 v' 4 = vs 4 := upv_ne vs v' (by decide)
            have m9 : upVs vs 0 v' 9 = vs 9 := upv_ne vs v' (by decide)
            have m10 : upVs vs 0 v' 10 = vs 10 := upv_ne vs v' (by decide)
            rw [up_same, upv_same, n1, n4, n5, n9, n10, m4, m9, m10]
            rw [d4, d9, d10]
            exact ⟨fun _ _ => hrow, fun h => (by cases h), fun h => (by cases h), fun h => (by cases h), fun h => (by cases h), fun h => (by cases h), fun h => (by cases h)⟩
          · have dn10 : done 10 = false := not_of (fun h => (hX.o1 h).1) hnd
            have e6 : ac.eval (.tmp 6) = .slice (some ⟨bt, 0, none⟩) NB cb := (hE 6 (by simp)).trans (by simp [evF, Act.eval, dn10])
            exact soft_value (.slice (some ⟨bt, 0, none⟩) NB cb) (by unfold execOp; simp only [e6, ec]; rfl) rfl
          · have e16 : ac.eval (.tmp 16) = .int .i64 (i : Int) := (hE 16 (by simp)).trans (by simp [evF, Act.eval])
            exact soft_value (.int .i64 (i : Int)) (by unfold execOp; simp only [e16, ec]; rfl) rfl
          · have d1 : vs 1 = .slice (some ⟨bt, 0, none⟩) NB cb := hR 1 (by simp [hdep])
            have e155 : ac.eval (.tmp 155) = .slice (some ⟨bt, 0, none⟩) NB cb := (hE 155 (by simp)).trans (by simp [evF, hdep, d1])
            have d2 : vs 2 = .int .i64 (i : Int) := hR 2 (by simp [hdep])
            have e156 : ac.eval (.tmp 156) = .int .i64 (i : Int) := (hE 156 (by simp)).trans (by simp [evF, hdep, d2])
            exact soft_value (.slice (some ⟨bt, 0, none⟩) i cb) (by simp [execOp, e155, e156, sl_h W1 bt NB cb i hic, Result.andThen]) rfl
          · have d0 : vs 0 = vs 0 := rfl
            have e154 : ac.eval (.tmp 154) = (vs 0) := (hE 154 (by simp)).trans (by simp [evF, hdep, d0])
            have d3 : vs 3 = .slice (some ⟨bt, 0, none⟩) i cb := hR 3 (by simp [hdep])
            have e157 : ac.eval (.tmp 157) = .slice (some ⟨bt, 0, none⟩) i cb := (hE 157 (by simp)).trans (by simp [evF, hdep, d3])
            have d9 : done 9 = false := not_of hX.o9 hnd
            have d10 : done 10 = false := not_of (fun h => (hX.o10 h).1) d9
            have d0t : done 0 = true := by simp [hdep]
            have ho := hX.c0 d0t hnd
            have hBb : Below w6.heap.size w6 W1 := hB.bel (Below.refl _ _) (fun k hk => hk) (Nat.le_refl _)
            refine wp_append_any W1 (.tmp 154) (.tmp 157) 26 rfl w6.heap.size 32 i0 _ 14 192 Try.underlying26 hi hz0 hz1 hz2 rfl hq0 (vs 0) 0 [] e154 ho W1.heap.size (some ⟨bt, 0, none⟩) i (cb) (l1.flatMap ltC) e157 ((HS1.out.below hBb).reads lt_len) (lts_one _) (by unfold maxLen; omega) (by omega) hB.size ?_
            intro v' w' ho' hg' hl'
            rw [Nat.zero_add, List.nil_append] at ho'
            refine ⟨_, rfl, (Fr.refl _ _).grown hg' (fun k hk => .inl (ho.lt k hk).1), ?_, trivial⟩
            have n0 : upDn done 4 0 = done 0 := up_ne done (by decide)
            have n1 : upDn done 4 1 = done 1 := up_ne done (by decide)
            have n5 : upDn done 4 5 = done 5 := up_ne done (by decide)
            have n9 : upDn done 4 9 = done 9 := up_ne done (by decide)
            have n10 : upDn done 4 10 = done 10 := up_ne done (by decide)
            have m0 : upVs vs 4 v' 0 = vs 0 := upv_ne vs v' (by decide)
            have m9 : upVs vs 4 v' 9 = vs 9 := upv_ne vs v' (by decide)
            have m10 : upVs vs 4 v' 10 = vs 10 := upv_ne vs v' (by decide)
            rw [up_same, upv_same, n0, n1, n5, n9, n10, m0, m9, m10]
            rw [d0t, d9, d10]
            exact ⟨fun _ h => (by cases h), fun _ _ => ho', fun h => (by cases h), fun _ => rfl, fun h => (by cases h), fun h => (by cases h), fun h => (by cases h)⟩
          · have dn10 : done 10 = false := not_of (fun h => (hX.o1 h).2) hnd
            have e6 : ac.eval (.tmp 6) = .slice (some ⟨bt, 0, none⟩) NB cb := (hE 6 (by simp)).trans (by simp [evF, Act.eval, dn10])
            exact soft_value (.slice (some ⟨bt, 0, none⟩) NB cb) (by unfold execOp; simp only [e6, ec]; rfl) rfl
          · have e16 : ac.eval (.tmp 16) = .int .i64 (i : Int) := (hE 16 (by simp)).trans (by simp [evF, Act.eval])
            exact soft_value (.int .i64 (i : Int)) (by unfold execOp; simp only [e16, ec]; rfl) rfl
          · have d6 : vs 6 = .int .i64 (i : Int) := hR 6 (by simp [hdep])
            have e160 : ac.eval (.tmp 160) = .int .i64 (i : Int) := (hE 160 (by simp)).trans (by simp [evF, hdep, d6])
            exact soft_value (.int .i64 (i1 : Int)) (by unfold execOp; simp only [e160, ec]; go_simp) rfl
          · have d5 : vs 5 = .slice (some ⟨bt, 0, none⟩) NB cb := hR 5 (by simp [hdep])
            have e159 : ac.eval (.tmp 159) = .slice (some ⟨bt, 0, none⟩) NB cb := (hE 159 (by simp)).trans (by simp [evF, hdep, d5])
            have d7 : vs 7 = .int .i64 (i1 : Int) := hR 7 (by simp [hdep])
            have e161 : ac.eval (.tmp 161) = .int .i64 (i1 : Int) := (hE 161 (by simp)).trans (by simp [evF, hdep, d7])
            have hsl := sl_l W1 bt NB cb i1 hi1N
            rw [HA2.out] at hsl
            exact soft_value (.slice A2 (NB - i1) (cb - i1)) (by simp [execOp, e159, e161, hsl, Result.andThen]) rfl
          · have d4 : vs 4 = vs 4 := rfl
            have e158 : ac.eval (.tmp 158) = (vs 4) := (hE 158 (by simp)).trans (by simp [evF, hdep, d4])
            have d8 : vs 8 = .slice A2 (NB - i1) (cb - i1) := hR 8 (by simp [hdep])
            have e162 : ac.eval (.tmp 162) = .slice A2 (NB - i1) (cb - i1) := (hE 162 (by simp)).trans (by simp [evF, hdep, d8])
            have d10 : done 10 = false := not_of (fun h => (hX.o10 h).1) hnd
            have d4t : done 4 = true := by simp [hdep]
            have d0t : done 0 = true := hX.o4 d4t
            have ho := hX.c4 d4t hnd
            have hBb : Below w6.heap.size w6 W1 := hB.bel (Below.refl _ _) (fun k hk => hk) (Nat.le_refl _)
            refine wp_append_any W1 (.tmp 158) (.tmp 162) 26 rfl w6.heap.size 32 i0 _ 14 192 Try.underlying26 hi hz0 hz1 hz2 rfl hq0 (vs 4) i (l1.flatMap ltC) e158 ho W1.heap.size (A2) (NB - i1) (cb - i1) (l2.flatMap ltC) e162 ((HS2.out.below hBb).reads lt_len) (lts_one _) (by unfold maxLen; omega) (by omega) hB.size ?_
            intro v' w' ho' hg' hl'
            rw [← List.flatMap_append] at ho'
            refine ⟨_, rfl, (Fr.refl _ _).grown hg' (fun k hk => .inl (ho.lt k hk).1), ?_, trivial⟩
            have n0 : upDn done 9 0 = done 0 := up_ne done (by decide)
            have n1 : upDn done 9 1 = done 1 := up_ne done (by decide)
            have n4 : upDn done 9 4 = done 4 := up_ne done (by decide)
            have n5 : upDn done 9 5 = done 5 := up_ne done (by decide)
            have n10 : upDn done 9 10 = done 10 := up_ne done (by decide)
            have m0 : upVs vs 9 v' 0 = vs 0 := upv_ne vs v' (by decide)
            have m4 : upVs vs 9 v' 4 = vs 4 := upv_ne vs v' (by decide)
            have m10 : upVs vs 9 v' 10 = vs 10 := upv_ne vs v' (by decide)
            rw [up_same, upv_same, n0, n1, n4, n5, n10, m0, m4, m10]
            rw [d0t, d4t, d10]
            exact ⟨fun _ h => (by cases h), fun _ h => (by cases h), fun _ => ho', fun _ => rfl, fun _ => rfl, fun h => (by cases h), fun h => (by cases h)⟩
          · have d9 : vs 9 = vs 9 := rfl
            have e163 : ac.eval (.tmp 163) = (vs 9) := (hE 163 (by simp)).trans (by simp [evF, hdep, d9])
            have d9t : done 9 = true := by simp [hdep]
            have d4t : done 4 = true := hX.o9 d9t
            have d0t : done 0 = true := hX.o4 d4t
            obtain ⟨v', hv'⟩ : ∃ v', vs 9 = v' := ⟨_, rfl⟩
            refine wp_value (vs 9) (by unfold execOp; simp only [e163]; rfl) ⟨_, rfl, Fr.refl _ _, ?_, trivial⟩
            have hc9 := hX.c9 d9t
            rw [hv'] at hc9 ⊢
            have n0 : upDn done 10 0 = done 0 := up_ne done (by decide)
            have n1 : upDn done 10 1 = done 1 := up_ne done (by decide)
            have n4 : upDn done 10 4 = done 4 := up_ne done (by decide)
            have n5 : upDn done 10 5 = done 5 := up_ne done (by decide)
            have n9 : upDn done 10 9 = done 9 := up_ne done (by decide)
            have m0 : upVs vs 10 v' 0 = vs 0 := upv_ne vs v' (by decide)
            have m4 : upVs vs 10 v' 4 = vs 4 := upv_ne vs v' (by decide)
            have m9 : upVs vs 10 v' 9 = vs 9 := upv_ne vs v' (by decide)
            rw [up_same, upv_same, n0, n1, n4, n5, n9, m0, m4, m9]
            rw [d0t, d4t, d9t]
            exact ⟨fun _ h => (by cases h), fun _ h => (by cases h), fun _ => hv'.symm ▸ hc9, fun _ => rfl, fun _ => rfl, fun _ => ⟨rfl, hv'.symm⟩, fun _ => ⟨by simp [hdep], by simp [hdep]⟩⟩
        · intro done vs W hall hB hR hX
          have hBb : Below w6.heap.size w6 W := hB.bel (Below.refl _ _) (fun k hk => hk) (Nat.le_refl _)
          have ho9 := hX.c9 (hall 9 (by simp))
          have h10 := (hX.o10 (hall 10 (by simp))).2
          obtain ⟨A9, c9, hv9⟩ := own_slice ho9
          rw [hv9] at ho9 h10
          simp only [fillA, Act.put, List.setIfInBounds_toArray, List.set_cons_zero, List.set_cons_succ, if_true, h10]
          have HM7 : Hid (Mem w.heap.size w ga gma gb gmb bp tp se ac T S ow va (.slice At N ct) (.slice A9 (i + (NB - i1)) c9) th (l1 ++ l2) m W) := Lib.hid (HM6.out.newB hBb (by rw [HSUB.out.2]; exact ho9))
          have HL7 := Lib.hid (HL.out.sub (fun x hx => hx) HSUB.out.1)
          have HW7 := Lib.hid (HW6.out.below hBb HW6.out.lt)
          have HX7 := Lib.hid (HX6.out.below hBb HX6.out.lt)
          clear hall hB hR hX hBb ho9 h10 hv9 HM6 HW6 HX6 HS1 HS2 HSA
          go_wp2_with ((refine stop_load 32 _ rfl ?_; refine wpList_load_want rfl 32 _ rfl gx rfl 32 _ _ HX7.out Try.underlying32 rfl (by kernel_rfl) ?_))
          refine (ack_m HM7.out HL7.out (by omega) hj1).mono ?_
          rintro e w8 ⟨rfl, va', hm8, _, hkp⟩
          have HM8 := Lib.hid hm8
          have HL8 := Lib.hid (HL7.out.ack hj1)
          have HW8 := Lib.hid (hkp _ _ HW7.out)
          clear hm8 hkp HM7 HL7 HW7 HX7
          have y0 := HW8.out.cell 0; have y1 := HW8.out.cell 1
          simp only [List.getElem?_toArray, List.getElem?_cons_zero, List.getElem?_cons_succ] at y0 y1
          have t0 := HM8.out.pt.cell 0
          simp only [List.getElem?_toArray, List.getElem?_cons_zero] at t0
          have hTs' : ¬ (se : Int) < (T : Int) := by have := HL8.out.o3; omega
          go_wp2_with fail
          go_roundw
          case rel =>
            exact Lib.hid (lrel (k + 1) (se) (ac + (j - ac)) (T) (S) (ow) _ (th) (l1 ++ l2) _ (by omega) (by omega) rfl (by go_num) (hlt4) (by rw [HSUB.out.2]; omega) HL8.out HM8.out)
          case measure => simp [intOf]; omega
      · as_aux_lemma =>
        skip
        by_cases h0 : 0 < NB
        rotate_left
        · have h0' : ¬ (0 : Int) < (NB : Int) := by omega
          have t0 := HM1.out.pt.cell 0
          simp only [List.getElem?_toArray, List.getElem?_cons_zero] at t0
          have hTs' : ¬ (se : Int) < (T : Int) := by have := HL.out.o3; omega
          go_wp2_with fail
          go_roundw
          case rel =>
            exact Lib.hid (lrel (k + 1) (se) (ac) (T) (S) (ow) _ (th) (bk) _ (by omega) (by omega) rfl (by go_num) (hlt4) (hlb4) HL.out HM1.out)
          case measure => simp [intOf]; omega
        have h0' : (0 : Int) < (NB : Int) := by omega
        obtain ⟨i, hrem, hiN⟩ : ∃ i : Nat, Int.tmod nn (NB : Int) = i ∧ i < NB := by
          have h1 := Int.emod_nonneg nn (show (NB : Int) ≠ 0 by omega)
          have h2 := Int.emod_lt_of_pos nn h0'
          exact ⟨(nn % (NB : Int)).toNat, by rw [Int.tmod_eq_emod_of_nonneg v0]; omega, by omega⟩
        have hne0 : ((NB : Int) == 0) = false := by simp; omega
        have hwn : IntKind.i64.wrap nn = nn := IntWalk.i64_in _ (by omega)
        have hwi : IntKind.i64.wrap (i : Int) = (i : Int) := IntWalk.i64_in _ (by omega)
        have hro : w5.ownsRow w.heap.size 32 14 (.slice Ab NB cb) NB (bk.flatMap ltC) := by have := HM1.out.ob; rw [HNB.out] at this; exact this
        obtain ⟨bt, c', hbv, hnc, hBb, hcm⟩ := own_addr hro h0
        injection hbv with hA1 _ hc1
        subst hA1 hc1
        have HSS := Lib.hid (SliceOf.of_own_s hro lt_len rfl HNB.out)
        obtain ⟨b2, off2, x, hbo, hxk, hc⟩ := lt_at HSS.out hiN
        injection hbo with hbo
        injection hbo with hb2 ho2
        subst hb2 ho2
        simp only [Nat.zero_add] at hc
        have HXK := Lib.hid hxk
        obtain ⟨j, hj1, hxj⟩ := HL.out.bq x (List.mem_of_getElem? hxk)
        subst hxj
        have d0 := hc 0 _ rfl; have d1 := hc 1 _ rfl; have d2 := hc 2 _ rfl; have d3 := hc 3 _ rfl; have d4 := hc 4 _ rfl; have d5 := hc 5 _ rfl; have d6 := hc 6 _ rfl; have d7 := hc 7 _ rfl; have d8 := hc 8 _ rfl; have d9 := hc 9 _ rfl; have d10 := hc 10 _ rfl; have d11 := hc 11 _ rfl; have d12 := hc 12 _ rfl; have d13 := hc 13 _ rfl
        rw [Nat.add_zero] at d0
        have HX6 := Lib.hid (Blk.new w5 32 #[.string (Rc j).fr, .string (Rc j).dst, .int .i64 (Rc j).num, .int .i64 (Rc j).kind, .int .i64 (Rc j).ack, .string ⟨#[]⟩, .string ⟨#[]⟩, .string ⟨#[]⟩, .int .i64 (Rc j).idx, .int .i64 0, .string ⟨#[]⟩, .int .i64 0, .slice none 0 0, .slice none 0 0])
        have HM6 := Lib.hid (HM1.out.on (one_alloc w5 (.cells #[.string (Rc j).fr, .string (Rc j).dst, .int .i64 (Rc j).num, .int .i64 (Rc j).kind, .int .i64 (Rc j).ack, .string ⟨#[]⟩, .string ⟨#[]⟩, .string ⟨#[]⟩, .int .i64 (Rc j).idx, .int .i64 0, .string ⟨#[]⟩, .int .i64 0, .slice none 0 0, .slice none 0 0] 32)))
        have HW6 := Lib.hid (HWy.out.below (one_alloc w5 (.cells #[.string (Rc j).fr, .string (Rc j).dst, .int .i64 (Rc j).num, .int .i64 (Rc j).kind, .int .i64 (Rc j).ack, .string ⟨#[]⟩, .string ⟨#[]⟩, .string ⟨#[]⟩, .int .i64 (Rc j).idx, .int .i64 0, .string ⟨#[]⟩, .int .i64 0, .slice none 0 0, .slice none 0 0] 32)) HWy.out.lt)
        have HSA := Lib.hid (HSS.out.below (one_alloc w5 (.cells #[.string (Rc j).fr, .string (Rc j).dst, .int .i64 (Rc j).num, .int .i64 (Rc j).kind, .int .i64 (Rc j).ack, .string ⟨#[]⟩, .string ⟨#[]⟩, .string ⟨#[]⟩, .int .i64 (Rc j).idx, .int .i64 0, .string ⟨#[]⟩, .int .i64 0, .slice none 0 0, .slice none 0 0] 32)))
        clear hxk hc hro
        go_upto_region 36 with ((refine stop_store 32 _ _ rfl ?_; refine wpList_store_new rfl 32 _ _ rfl _ rfl rfl (by kernel_rfl) rfl rfl ?_))
        obtain ⟨w6, hw6⟩ : ∃ W, w5.alloc (.cells #[.string (Rc j).fr, .string (Rc j).dst, .int .i64 (Rc j).num, .int .i64 (Rc j).kind, .int .i64 (Rc j).ack, .string ⟨#[]⟩, .string ⟨#[]⟩, .string ⟨#[]⟩, .int .i64 (Rc j).idx, .int .i64 0, .string ⟨#[]⟩, .int .i64 0, .slice none 0 0, .slice none 0 0] 32) = W := ⟨_, rfl⟩
        obtain ⟨gx, hgx⟩ : ∃ g, w5.heap.size = g := ⟨_, rfl⟩
        rw [hw6] at HX6 HM6 HW6 HSA ⊢
        rw [hgx] at HX6
        simp only [hgx]
        clear d0 d1 d2 d3 d4 d5 d6 d7 d8 d9 d10 d11 d12 d13
        clear hw6 hgx HM1 HWy y0 y1 HSS
        have hic : i ≤ cb := by omega
        obtain ⟨i1, hi1⟩ : ∃ i1, i + 1 = i1 := ⟨_, rfl⟩
        have hi1N : i1 ≤ NB := by omega
        have hqi : IntKind.i64.wrap ((i : Int) + 1) = (i1 : Int) := by rw [← hi1]; exact IntWalk.i64_in _ (by omega)
        have HS1 := Lib.hid (HSA.out.take_ (k := i) (by omega))
        have HS2 := Lib.hid (HSA.out.drop_ hi1N hnc)
        obtain ⟨A2, hA2⟩ : ∃ A2, (if cb = i1 then some ⟨bt, 0, none⟩ else (some ⟨bt, 0, none⟩ : Option Addr).map (·.add (i1 * 14))) = A2 := ⟨_, rfl⟩
        rw [hA2] at HS2
        have HA2 := Lib.hid hA2
        clear hA2
        obtain ⟨l1, hl1⟩ : ∃ l, bk.take i = l := ⟨_, rfl⟩
        obtain ⟨l2, hl2⟩ : ∃ l, bk.drop i1 = l := ⟨_, rfl⟩
        have HSUB : Hid ((∀ x ∈ l1 ++ l2, x ∈ bk) ∧ (l1 ++ l2).length = i + (NB - i1)) := Lib.hid ⟨by rw [← hl1, ← hl2]; intro x hx; rcases List.mem_append.1 hx with h | h; exact List.mem_of_mem_take h; exact List.mem_of_mem_drop h, by rw [← hl1, ← hl2, List.length_append, List.length_take, List.length_drop, HNB.out]; omega⟩
        rw [hl1] at HS1
        rw [hl2] at HS2
        clear hl1 hl2
        try simp only [Act.put, List.setIfInBounds_toArray, List.set_cons_zero, List.set_cons_succ]
        refine wp_region_softX [AnyV, Is (.slice (some ⟨bt, 0, none⟩) NB cb), Is (.int .i64 (i : Int)), Is (.slice (some ⟨bt, 0, none⟩) i cb), AnyV, Is (.slice (some ⟨bt, 0, none⟩) NB cb), Is (.int .i64 (i : Int)), Is (.int .i64 (i1 : Int)), Is (.slice A2 (NB - i1) (cb - i1)), AnyV, AnyV] ⟨stab_anyv, stab_is _, stab_is _, stab_is _, stab_anyv, stab_is _, stab_is _, stab_is _, stab_is _, stab_anyv, stab_anyv, trivial⟩ (fun k => w6.heap.size ≤ k) ⟨stabf_anyv _, stabf_is _ _, stabf_is _ _, stabf_is _ _, stabf_anyv _, stabf_is _ _, stabf_is _ _, stabf_is _ _, stabf_is _ _, stabf_anyv _, stabf_anyv _, trivial⟩ [true, false, false, false, true, false, false, false, false, true, true] (fun done vs W => CutX w6.heap.size l1 l2 i (NB - i1) (done 0) (done 1) (done 4) (done 5) (done 9) (done 10) (vs 0) (vs 4) (vs 9) (vs 10) W) ?_ ?_ (by kernel_rfl) (by kernel_rfl) ?_ ?_
        · intro q hq done vs v W W' h hnd hb
          have n0 : upDn done q 0 = done 0 := up_ne done (fun e => by subst e; exact absurd hq (by decide))
          have n4 : upDn done q 4 = done 4 := up_ne done (fun e => by subst e; exact absurd hq (by decide))
          have n9 : upDn done q 9 = done 9 := up_ne done (fun e => by subst e; exact absurd hq (by decide))
          have n10 : upDn done q 10 = done 10 := up_ne done (fun e => by subst e; exact absurd hq (by decide))
          have m0 : upVs vs q v 0 = vs 0 := upv_ne vs v (fun e => by subst e; exact absurd hq (by decide))
          have m4 : upVs vs q v 4 = vs 4 := upv_ne vs v (fun e => by subst e; exact absurd hq (by decide))
          have m9 : upVs vs q v 9 = vs 9 := upv_ne vs v (fun e => by subst e; exact absurd hq (by decide))
          have m10 : upVs vs q v 10 = vs 10 := upv_ne vs v (fun e => by subst e; exact absurd hq (by decide))
          rw [n0, n4, n9, n10, m0, m4, m9, m10]
          exact (h.on hb).up (fun h => up_mono h) (fun h => up_mono h)
        · exact ⟨fun h => (by cases h), fun h => (by cases h), fun h => (by cases h), fun h => (by cases h), fun h => (by cases h), fun h => (by cases h), fun h => (by cases h)⟩
        · refine ⟨?_, ?_, ?_, ?_, ?_, ?_, ?_, ?_, ?_, ?_, ?_, trivial⟩
          all_goals intro done vs ac W1 hdep hnd hB hR hX hE
          all_goals try simp only [Nat.zero_add, Nat.reduceAdd] at hnd ⊢
          all_goals have ec : ∀ v : Value, ac.eval (.const v) = v := fun _ => rfl
          all_goals try simp [Region.binds] at hdep
          · have d4 : done 4 = false := not_of hX.o4 hnd
            have d9 : done 9 = false := not_of hX.o9 d4
            have d10 : done 10 = false := not_of (fun h => (hX.o10 h).1) d9
            refine wp_bs0 26 32 0 _ rfl #[] (by simp) #[] (bs_lt W1) ⟨_, rfl, (Fr.refl _ _).alloc _, ?_, trivial⟩
            obtain ⟨v', hv'⟩ : ∃ v', Value.slice (some ⟨W1.heap.size, 0, none⟩) 0 0 = v' := ⟨_, rfl⟩
            have hrow : (W1.alloc (.cells #[] 32)).ownsRow w6.heap.size 32 14 (Value.slice (some ⟨W1.heap.size, 0, none⟩) 0 0) 0 [] := own_empty (Blk.new _ _ _) hB.size
            rw [hv'] at hrow ⊢
            have n1 : upDn done 0 1 = done 1 := up_ne done (by decide)
            have n4 : upDn done 0 4 = done 4 := up_ne done (by decide)
            have n5 : upDn done 0 5 = done 5 := up_ne done (by decide)
            have n9 : upDn done 0 9 = done 9 := up_ne done (by decide)
            have n10 : upDn done 0 10 = done 10 := up_ne done (by decide)
            have m4 : upVs vs 0 v' 4 = vs 4 := upv_ne vs v' (by decide)
            have m9 : upVs vs 0 v' 9 = vs 9 := upv_ne vs v' (by decide)
            have m10 : upVs vs 0 v' 10 = vs 10 := upv_ne vs v' (by decide)
            rw [up_same, upv_same, n1, n4, n5, n9, n10, m4, m9, m10]
            rw [d4, d9, d10]
            exact ⟨fun _ _ => hrow, fun h => (by cases h), fun h => (by cases h), fun h => (by cases h), fun h => (by cases h), fun h => (by cases h), fun h => (by cases h)⟩
          · have dn10 : done 10 = false := not_of (fun h => (hX.o1 h).1) hnd
            have e6 : ac.eval (.tmp 6) = .slice (some ⟨bt, 0, none⟩) NB cb := (hE 6 (by simp)).trans (by simp [evF, Act.eval, dn10])
            exact soft_value (.slice (some ⟨bt, 0, none⟩) NB cb) (by unfold execOp; simp only [e6, ec]; rfl) rfl
          · have e16 : ac.eval (.tmp 16) = .int .i64 (i : Int) := (hE 16 (by simp)).trans (by simp [evF, Act.eval])
            exact soft_value (.int .i64 (i : Int)) (by unfold execOp; simp only [e16, ec]; rfl) rfl
          · have d1 : vs 1 = .slice (some ⟨bt, 0, none⟩) NB cb := hR 1 (by simp [hdep])
            have e155 : ac.eval (.tmp 155) = .slice (some ⟨bt, 0, none⟩) NB cb := (hE 155 (by simp)).trans (by simp [evF, hdep, d1])
            have d2 : vs 2 = .int .i64 (i : Int) := hR 2 (by simp [hdep])
            have e156 : ac.eval (.tmp 156) = .int .i64 (i : Int) := (hE 156 (by simp)).trans (by simp [evF, hdep, d2])
            exact soft_value (.slice (some ⟨bt, 0, none⟩) i cb) (by simp [execOp, e155, e156, sl_h W1 bt NB cb i hic, Result.andThen]) rfl
          · have d0 : vs 0 = vs 0 := rfl
            have e154 : ac.eval (.tmp 154) = (vs 0) := (hE 154 (by simp)).trans (by simp [evF, hdep, d0])
            have d3 : vs 3 = .slice (some ⟨bt, 0, none⟩) i cb := hR 3 (by simp [hdep])
            have e157 : ac.eval (.tmp 157) = .slice (some ⟨bt, 0, none⟩) i cb := (hE 157 (by simp)).trans (by simp [evF, hdep, d3])
            have d9 : done 9 = false := not_of hX.o9 hnd
            have d10 : done 10 = false := not_of (fun h => (hX.o10 h).1) d9
            have d0t : done 0 = true := by simp [hdep]
            have ho := hX.c0 d0t hnd
            have hBb : Below w6.heap.size w6 W1 := hB.bel (Below.refl _ _) (fun k hk => hk) (Nat.le_refl _)
            refine wp_append_any W1 (.tmp 154) (.tmp 157) 26 rfl w6.heap.size 32 i0 _ 14 192 Try.underlying26 hi hz0 hz1 hz2 rfl hq0 (vs 0) 0 [] e154 ho W1.heap.size (some ⟨bt, 0, none⟩) i (cb) (l1.flatMap ltC) e157 ((HS1.out.below hBb).reads lt_len) (lts_one _) (by unfold maxLen; omega) (by omega) hB.size ?_
            intro v' w' ho' hg' hl'
            rw [Nat.zero_add, List.nil_append] at ho'
            refine ⟨_, rfl, (Fr.refl _ _).grown hg' (fun k hk => .inl (ho.lt k hk).1), ?_, trivial⟩
            have n0 : upDn done 4 0 = done 0 := up_ne done (by decide)
            have n1 : upDn done 4 1 = done 1 := up_ne done (by decide)
            have n5 : upDn done 4 5 = done 5 := up_ne done (by decide)
            have n9 : upDn done 4 9 = done 9 := up_ne done (by decide)
            have n10 : upDn done 4 10 = done 10 := up_ne done (by decide)
            have m0 : upVs vs 4 v' 0 = vs 0 := upv_ne vs v' (by decide)
            have m9 : upVs vs 4 v' 9 = vs 9 := upv_ne vs v' (by decide)
            have m10 : upVs vs 4 v' 10 = vs 10 := upv_ne vs v' (by decide)
            rw [up_same, upv_same, n0, n1, n5, n9, n10, m0, m9, m10]
            rw [d0t, d9, d10]
            exact ⟨fun _ h => (by cases h), fun _ _ => ho', fun h => (by cases h), fun _ => rfl, fun h => (by cases h), fun h => (by cases h), fun h => (by cases h)⟩
          · have dn10 : done 10 = false := not_of (fun h => (hX.o1 h).2) hnd
            have e6 : ac.eval (.tmp 6) = .slice (some ⟨bt, 0, none⟩) NB cb := (hE 6 (by simp)).trans (by simp [evF, Act.eval, dn10])
            exact soft_value (.slice (some ⟨bt, 0, none⟩) NB cb) (by unfold execOp; simp only [e6, ec]; rfl) rfl
          · have e16 : ac.eval (.tmp 16) = .int .i64 (i : Int) := (hE 16 (by simp)).trans (by simp [evF, Act.eval])
            exact soft_value (.int .i64 (i : Int)) (by unfold execOp; simp only [e16, ec]; rfl) rfl
          · have d6 : vs 6 = .int .i64 (i : Int) := hR 6 (by simp [hdep])
            have e160 : ac.eval (.tmp 160) = .int .i64 (i : Int) := (hE 160 (by simp)).trans (by simp [evF, hdep, d6])
            exact soft_value (.int .i64 (i1 : Int)) (by unfold execOp; simp only [e160, ec]; go_simp) rfl
          · have d5 : vs 5 = .slice (some ⟨bt, 0, none⟩) NB cb := hR 5 (by simp [hdep])
            have e159 : ac.eval (.tmp 159) = .slice (some ⟨bt, 0, none⟩) NB cb := (hE 159 (by simp)).trans (by simp [evF, hdep, d5])
            have d7 : vs 7 = .int .i64 (i1 : Int) := hR 7 (by simp [hdep])
            have e161 : ac.eval (.tmp 161) = .int .i64 (i1 : Int) := (hE 161 (by simp)).trans (by simp [evF, hdep, d7])
            have hsl := sl_l W1 bt NB cb i1 hi1N
            rw [HA2.out] at hsl
            exact soft_value (.slice A2 (NB - i1) (cb - i1)) (by simp [execOp, e159, e161, hsl, Result.andThen]) rfl
          · have d4 : vs 4 = vs 4 := rfl
            have e158 : ac.eval (.tmp 158) = (vs 4) := (hE 158 (by simp)).trans (by simp [evF, hdep, d4])
            have d8 : vs 8 = .slice A2 (NB - i1) (cb - i1) := hR 8 (by simp [hdep])
            have e162 : ac.eval (.tmp 162) = .slice A2 (NB - i1) (cb - i1) := (hE 162 (by simp)).trans (by simp [evF, hdep, d8])
            have d10 : done 10 = false := not_of (fun h => (hX.o10 h).1) hnd
            have d4t : done 4 = true := by simp [hdep]
            have d0t : done 0 = true := hX.o4 d4t
            have ho := hX.c4 d4t hnd
            have hBb : Below w6.heap.size w6 W1 := hB.bel (Below.refl _ _) (fun k hk => hk) (Nat.le_refl _)
            refine wp_append_any W1 (.tmp 158) (.tmp 162) 26 rfl w6.heap.size 32 i0 _ 14 192 Try.underlying26 hi hz0 hz1 hz2 rfl hq0 (vs 4) i (l1.flatMap ltC) e158 ho W1.heap.size (A2) (NB - i1) (cb - i1) (l2.flatMap ltC) e162 ((HS2.out.below hBb).reads lt_len) (lts_one _) (by unfold maxLen; omega) (by omega) hB.size ?_
            intro v' w' ho' hg' hl'
            rw [← List.flatMap_append] at ho'
            refine ⟨_, rfl, (Fr.refl _ _).grown hg' (fun k hk => .inl (ho.lt k hk).1), ?_, trivial⟩
            have n0 : upDn done 9 0 = done 0 := up_ne done (by decide)
            have n1 : upDn done 9 1 = done 1 := up_ne done (by decide)
            have n4 : upDn done 9 4 = done 4 := up_ne done (by decide)
            have n5 : upDn done 9 5 = done 5 := up_ne done (by decide)
            have n10 : upDn done 9 10 = done 10 := up_ne done (by decide)
            have m0 : upVs vs 9 v' 0 = vs 0 := upv_ne vs v' (by decide)
            have m4 : upVs vs 9 v' 4 = vs 4 := upv_ne vs v' (by decide)
            have m10 : upVs vs 9 v' 10 = vs 10 := upv_ne vs v' (by decide)
            rw [up_same, upv_same, n0, n1, n4, n5, n10, m0, m4, m10]
            rw [d0t, d4t, d10]
            exact ⟨fun _ h => (by cases h), fun _ h => (by cases h), fun _ => ho', fun _ => rfl, fun _ => rfl, fun h => (by cases h), fun h => (by cases h)⟩
          · have d9 : vs 9 = vs 9 := rfl
            have e163 : ac.eval (.tmp 163) = (vs 9) := (hE 163 (by simp)).trans (by simp [evF, hdep, d9])
            have d9t : done 9 = true := by simp [hdep]
            have d4t : done 4 = true := hX.o9 d9t
            have d0t : done 0 = true := hX.o4 d4t
            obtain ⟨v', hv'⟩ : ∃ v', vs 9 = v' := ⟨_, rfl⟩
            refine wp_value (vs 9) (by unfold execOp; simp only [e163]; rfl) ⟨_, rfl, Fr.refl _ _, ?_, trivial⟩
            have hc9 := hX.c9 d9t
            rw [hv'] at hc9 ⊢
            have n0 : upDn done 10 0 = done 0 := up_ne done (by decide)
            have n1 : upDn done 10 1 = done 1 := up_ne done (by decide)
            have n4 : upDn done 10 4 = done 4 := up_ne done (by decide)
            have n5 : upDn done 10 5 = done 5 := up_ne done (by decide)
            have n9 : upDn done 10 9 = done 9 := up_ne done (by decide)
            have m0 : upVs vs 10 v' 0 = vs 0 := upv_ne vs v' (by decide)
            have m4 : upVs vs 10 v' 4 = vs 4 := upv_ne vs v' (by decide)
            have m9 : upVs vs 10 v' 9 = vs 9 := upv_ne vs v' (by decide)
            rw [up_same, upv_same, n0, n1, n4, n5, n9, m0, m4, m9]
            rw [d0t, d4t, d9t]
            exact ⟨fun _ h => (by cases h), fun _ h => (by cases h), fun _ => hv'.symm ▸ hc9, fun _ => rfl, fun _ => rfl, fun _ => ⟨rfl, hv'.symm⟩, fun _ => ⟨by simp [hdep], by simp [hdep]⟩⟩
        · intro done vs W hall hB hR hX
          have hBb : Below w6.heap.size w6 W := hB.bel (Below.refl _ _) (fun k hk => hk) (Nat.le_refl _)
          have ho9 := hX.c9 (hall 9 (by simp))
          have h10 := (hX.o10 (hall 10 (by simp))).2
          obtain ⟨A9, c9, hv9⟩ := own_slice ho9
          rw [hv9] at ho9 h10
          simp only [fillA, Act.put, List.setIfInBounds_toArray, List.set_cons_zero, List.set_cons_succ, if_true, h10]
          have HM7 : Hid (Mem w.heap.size w ga gma gb gmb bp tp se ac T S ow va (.slice At N ct) (.slice A9 (i + (NB - i1)) c9) th (l1 ++ l2) m W) := Lib.hid (HM6.out.newB hBb (by rw [HSUB.out.2]; exact ho9))
          have HL7 := Lib.hid (HL.out.sub (fun x hx => hx) HSUB.out.1)
          have HW7 := Lib.hid (HW6.out.below hBb HW6.out.lt)
          have HX7 := Lib.hid (HX6.out.below hBb HX6.out.lt)
          clear hall hB hR hX hBb ho9 h10 hv9 HM6 HW6 HX6 HS1 HS2 HSA
          go_wp2_with ((refine stop_load 32 _ rfl ?_; refine wpList_load_want rfl 32 _ rfl gx rfl 32 _ _ HX7.out Try.underlying32 rfl (by kernel_rfl) ?_))
          refine (ack_m HM7.out HL7.out (by omega) hj1).mono ?_
          rintro e w8 ⟨rfl, va', hm8, _, hkp⟩
          have HM8 := Lib.hid hm8
          have HL8 := Lib.hid (HL7.out.ack hj1)
          have HW8 := Lib.hid (hkp _ _ HW7.out)
          clear hm8 hkp HM7 HL7 HW7 HX7
          have y0 := HW8.out.cell 0; have y1 := HW8.out.cell 1
          simp only [List.getElem?_toArray, List.getElem?_cons_zero, List.getElem?_cons_succ] at y0 y1
          have t0 := HM8.out.pt.cell 0
          simp only [List.getElem?_toArray, List.getElem?_cons_zero] at t0
          have hTs' : ¬ (se : Int) < (T : Int) := by have := HL8.out.o3; omega
          go_wp2_with fail
          go_roundw
          case rel =>
            exact Lib.hid (lrel (k + 1) (se) (ac + (j - ac)) (T) (S) (ow) _ (th) (l1 ++ l2) _ (by omega) (by omega) rfl (by go_num) (hlt4) (by rw [HSUB.out.2]; omega) HL8.out HM8.out)
          case measure => simp [intOf]; omega
    · as_aux_lemma =>
      have hkn' : ¬ (k : Int) < (n : Int) := by omega
      have hse : se ≤ 40 := by omega
      go_wp2_with fail
      go_loopw [180] (fun iv wq => ∃ (q ac T S : Nat) (ow : Bool) (va : Value) (m : Int → Option Lr), q ≤ 3 ∧ iv = .int .i64 q ∧ Hid (Log se ac T S th bk m) ∧ Hid (Mem w.heap.size w ga gma gb gmb bp tp se ac T S ow va (.slice At N ct) (.slice Ab NB cb) th bk m wq) ∧ Hid (1 ≤ q → ac = se ∧ T = se)) (fun i _ => 3 - (intOf i).toNat)
      case atStart => exact ⟨0, ac, T, S, ow, va, m, by omega, rfl, HL, HM, Lib.hid (by omega)⟩
      case round =>
        clear HL HM hTs
        obtain ⟨q, ac, T, S, ow, va, m, hq, rfl, HLq, HMq, hq1⟩ := hrel
        by_cases hq3 : q < 3
        · have hq3' : (q : Int) < 3 := by omega
          go_wp2_with fail
          refine (due_am HMq.out hse).mono ?_
          rintro e w5 ⟨Ad, cd, rfl, hd, hm5, hb5⟩
          have HM5 := Lib.hid hm5
          have HD5 := Lib.hid hd
          obtain ⟨B5, hB5⟩ : ∃ b, wr.heap.size = b := ⟨_, rfl⟩
          rw [hB5] at HD5
          obtain ⟨D, hD⟩ : ∃ D, se - ac = D := ⟨_, rfl⟩
          rw [hD] at HD5
          simp only [hD]
          have HDD := Lib.hid hD
          have hDle : D ≤ 40 := by omega
          have HAT : Hid (ac ≤ T) := Lib.hid (Nat.le_trans HLq.out.o1 HLq.out.o2)
          clear hd hm5 hb5 HMq hB5 hD
          go_wp2_with fail
          go_loopw [185] (fun iv wi => ∃ (j T : Nat) (ow : Bool) (m : Int → Option Lr), j ≤ D ∧ iv = .int .i64 j ∧ Hid (Log se ac T S th bk m) ∧ Hid (Mem w.heap.size w ga gma gb gmb bp tp se ac T S ow va (.slice At N ct) (.slice Ab NB cb) th bk m wi) ∧ Hid (wi.ownsRow B5 32 14 (.slice Ad D cd) D ((outL ac se).flatMap ltC)) ∧ Hid (ac + j ≤ T ∧ (1 ≤ j → ow = true))) (fun i _ => D - (intOf i).toNat)
          case atStart => exact ⟨0, T, ow, m, by omega, rfl, HLq, HM5, HD5, Lib.hid ⟨by have := HAT.out; omega, by omega⟩⟩
          case round =>
            clear HLq HM5 HD5 HAT
            obtain ⟨j, T, ow, m, hj, rfl, HLj, HMj, HDj, HTj⟩ := hrel
            by_cases hjD : j < D
            · have hjD' : (j : Int) < (D : Int) := by omega
              have hlen : (outL ac se).length = D := by rw [outL_len, HDD.out]
              obtain ⟨b, off, x, rfl, hxk, hc⟩ := lt_at (SliceOf.of_own_s HDj.out lt_len rfl hlen) hjD
              rw [outL_get (by rw [HDD.out]; exact hjD)] at hxk
              injection hxk with hxk
              subst hxk
              have d0 := hc 0 _ rfl; have d1 := hc 1 _ rfl; have d2 := hc 2 _ rfl; have d3 := hc 3 _ rfl; have d4 := hc 4 _ rfl; have d5 := hc 5 _ rfl; have d6 := hc 6 _ rfl; have d7 := hc 7 _ rfl; have d8 := hc 8 _ rfl; have d9 := hc 9 _ rfl; have d10 := hc 10 _ rfl; have d11 := hc 11 _ rfl; have d12 := hc 12 _ rfl; have d13 := hc 13 _ rfl
              rw [Nat.add_zero] at d0
              have HX6 := Lib.hid (Blk.new wr 32 #[.string (Ll (ac + 1 + j)).fr, .string (Ll (ac + 1 + j)).dst, .int .i64 (Ll (ac + 1 + j)).num, .int .i64 (Ll (ac + 1 + j)).kind, .int .i64 (Ll (ac + 1 + j)).ack, .string ⟨#[]⟩, .string ⟨#[]⟩, .string ⟨#[]⟩, .int .i64 (Ll (ac + 1 + j)).idx, .int .i64 0, .string ⟨#[]⟩, .int .i64 0, .slice none 0 0, .slice none 0 0])
              have HM6 := Lib.hid (HMj.out.on (one_alloc wr (.cells #[.string (Ll (ac + 1 + j)).fr, .string (Ll (ac + 1 + j)).dst, .int .i64 (Ll (ac + 1 + j)).num, .int .i64 (Ll (ac + 1 + j)).kind, .int .i64 (Ll (ac + 1 + j)).ack, .string ⟨#[]⟩, .string ⟨#[]⟩, .string ⟨#[]⟩, .int .i64 (Ll (ac + 1 + j)).idx, .int .i64 0, .string ⟨#[]⟩, .int .i64 0, .slice none 0 0, .slice none 0 0] 32)))
              have HD6 := Lib.hid (HDj.out.alloc (.cells #[.string (Ll (ac + 1 + j)).fr, .string (Ll (ac + 1 + j)).dst, .int .i64 (Ll (ac + 1 + j)).num, .int .i64 (Ll (ac + 1 + j)).kind, .int .i64 (Ll (ac + 1 + j)).ack, .string ⟨#[]⟩, .string ⟨#[]⟩, .string ⟨#[]⟩, .int .i64 (Ll (ac + 1 + j)).idx, .int .i64 0, .string ⟨#[]⟩, .int .i64 0, .slice none 0 0, .slice none 0 0] 32))
              clear hc HMj HDj
              go_upto_region 48 with ((refine stop_store 32 _ _ rfl ?_; refine wpList_store_new rfl 32 _ _ rfl _ rfl rfl (by kernel_rfl) rfl rfl ?_))
              obtain ⟨w6, hw6⟩ : ∃ W, wr.alloc (.cells #[.string (Ll (ac + 1 + j)).fr, .string (Ll (ac + 1 + j)).dst, .int .i64 (Ll (ac + 1 + j)).num, .int .i64 (Ll (ac + 1 + j)).kind, .int .i64 (Ll (ac + 1 + j)).ack, .string ⟨#[]⟩, .string ⟨#[]⟩, .string ⟨#[]⟩, .int .i64 (Ll (ac + 1 + j)).idx, .int .i64 0, .string ⟨#[]⟩, .int .i64 0, .slice none 0 0, .slice none 0 0] 32) = W := ⟨_, rfl⟩
              obtain ⟨gx, hgx⟩ : ∃ g, wr.heap.size = g := ⟨_, rfl⟩
              rw [hw6] at HX6 HM6 HD6 ⊢
              rw [hgx] at HX6
              simp only [hgx]
              clear d0 d1 d2 d3 d4 d5 d6 d7 d8 d9 d10 d11 d12 d13 hw6 hgx
              go_wp2_with ((refine stop_load 32 _ rfl ?_; refine wpList_load_want rfl 32 _ rfl gx rfl 32 _ _ HX6.out Try.underlying32 rfl (by kernel_rfl) ?_))
              refine (take_m HM6.out HLj.out hse (i := ac + 1 + j) ⟨by omega, by have := HDD.out; omega⟩).mono ?_
              rintro e w8 ⟨rfl, T', m', hTT, hTn, hl8, hm8, hf8, _⟩
              have HM8 := Lib.hid hm8
              have HL8 := Lib.hid hl8
              have HT8 : Hid (ac + (j + 1) ≤ T' ∧ (1 ≤ j + 1 → true = true)) := Lib.hid ⟨by have := HTj.out.1; rcases Nat.lt_or_ge T (ac + 1 + j) with h | h; have := hTn (by omega); omega; omega, fun _ => rfl⟩
              have HD8 := Lib.hid (own_fr HD6.out hf8 (by
                obtain ⟨n0, hm0⟩ := HM6.out.mm
                rintro k hk (e | e | e)
                · exact own_blk_ne HD6.out HM6.out.eb (by decide) (e ▸ hk)
                · exact hm0.ne_own HD6.out (e ▸ hk)
                · exact own_blk_ne HD6.out HM6.out.pt (by decide) (e ▸ hk)))
              clear hm8 hl8 hf8 hTT hTn HM6 HD6 HX6 HLj HTj
              go_wp2_with fail
              go_roundw
              case rel => exact ⟨j + 1, T', true, m', Nat.succ_le_of_lt hjD, by go_num, HL8, HM8, HD8, Lib.hid ⟨HT8.out.1, fun _ => rfl⟩⟩
              case measure => simp [intOf]; omega
            · have hjD' : ¬ (j : Int) < (D : Int) := by omega
              have hTse : T = se := by have := HLj.out.o3; have := HTj.out.1; have := HDD.out; omega
              subst T
              have HOW : Hid (1 ≤ D → ow = true) := Lib.hid (fun h => HTj.out.2 (by omega))
              have HM6 := HMj
              have HL6 := HLj
              clear HMj HLj HDj HTj hjD hj
              go_upto_region 51 with (fail)
              refine wp_region_soft_last [Is (.pointer (some ⟨gb, 0, none⟩)), Is (.pointer (some ⟨gb, 0, none⟩)), Is (.int .i64 (se : Int)), AnyV] ⟨stab_is _, stab_is _, stab_is _, stab_anyv, trivial⟩ (by kernel_rfl) (by kernel_rfl) (by kernel_rfl) (Nat.zero_lt_succ _) ?_
              refine ⟨?_, ?_, ?_, ?_⟩
              all_goals intro done vs ac_ W1 hdep hB hR hE
              · have e4 : ac_.eval (.tmp 4) = (.pointer (some ⟨bp, 0, none⟩)) := (hE 4 (by simp)).trans (by simp [evF, Act.eval])
                have hp : W1.cell? ⟨bp, 0, none⟩ = some (.pointer (some ⟨gb, 0, none⟩)) := (HM6.out.pb.below hB HM6.out.pb.lt).cell 0
                exact soft_value (.pointer (some ⟨gb, 0, none⟩)) (by unfold execOp; simp only [e4]; go_simp) rfl
              · have e4 : ac_.eval (.tmp 4) = (.pointer (some ⟨bp, 0, none⟩)) := (hE 4 (by simp)).trans (by simp [evF, Act.eval])
                have hp : W1.cell? ⟨bp, 0, none⟩ = some (.pointer (some ⟨gb, 0, none⟩)) := (HM6.out.pb.below hB HM6.out.pb.lt).cell 0
                exact soft_value (.pointer (some ⟨gb, 0, none⟩)) (by unfold execOp; simp only [e4]; go_simp) rfl
              · simp [Region.binds] at hdep
                have d1 : vs 1 = (.pointer (some ⟨gb, 0, none⟩)) := hR 1 (by simp [hdep])
                have e2 : ac_.eval (.tmp 195) = (.pointer (some ⟨gb, 0, none⟩)) := (hE 195 (by simp)).trans (by simp [evF, hdep, d1])
                refine soft_call 13 _ _ rfl (enters_fn Try.func13 (by kernel_rfl) rfl) #[(.pointer (some ⟨gb, 0, none⟩))] (by simp [e2]) ?_
                refine (got_m (HM6.out.on hB)).mono ?_
                rintro e9 w9 ⟨rfl, rfl⟩
                exact ⟨_, rfl, Below.refl _ _, rfl⟩
              · have d0 : vs 0 = (.pointer (some ⟨gb, 0, none⟩)) := hR 0 (by omega)
                have d2 : vs 2 = .int .i64 (se : Int) := hR 2 (by omega)
                have e1 : ac_.eval (.tmp 194) = (.pointer (some ⟨gb, 0, none⟩)) := (hE 194 (by simp)).trans (by simp [evF, hdep 0 (by omega), d0])
                have e3 : ac_.eval (.tmp 196) = .int .i64 (se : Int) := (hE 196 (by simp)).trans (by simp [evF, hdep 2 (by omega), d2])
                refine wp_call_fn 12 _ _ rfl (enters_fn Try.func12 (by kernel_rfl) rfl) #[(.pointer (some ⟨gb, 0, none⟩)), .int .i64 (se : Int)] (by simp [e1, e3]) ?_
                refine (sure_m (HM6.out.on hB) HL6.out).mono ?_
                rintro e9 w6 ⟨rfl, hkp, hm6⟩
                refine ⟨_, rfl, _, rfl, ?_⟩
                simp only [fillA, Act.put, List.setIfInBounds_toArray, List.set_cons_zero, List.set_cons_succ, if_true]
                have HM7 := Lib.hid hm6
                have HL7 := Lib.hid HL6.out.sure
                clear hm6 hkp hE hR hB hdep d0 d2 e1 e3 HM6
                have p0 := HM7.out.pb.cell 0
                simp only [List.getElem?_toArray, List.getElem?_cons_zero] at p0
                go_wp2_with fail
                refine (due_bm HM7.out).mono ?_
                rintro e w8 ⟨A8, c8, rfl, hd8, hfresh, hm8, hsz, _⟩
                have HM8 := Lib.hid hm8
                have HNA : Hid (∀ b off, A8 = some ⟨b, off, none⟩ → ¬ b = ga) := Lib.hid (fun b off h e => by have := hfresh b off h; have := HM7.out.ea.lt; omega)
                have HRX : Hid (∀ x ∈ recs (ow || decide ((S : Int) < se)) se, x = Rc se) := Lib.hid (fun x hx => recs_eq hx)
                have HRE : Hid ((recs (ow || decide ((S : Int) < se)) se).length = 0 → ow = false) := Lib.hid (fun h => by cases ow <;> simp_all [recs])
                have hRL : (recs (ow || decide ((S : Int) < se)) se).length ≤ 1 := by unfold recs; split <;> simp
                obtain ⟨rl, hrl⟩ : ∃ l, recs (ow || decide ((S : Int) < se)) se = l := ⟨_, rfl⟩
                rw [hrl] at HRX HRE hd8 hRL
                simp only [hrl]
                obtain ⟨NR, hNR⟩ : ∃ q, rl.length = q := ⟨_, rfl⟩
                rw [hNR] at HRE hd8 hRL
                simp only [hNR]
                have HD8 := Lib.hid hd8
                clear hd8 hfresh hm8 hsz hrl hNR HM7 p0
                go_wp2_with fail
                go_loopw [201] (fun iv wi => ∃ (j ac' : Nat) (va : Value), j ≤ NR ∧ iv = .int .i64 j ∧ Hid (Log se ac' se se th bk m) ∧ Hid (Mem w.heap.size w ga gma gb gmb bp tp se ac' se se false va (.slice At N ct) (.slice Ab NB cb) th bk m wi) ∧ Hid (SliceOf wi 14 ltC A8 NR rl) ∧ Hid (ac ≤ ac' ∧ (1 ≤ j → ac' = se))) (fun i _ => NR - (intOf i).toNat)
                case atStart => exact ⟨0, ac, va, by omega, rfl, HL7, HM8, HD8, Lib.hid ⟨Nat.le_refl _, by omega⟩⟩
                case round =>
                  clear HM8 HD8 HL7
                  obtain ⟨j, ac', va, hj, rfl, HLj, HMj, HDj, HTj⟩ := hrel
                  by_cases hjD : j < NR
                  · have hjD' : (j : Int) < (NR : Int) := by omega
                    obtain ⟨b, off, x, rfl, hxk, hc⟩ := lt_at HDj.out hjD
                    have hxe := HRX.out x (List.mem_of_getElem? hxk)
                    subst hxe
                    have d0 := hc 0 _ rfl; have d1 := hc 1 _ rfl; have d2 := hc 2 _ rfl; have d3 := hc 3 _ rfl; have d4 := hc 4 _ rfl; have d5 := hc 5 _ rfl; have d6 := hc 6 _ rfl; have d7 := hc 7 _ rfl; have d8 := hc 8 _ rfl; have d9 := hc 9 _ rfl; have d10 := hc 10 _ rfl; have d11 := hc 11 _ rfl; have d12 := hc 12 _ rfl; have d13 := hc 13 _ rfl
                    rw [Nat.add_zero] at d0
                    have HX9 := Lib.hid (Blk.new wr 32 #[.string (Rc se).fr, .string (Rc se).dst, .int .i64 (Rc se).num, .int .i64 (Rc se).kind, .int .i64 (Rc se).ack, .string ⟨#[]⟩, .string ⟨#[]⟩, .string ⟨#[]⟩, .int .i64 (Rc se).idx, .int .i64 0, .string ⟨#[]⟩, .int .i64 0, .slice none 0 0, .slice none 0 0])
                    have HM9 := Lib.hid (HMj.out.on (one_alloc wr (.cells #[.string (Rc se).fr, .string (Rc se).dst, .int .i64 (Rc se).num, .int .i64 (Rc se).kind, .int .i64 (Rc se).ack, .string ⟨#[]⟩, .string ⟨#[]⟩, .string ⟨#[]⟩, .int .i64 (Rc se).idx, .int .i64 0, .string ⟨#[]⟩, .int .i64 0, .slice none 0 0, .slice none 0 0] 32)))
                    have HD9 := Lib.hid (HDj.out.below (one_alloc wr (.cells #[.string (Rc se).fr, .string (Rc se).dst, .int .i64 (Rc se).num, .int .i64 (Rc se).kind, .int .i64 (Rc se).ack, .string ⟨#[]⟩, .string ⟨#[]⟩, .string ⟨#[]⟩, .int .i64 (Rc se).idx, .int .i64 0, .string ⟨#[]⟩, .int .i64 0, .slice none 0 0, .slice none 0 0] 32)))
                    clear hc hxk HMj HDj
                    go_upto_region 55 with ((refine stop_store 32 _ _ rfl ?_; refine wpList_store_new rfl 32 _ _ rfl _ rfl rfl (by kernel_rfl) rfl rfl ?_))
                    obtain ⟨w9, hw9⟩ : ∃ W, wr.alloc (.cells #[.string (Rc se).fr, .string (Rc se).dst, .int .i64 (Rc se).num, .int .i64 (Rc se).kind, .int .i64 (Rc se).ack, .string ⟨#[]⟩, .string ⟨#[]⟩, .string ⟨#[]⟩, .int .i64 (Rc se).idx, .int .i64 0, .string ⟨#[]⟩, .int .i64 0, .slice none 0 0, .slice none 0 0] 32) = W := ⟨_, rfl⟩
                    obtain ⟨gx, hgx⟩ : ∃ g, wr.heap.size = g := ⟨_, rfl⟩
                    rw [hw9] at HX9 HM9 HD9 ⊢
                    rw [hgx] at HX9
                    simp only [hgx]
                    clear d0 d1 d2 d3 d4 d5 d6 d7 d8 d9 d10 d11 d12 d13 hw9 hgx
                    go_wp2_with ((refine stop_load 32 _ rfl ?_; refine wpList_load_want rfl 32 _ rfl gx rfl 32 _ _ HX9.out Try.underlying32 rfl (by kernel_rfl) ?_))
                    refine (ack_m HM9.out HLj.out hse (k := se) (Nat.le_refl _)).mono ?_
                    rintro e w10 ⟨rfl, va', hm10, hf10, _⟩
                    have hacs : ac' + (se - ac') = se := by have := HLj.out.o1; omega
                    have HM10 := Lib.hid hm10
                    have HL10 := Lib.hid (HLj.out.ack (k := se) (Nat.le_refl _))
                    rw [hacs] at HM10 HL10
                    have HD10 := Lib.hid (HD9.out.fr hf10 (fun b off h => HNA.out b off h))
                    have HT10 : Hid (ac ≤ se ∧ (1 ≤ j + 1 → se = se)) := Lib.hid ⟨by have := HTj.out.1; omega, fun _ => rfl⟩
                    clear hm10 hf10 HM9 HD9 HX9 HLj HTj hacs
                    go_wp2_with fail
                    go_roundw
                    case rel => exact ⟨j + 1, se, va', Nat.succ_le_of_lt hjD, by go_num, HL10, HM10, HD10, Lib.hid ⟨HT10.out.1, fun _ => rfl⟩⟩
                    case measure => simp [intOf]; omega
                  · have hjD' : ¬ (j : Int) < (NR : Int) := by omega
                    have hacs : ac' = se := by
                      have h1 := HLj.out.o1
                      have h2 := HTj.out
                      rcases Nat.eq_zero_or_pos NR with h | h
                      · have h3 := HRE.out h
                        have h4 := HOW.out
                        rw [h3] at h4
                        have h5 : ¬ 1 ≤ D := fun h => by have := h4 h; cases this
                        have := HDD.out
                        omega
                      · exact h2.2 (by omega)
                    subst hacs
                    clear HTj HDj HNA HRX HRE HOW HDD
                    go_wp2_with fail
                    go_roundw
                    case rel => exact ⟨q + 1, ac', ac', ac', false, va, m, by omega, by go_num, HLj, HMj, Lib.hid (fun _ => ⟨rfl, rfl⟩)⟩
                    case measure => simp [intOf]; omega
        · have hq3' : ¬ (q : Int) < 3 := by omega
          obtain ⟨hac, hT⟩ := hq1.out (by omega)
          subst hT
          have hoa := HMq.out.oa
          obtain ⟨A1, c1, rfl⟩ := own_slice hoa
          have hz : T - ac = 0 := by omega
          have HP := Lib.hid (parts_any _ _ A1 (T - ac) c1 (outL ac T) T 0 0 gma ga false wr HMq.out.ea (SliceOf.of_own_s hoa lt_len rfl (outL_len _ _)) (by omega) (by omega))
          rw [hz] at HP
          clear hoa hq1
          go_wp2_with fail
          refine HP.out.mono ?_
          rintro e w9 ⟨A', c', rfl, hb9⟩
          have HM9 := Lib.hid (HMq.out.on hb9)
          have t0 := HM9.out.pt.cell 0
          simp only [List.getElem?_toArray, List.getElem?_cons_zero] at t0
          clear hb9 HP
          go_wp2_with fail
          go_ret
          exact ⟨rfl, HM9.out.bel⟩
end Go.Proofs.Ytlicmhgpldmliaa.kit
