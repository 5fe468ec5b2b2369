/- share.Split of ten over three that are alike. No condition. -/
import Derived.Test.YtlicmhgpldmliaaTlV
import Derived.Test.YtlicmhgpldmliaaDiv
import Derived.Test.YtlicmhgpldmliaaShelf
import Derived.Test.YtlicmhgpldmliaaSoftX
namespace Go.Proofs.Ytlicmhgpldmliaa.kit
open Go.RowKit
set_option linter.unusedVariables false
set_option linter.unusedSimpArgs false

theorem ms1 (w : World) : (Instr.makeSlice 84 (.int .i64 3) (.int .i64 3)).run Try.prog w = .ok (.slice (some ⟨w.heap.size, 0, none⟩) 3 3) (w.alloc (.cells #[.int .i64 0, .int .i64 0, .int .i64 0] 2)) := by kernel_rfl
theorem ms2 (w : World) : (Instr.makeSlice 123 (.int .i64 3) (.int .i64 3)).run Try.prog w = .ok (.slice (some ⟨w.heap.size, 0, none⟩) 3 3) (w.alloc (.cells #[.int .u64 0, .int .u64 0, .int .u64 0] 122)) := by kernel_rfl
theorem ms3 (w : World) : (Instr.makeSlice 124 (.int .i64 3) (.int .i64 3)).run Try.prog w = .ok (.slice (some ⟨w.heap.size, 0, none⟩) 3 3) (w.alloc (.cells #[.int .i64 0, .int .i64 0, .int .i64 0] 3)) := by kernel_rfl
theorem ix1 {P : Program} {w : World} (ty e : TypeId) (ht : P.underlying ty = some (.slice e)) (hs : (P.info? e).map (·.size) = some 1) (g k n c : Nat) (hk : k < n) : (Instr.indexAt ty (.slice (some ⟨g, 0, none⟩) n c) (.int .i64 k)).run P w = .ok (.pointer (some ⟨g, k, none⟩)) w := by
  obtain ⟨j, hj, hjs⟩ := Option.map_eq_some_iff.1 hs
  have hs : ∀ u, (sizeOf e).run P u = .ok 1 u := fun u => by simp [sizeOf, typeInfo, hj, hjs]
  have h1 : (0 : Int) ≤ (k : Int) ∧ (k : Int) < (n : Int) := by omega
  simp [Instr.indexAt, run_underlying ht, asIntOf, hs, hk, addr_add, Result.andThen]
def pA (k : Nat) : Array Value := #[.int .i64 (if 0 < k then 3 else 0), .int .i64 (if 1 < k then 3 else 0), .int .i64 (if 2 < k then 3 else 0)]
def rA (k : Nat) : Array Value := #[.int .u64 (if 0 < k then 1 else 0), .int .u64 (if 1 < k then 1 else 0), .int .u64 (if 2 < k then 1 else 0)]
def oA (k : Nat) : Array Value := #[.int .i64 (if 0 < k then 0 else 0), .int .i64 (if 1 < k then 1 else 0), .int .i64 (if 2 < k then 2 else 0)]
theorem pA_at {k : Nat} (h : k < 3) : (pA k)[k]? = some (.int .i64 0) := by rcases k with _ | _ | _ | k <;> first | rfl | omega
theorem rA_at {k : Nat} (h : k < 3) : (rA k)[k]? = some (.int .u64 0) := by rcases k with _ | _ | _ | k <;> first | rfl | omega
theorem oA_at {k : Nat} (h : k < 3) : (oA k)[k]? = some (.int .i64 0) := by rcases k with _ | _ | _ | k <;> first | rfl | omega
theorem pA_last {k : Nat} (h : k < 3) : (pA (k + 1))[k]? = some (.int .i64 3) := by rcases k with _ | _ | _ | k <;> first | rfl | omega
theorem pA_set {k : Nat} (h : k < 3) : (pA k).setIfInBounds k (.int .i64 3) = pA (k + 1) := by rcases k with _ | _ | _ | k <;> first | rfl | omega
theorem rA_set {k : Nat} (h : k < 3) : (rA k).setIfInBounds k (.int .u64 1) = rA (k + 1) := by rcases k with _ | _ | _ | k <;> first | rfl | omega
theorem oA_set {k : Nat} (h : k < 3) : (oA k).setIfInBounds k (.int .i64 (k : Int)) = oA (k + 1) := by rcases k with _ | _ | _ | k <;> first | rfl | omega
set_option maxRecDepth 100000 in
set_option maxHeartbeats 3200000 in
theorem split_ten (b : Nat) (w : World) (hk : Blk w b 2 #[.int .i64 1, .int .i64 1, .int .i64 1]) :
    Calls Try.prog 28 #[.int .i64 10, .slice (some ⟨b, 0, none⟩) 3 3] w fun e w' => ∃ q, e = .returned (.tuple #[.slice (some ⟨q, 0, none⟩) 3 3, .int .i64 0]) ∧ Blk w' q 2 #[.int .i64 4, .int .i64 3, .int .i64 3] ∧ Below w.heap.size w w' := by
  have q1 := ms1
  have q2 := ms2
  have q3 := ms3
  have HW := Lib.hid (wrong_any b w hk)
  have HK := Lib.hid hk
  clear hk
  go_enter Try.func28, Try.ntmps28
  go_wp2_with fail
  refine HW.out.mono ?_
  rintro e w' ⟨rfl, rfl⟩
  have HB1 := Lib.hid (one_alloc w (.cells #[.int .i64 0, .int .i64 0, .int .i64 0] 2))
  have HK1 := Lib.hid (HK.out.alloc (.cells #[.int .i64 0, .int .i64 0, .int .i64 0] 2))
  have HR1 := Lib.hid (Blk.new w 2 #[.int .i64 0, .int .i64 0, .int .i64 0])
  go_upto_region 5 with (fail)
  obtain ⟨w1, hw1⟩ : ∃ W, w.alloc (.cells #[.int .i64 0, .int .i64 0, .int .i64 0] 2) = W := ⟨_, rfl⟩
  obtain ⟨q, hq⟩ : ∃ g, w.heap.size = g := ⟨_, rfl⟩
  rw [hw1] at HB1 HK1 HR1 ⊢
  rw [hq] at HR1
  simp only [hq]
  have HG1 := Lib.hid hq
  clear hw1 hq
  have k0 := HK1.out.cell 0; have k1 := HK1.out.cell 1; have k2 := HK1.out.cell 2
  simp only [List.getElem?_toArray, List.getElem?_cons_zero, List.getElem?_cons_succ] at k0 k1 k2
  have HC : Hid (∀ i : Nat, i < 3 → w1.cell? ⟨b, i, none⟩ = some (.int .i64 1)) := Lib.hid (fun i hi => by
    rcases i with _ | _ | _ | i
    · exact k0
    · exact k1
    · exact k2
    · omega)
  clear k0 k1 k2
  go_wp2_with fail
  go_loopw [8, 36] (fun s i wr => ∃ k : Nat, k ≤ 3 ∧ s = .int .u64 k ∧ i = .int .i64 k ∧ wr = w1) (fun _ i _ => 3 - (intOf i).toNat)
  case atStart => exact ⟨0, by omega, rfl, rfl, rfl⟩
  case round =>
    obtain ⟨k, hk, rfl, rfl, rfl⟩ := hrel
    by_cases hlt : k < 3
    · have hc := HC.out k hlt
      have hkn : (k : Int) < 3 := by omega
      go_wp2_with fail
      go_roundw
      case rel => exact ⟨k + 1, by omega, by go_num, by go_num, by first | trivial | rfl⟩
      case measure => simp [intOf]; omega
    · have hk3 : k = 3 := by omega
      subst hk3
      have HR2 := Lib.hid (((Blk.new wr 122 (rA 0)).alloc (.cells #[.slice (some ⟨wr.heap.size, 0, none⟩) 3 3] 123)))
      have HC2 := Lib.hid (blk_second wr (.cells (rA 0) 122) 123 #[.slice (some ⟨wr.heap.size, 0, none⟩) 3 3])
      have HQ2 := Lib.hid ((HR1.out.alloc (.cells (rA 0) 122)).alloc (.cells #[.slice (some ⟨wr.heap.size, 0, none⟩) 3 3] 123))
      have HB2 := Lib.hid (HB1.out.trans ((two_alloc wr (.cells (rA 0) 122) (.cells #[.slice (some ⟨wr.heap.size, 0, none⟩) 3 3] 123)).mono HB1.out.size))
      have HQR : Hid (q < wr.heap.size) := Lib.hid HR1.out.lt
      go_upto_region 14 with (fail)
      obtain ⟨w2, hw2⟩ : ∃ W, (wr.alloc (.cells #[.int .u64 0, .int .u64 0, .int .u64 0] 122)).alloc (.cells #[.slice (some ⟨wr.heap.size, 0, none⟩) 3 3] 123) = W := ⟨_, rfl⟩
      have HS2 : Hid (w2.heap.size = wr.heap.size + 2) := Lib.hid (by rw [← hw2, size_alloc, size_alloc])
      rw [show (rA 0) = #[.int .u64 0, .int .u64 0, .int .u64 0] from rfl, hw2] at HR2 HC2 HQ2 HB2
      rw [hw2]
      obtain ⟨r, hr⟩ : ∃ r, wr.heap.size = r := ⟨_, rfl⟩
      rw [hr] at HR2 HC2 HQR HS2
      simp only [hr]
      clear hw2 hr HK1 HB1 HR1 HC
      have HR3 := Lib.hid (HR2.out.alloc (.cells (oA 0) 3))
      have HC3 := Lib.hid (HC2.out.alloc (.cells (oA 0) 3))
      have HQ3 := Lib.hid (HQ2.out.alloc (.cells (oA 0) 3))
      have HD3 := Lib.hid (Blk.new w2 3 (oA 0))
      have HB3 := Lib.hid (HB2.out.trans ((one_alloc w2 (.cells (oA 0) 3)).mono HB2.out.size))
      go_upto_region 15 with (fail)
      obtain ⟨w3, hw3⟩ : ∃ W, w2.alloc (.cells #[.int .i64 0, .int .i64 0, .int .i64 0] 3) = W := ⟨_, rfl⟩
      rw [show (oA 0) = #[.int .i64 0, .int .i64 0, .int .i64 0] from rfl, hw3] at HR3 HC3 HQ3 HD3 HB3
      rw [hw3]
      obtain ⟨d, hd⟩ : ∃ d, w2.heap.size = d := ⟨_, rfl⟩
      rw [hd] at HD3 HS2
      simp only [hd]
      clear hw3 hd HR2 HC2 HQ2 HB2
      obtain ⟨c, hc⟩ : ∃ c, r + 1 = c := ⟨_, rfl⟩
      have HNE : Hid (q < r ∧ c = r + 1 ∧ d = r + 2 ∧ w.heap.size ≤ q) := Lib.hid ⟨HQR.out, hc.symm, HS2.out, Nat.le_of_eq HG1.out⟩
      have HNC : Hid (¬ (c = q ∨ c = r ∨ c = d)) := Lib.hid (by have := HNE.out; omega)
      rw [hc] at HC3
      simp only [hc]
      clear hc HQR HS2
      have HM : Hid (∀ w, Calls Try.prog 49 #[.int .u64 10, .int .u64 1] w fun e w' => e = .returned (.tuple #[.int .u64 0, .int .u64 10]) ∧ w' = w) := Lib.hid (fun w => Try.bits_Mul64 10 1 (by omega) (by omega) w)
      have HV : Hid (∀ w, Calls Try.prog 50 #[.int .u64 0, .int .u64 10, .int .u64 3] w fun e w' => e = .returned (.tuple #[.int .u64 3, .int .u64 1]) ∧ Below w.heap.size w w') := Lib.hid (fun w => div64_low 10 3 (by omega) (by omega) (by omega) w)
      go_wp2_with fail
      go_loopw [13, 54] (fun lf i wr => ∃ k : Nat, k ≤ 3 ∧ lf = .int .i64 (10 - 3 * (k : Int)) ∧ i = .int .i64 k ∧ Hid (Blk wr q 2 (pA k)) ∧ Hid (Blk wr r 122 (rA k)) ∧ Hid (Blk wr d 3 (oA k)) ∧ Hid (Blk wr c 123 #[.slice (some ⟨r, 0, none⟩) 3 3]) ∧ Hid (Below w.heap.size w wr)) (fun _ i _ => 3 - (intOf i).toNat)
      case atStart => exact ⟨0, by omega, rfl, rfl, HQ3, HR3, HD3, HC3, HB3⟩
      case round =>
        obtain ⟨k, hk, rfl, rfl, hq, hr, hd, hc, hB⟩ := hrel
        by_cases hlt : k < 3
        · have hb0 := HK.out.below hB.out HK.out.lt
          have k0 := hb0.cell 0; have k1 := hb0.cell 1; have k2 := hb0.cell 2
          simp only [List.getElem?_toArray, List.getElem?_cons_zero, List.getElem?_cons_succ] at k0 k1 k2
          have HC : ∀ i : Nat, i < 3 → wr.cell? ⟨b, i, none⟩ = some (.int .i64 1) := fun i hi => by
            rcases i with _ | _ | _ | i
            · exact k0
            · exact k1
            · exact k2
            · omega
          have ck := HC k hlt
          have hkn : (k : Int) < 3 := by omega
          clear hb0 k0 k1 k2 HC
          go_wp2_with fail
          refine (HM.out _).mono ?_
          rintro e w' ⟨rfl, rfl⟩
          go_wp2_with fail
          refine (HV.out _).mono ?_
          rintro e w4 ⟨rfl, hb4⟩
          have HQ4 := Lib.hid (hq.out.below hb4 hq.out.lt)
          have HR4 := Lib.hid (hr.out.below hb4 hr.out.lt)
          have HD4 := Lib.hid (hd.out.below hb4 hd.out.lt)
          have HC5 := Lib.hid (hc.out.below hb4 hc.out.lt)
          have HB4 := Lib.hid (hB.out.trans (hb4.mono hB.out.size))
          clear hb4 ck
          go_upto_region 21 with (fail)
          refine wp_region_softX [Is (.slice (some ⟨q, 0, none⟩) 3 3), Is (.int .i64 (k : Int)), Is (.slice (some ⟨r, 0, none⟩) 3 3), Is (.int .i64 (k : Int)), Is (.slice (some ⟨d, 0, none⟩) 3 3), Is (.int .i64 (k : Int)), Is (.int .u64 3), Is (.int .i64 3), Is (.int .u64 1), Is (.int .i64 (k : Int)), Is (.pointer (some ⟨q, k, none⟩)), AnyV, Is (.pointer (some ⟨r, k, none⟩)), AnyV, Is (.pointer (some ⟨d, k, none⟩)), AnyV] ⟨stab_is _, stab_is _, stab_is _, stab_is _, stab_is _, stab_is _, stab_is _, stab_is _, stab_is _, stab_is _, stab_is _, stab_anyv, stab_is _, stab_anyv, stab_is _, stab_anyv, trivial⟩ (fun j => j = q ∨ j = r ∨ j = d) ⟨stabf_is _ _, stabf_is _ _, stabf_is _ _, stabf_is _ _, stabf_is _ _, stabf_is _ _, stabf_is _ _, stabf_is _ _, stabf_is _ _, stabf_is _ _, stabf_is _ _, stabf_anyv _, stabf_is _ _, stabf_anyv _, stabf_is _ _, stabf_anyv _, trivial⟩ [false, false, false, false, false, false, false, false, false, false, false, true, false, true, false, true] (fun done _ W => Blk W q 2 (if done 11 = true then pA (k + 1) else pA k) ∧ Blk W r 122 (if done 13 = true then rA (k + 1) else rA k) ∧ Blk W d 3 (if done 15 = true then oA (k + 1) else oA k)) ?_ ?_ (by kernel_rfl) (by kernel_rfl) ?_ ?_
          · intro i hi done vs v W W' h hnd hb
            have n11 : upDn done i 11 = done 11 := up_ne done (fun e => by subst e; exact absurd hi (by decide))
            have n13 : upDn done i 13 = done 13 := up_ne done (fun e => by subst e; exact absurd hi (by decide))
            have n15 : upDn done i 15 = done 15 := up_ne done (fun e => by subst e; exact absurd hi (by decide))
            rw [n11, n13, n15]
            exact ⟨h.1.below hb h.1.lt, h.2.1.below hb h.2.1.lt, h.2.2.below hb h.2.2.lt⟩
          · exact ⟨HQ4.out.drew, HR4.out.drew, HD4.out.drew⟩
          · refine ⟨?_, ?_, ?_, ?_, ?_, ?_, ?_, ?_, ?_, ?_, ?_, ?_, ?_, ?_, ?_, ?_, trivial⟩
            all_goals intro done vs ac W1 hdep hnd hB hR hX hE
            all_goals try simp only [Nat.zero_add, Nat.reduceAdd] at hnd ⊢
            all_goals have ec : ∀ v : Value, ac.eval (.const v) = v := fun _ => rfl
            all_goals try simp [Region.binds] at hdep
            · have e7 : ac.eval (.tmp 7) = .slice (some ⟨q, 0, none⟩) 3 3 := (hE 7 (by simp)).trans (by simp [evF, Act.eval])
              exact soft_value (.slice (some ⟨q, 0, none⟩) 3 3) (by unfold execOp; simp only [e7, ec]; rfl) rfl
            · have e14 : ac.eval (.tmp 14) = .int .i64 (k : Int) := (hE 14 (by simp)).trans (by simp [evF, Act.eval])
              exact soft_value (.int .i64 (k : Int)) (by unfold execOp; simp only [e14, ec]; rfl) rfl
            · have e11 : ac.eval (.tmp 11) = .pointer (some ⟨c, 0, none⟩) := (hE 11 (by simp)).trans (by simp [evF, Act.eval])
              have hc0 : W1.cell? ⟨c, 0, none⟩ = some (.slice (some ⟨r, 0, none⟩) 3 3) := (HC5.out.fr hB HNC.out).cell 0
              exact soft_value (.slice (some ⟨r, 0, none⟩) 3 3) (by unfold execOp; simp only [e11]; go_simp) rfl
            · have e14 : ac.eval (.tmp 14) = .int .i64 (k : Int) := (hE 14 (by simp)).trans (by simp [evF, Act.eval])
              exact soft_value (.int .i64 (k : Int)) (by unfold execOp; simp only [e14, ec]; rfl) rfl
            · have e12 : ac.eval (.tmp 12) = .slice (some ⟨d, 0, none⟩) 3 3 := (hE 12 (by simp)).trans (by simp [evF, Act.eval])
              exact soft_value (.slice (some ⟨d, 0, none⟩) 3 3) (by unfold execOp; simp only [e12, ec]; rfl) rfl
            · have e14 : ac.eval (.tmp 14) = .int .i64 (k : Int) := (hE 14 (by simp)).trans (by simp [evF, Act.eval])
              exact soft_value (.int .i64 (k : Int)) (by unfold execOp; simp only [e14, ec]; rfl) rfl
            · have e18 : ac.eval (.tmp 18) = .int .u64 3 := (hE 18 (by simp)).trans (by simp [evF, Act.eval])
              exact soft_value (.int .u64 3) (by unfold execOp; simp only [e18, ec]; rfl) rfl
            · have d6 : vs 6 = .int .u64 3 := hR 6 (by simp [hdep])
              have e80 : ac.eval (.tmp 80) = .int .u64 3 := (hE 80 (by simp)).trans (by simp [evF, hdep, d6])
              exact soft_value (.int .i64 3) (by unfold execOp; simp only [e80]; kernel_rfl) rfl
            · have e19 : ac.eval (.tmp 19) = .int .u64 1 := (hE 19 (by simp)).trans (by simp [evF, Act.eval])
              exact soft_value (.int .u64 1) (by unfold execOp; simp only [e19, ec]; rfl) rfl
            · have e14 : ac.eval (.tmp 14) = .int .i64 (k : Int) := (hE 14 (by simp)).trans (by simp [evF, Act.eval])
              exact soft_value (.int .i64 (k : Int)) (by unfold execOp; simp only [e14, ec]; rfl) rfl
            · have d0 : vs 0 = .slice (some ⟨q, 0, none⟩) 3 3 := hR 0 (by simp [hdep])
              have e74 : ac.eval (.tmp 74) = .slice (some ⟨q, 0, none⟩) 3 3 := (hE 74 (by simp)).trans (by simp [evF, hdep, d0])
              have d1 : vs 1 = .int .i64 (k : Int) := hR 1 (by simp [hdep])
              have e75 : ac.eval (.tmp 75) = .int .i64 (k : Int) := (hE 75 (by simp)).trans (by simp [evF, hdep, d1])
              exact soft_value (.pointer (some ⟨q, k, none⟩)) (by unfold execOp; simp only [e74, e75]; simp [ix1 84 _ Try.underlying84 (by kernel_rfl) q k 3 3 hlt, Result.andThen]) rfl
            · have d10 : vs 10 = .pointer (some ⟨q, k, none⟩) := hR 10 (by simp [hdep])
              have e84 : ac.eval (.tmp 84) = .pointer (some ⟨q, k, none⟩) := (hE 84 (by simp)).trans (by simp [evF, hdep, d10])
              have d7 : vs 7 = .int .i64 3 := hR 7 (by simp [hdep])
              have e81 : ac.eval (.tmp 81) = .int .i64 3 := (hE 81 (by simp)).trans (by simp [evF, hdep, d7])
              have hb := hX.1
              rw [hnd] at hb
              have hcc := hb.cell k
              rw [if_neg (by decide), pA_at hlt] at hcc
              have hs := hb.set_ k (.int .i64 3)
              rw [if_neg (by decide), pA_set hlt] at hs
              have n13 : upDn done 11 13 = done 13 := up_ne done (by decide)
              have n15 : upDn done 11 15 = done 15 := up_ne done (by decide)
              refine wp_store_val 2 _ _ rfl q k (.int .i64 3) _ e84 e81 hcc (hb.frozen k) (by kernel_rfl) rfl rfl ⟨_, rfl, (Fr.refl _ _).setCell (p := ⟨q, k, none⟩) (.inl (by simp)) _, ⟨(by rw [up_same, if_pos rfl]; exact hs), (by rw [n13]; exact (hX.2.1).far (p := ⟨q, k, none⟩) (by have := HNE.out; simp; omega) _), (by rw [n15]; exact (hX.2.2).far (p := ⟨q, k, none⟩) (by have := HNE.out; simp; omega) _)⟩, trivial⟩
            · have d2 : vs 2 = .slice (some ⟨r, 0, none⟩) 3 3 := hR 2 (by simp [hdep])
              have e76 : ac.eval (.tmp 76) = .slice (some ⟨r, 0, none⟩) 3 3 := (hE 76 (by simp)).trans (by simp [evF, hdep, d2])
              have d3 : vs 3 = .int .i64 (k : Int) := hR 3 (by simp [hdep])
              have e77 : ac.eval (.tmp 77) = .int .i64 (k : Int) := (hE 77 (by simp)).trans (by simp [evF, hdep, d3])
              exact soft_value (.pointer (some ⟨r, k, none⟩)) (by unfold execOp; simp only [e76, e77]; simp [ix1 123 _ Try.underlying123 (by kernel_rfl) r k 3 3 hlt, Result.andThen]) rfl
            · have d12 : vs 12 = .pointer (some ⟨r, k, none⟩) := hR 12 (by simp [hdep])
              have e85 : ac.eval (.tmp 85) = .pointer (some ⟨r, k, none⟩) := (hE 85 (by simp)).trans (by simp [evF, hdep, d12])
              have d8 : vs 8 = .int .u64 1 := hR 8 (by simp [hdep])
              have e82 : ac.eval (.tmp 82) = .int .u64 1 := (hE 82 (by simp)).trans (by simp [evF, hdep, d8])
              have hb := hX.2.1
              rw [hnd] at hb
              have hcc := hb.cell k
              rw [if_neg (by decide), rA_at hlt] at hcc
              have hs := hb.set_ k (.int .u64 1)
              rw [if_neg (by decide), rA_set hlt] at hs
              have n11 : upDn done 13 11 = done 11 := up_ne done (by decide)
              have n15 : upDn done 13 15 = done 15 := up_ne done (by decide)
              refine wp_store_val 122 _ _ rfl r k (.int .u64 1) _ e85 e82 hcc (hb.frozen k) (by kernel_rfl) rfl rfl ⟨_, rfl, (Fr.refl _ _).setCell (p := ⟨r, k, none⟩) (.inl (by simp)) _, ⟨(by rw [n11]; exact (hX.1).far (p := ⟨r, k, none⟩) (by have := HNE.out; simp; omega) _), (by rw [up_same, if_pos rfl]; exact hs), (by rw [n15]; exact (hX.2.2).far (p := ⟨r, k, none⟩) (by have := HNE.out; simp; omega) _)⟩, trivial⟩
            · have d4 : vs 4 = .slice (some ⟨d, 0, none⟩) 3 3 := hR 4 (by simp [hdep])
              have e78 : ac.eval (.tmp 78) = .slice (some ⟨d, 0, none⟩) 3 3 := (hE 78 (by simp)).trans (by simp [evF, hdep, d4])
              have d5 : vs 5 = .int .i64 (k : Int) := hR 5 (by simp [hdep])
              have e79 : ac.eval (.tmp 79) = .int .i64 (k : Int) := (hE 79 (by simp)).trans (by simp [evF, hdep, d5])
              exact soft_value (.pointer (some ⟨d, k, none⟩)) (by unfold execOp; simp only [e78, e79]; simp [ix1 124 _ Try.underlying124 (by kernel_rfl) d k 3 3 hlt, Result.andThen]) rfl
            · have d14 : vs 14 = .pointer (some ⟨d, k, none⟩) := hR 14 (by simp [hdep])
              have e86 : ac.eval (.tmp 86) = .pointer (some ⟨d, k, none⟩) := (hE 86 (by simp)).trans (by simp [evF, hdep, d14])
              have d9 : vs 9 = .int .i64 (k : Int) := hR 9 (by simp [hdep])
              have e83 : ac.eval (.tmp 83) = .int .i64 (k : Int) := (hE 83 (by simp)).trans (by simp [evF, hdep, d9])
              have hb := hX.2.2
              rw [hnd] at hb
              have hcc := hb.cell k
              rw [if_neg (by decide), oA_at hlt] at hcc
              have hs := hb.set_ k (.int .i64 (k : Int))
              rw [if_neg (by decide), oA_set hlt] at hs
              have n11 : upDn done 15 11 = done 11 := up_ne done (by decide)
              have n13 : upDn done 15 13 = done 13 := up_ne done (by decide)
              refine wp_store_val 3 _ _ rfl d k (.int .i64 (k : Int)) _ e86 e83 hcc (hb.frozen k) (by kernel_rfl) rfl rfl ⟨_, rfl, (Fr.refl _ _).setCell (p := ⟨d, k, none⟩) (.inl (by simp)) _, ⟨(by rw [n11]; exact (hX.1).far (p := ⟨d, k, none⟩) (by have := HNE.out; simp; omega) _), (by rw [n13]; exact (hX.2.1).far (p := ⟨d, k, none⟩) (by have := HNE.out; simp; omega) _), (by rw [up_same, if_pos rfl]; exact hs)⟩, trivial⟩
          · intro done vs W hall hB hR hX
            have x11 := hall 11 (by simp); have x13 := hall 13 (by simp); have x15 := hall 15 (by simp)
            rw [x11, x13, x15, if_pos rfl, if_pos rfl, if_pos rfl] at hX
            have HQ6 := Lib.hid hX.1; have HR6 := Lib.hid hX.2.1; have HD6 := Lib.hid hX.2.2
            have HC6 := Lib.hid (HC5.out.fr hB HNC.out)
            have HB6 : Hid (Below w.heap.size w W) := Lib.hid (hB.bel HB4.out (fun j hj => by have := HNE.out; omega) HB4.out.size)
            simp only [fillA, Act.put, List.setIfInBounds_toArray, List.set_cons_zero, List.set_cons_succ, if_true]
            clear hX hall hR hB x11 x13 x15
            have ck := HQ6.out.cell k
            rw [pA_last hlt] at ck
            go_wp2_with fail
            go_roundw
            case rel =>
              (repeat apply Exists.intro)
              exact ⟨⟨k + 1, by omega, by go_num, by go_num, HQ6, HR6, HD6, HC6, HB6⟩, rfl⟩
            case measure => simp [intOf]; omega
        · have hk3 : k = 3 := by omega
          subst hk3
          have hd3 : Blk wr d 3 #[.int .i64 0, .int .i64 1, .int .i64 2] := hd.out
          have hr3 : Blk wr r 122 #[.int .u64 1, .int .u64 1, .int .u64 1] := hr.out
          have hq3 : Blk wr q 2 #[.int .i64 3, .int .i64 3, .int .i64 3] := hq.out
          have HS := Lib.hid (sort_any d c r wr hd3 hc.out hr3)
          go_wp2_with fail
          refine HS.out.mono ?_
          rintro e w7 ⟨rfl, hb7⟩
          have HQ7 := Lib.hid (hq3.below hb7 hq3.lt)
          have HD7 := Lib.hid (hd3.below hb7 hd3.lt)
          have HB7 := Lib.hid (hB.out.trans (hb7.mono hB.out.size))
          clear hb7 hd3 hr3 hq3 hr hc
          go_wp2_with fail
          go_loopw [101] (fun i wr => ∃ k : Nat, k ≤ 1 ∧ i = .int .i64 k ∧ Hid (Blk wr q 2 #[.int .i64 (3 + (k : Int)), .int .i64 3, .int .i64 3]) ∧ Hid (Blk wr d 3 #[.int .i64 0, .int .i64 1, .int .i64 2]) ∧ Hid (Below w.heap.size w wr)) (fun i _ => 1 - (intOf i).toNat)
          case atStart => exact ⟨0, by omega, rfl, HQ7, HD7, HB7⟩
          case round =>
            obtain ⟨k, hk, rfl, hq, hd, hB⟩ := hrel
            rcases k with _ | k
            · have d0 := hd.out.cell 0; have p0 := hq.out.cell 0; have f0 := hq.out.frozen 0
              simp only [List.getElem?_toArray, List.getElem?_cons_zero, List.getElem?_cons_succ] at d0 p0
              go_wp2_with fail
              go_roundw
              case rel => exact ⟨1, by omega, by go_num, Lib.hid (by have := hq.out.set_ 0 (.int .i64 4); simpa using this), Lib.hid (hd.out.far (p := ⟨q, 0, none⟩) (by have := HNE.out; simp; omega) _), Lib.hid (hB.out.setCell (p := ⟨q, 0, none⟩) (by have := HNE.out; simp; omega) _)⟩
              case measure => simp [intOf]
            · have hk0 : k = 0 := by omega
              subst hk0
              go_wp2_with fail
              go_ret2
              exact ⟨q, rfl, by simpa using hq.out, hB.out⟩
theorem counts_any (w : World) : Calls Try.prog 6 #[] w fun e w' => e = .returned (.bool true) ∧ Below w.heap.size w w' := by
  have hbs : (Instr.buildSlice 84 3 #[(0, .int .i64 1), (1, .int .i64 1), (2, .int .i64 1)]).run Try.prog w = .ok (.slice (some ⟨w.heap.size, 0, none⟩) 3 3) (w.alloc (.cells #[.int .i64 1, .int .i64 1, .int .i64 1] 2)) := by kernel_rfl
  have HS := Lib.hid (split_ten w.heap.size (w.alloc (.cells #[.int .i64 1, .int .i64 1, .int .i64 1] 2)) (Blk.new _ _ _))
  have HB := Lib.hid (one_alloc w (.cells #[.int .i64 1, .int .i64 1, .int .i64 1] 2))
  go_enter Try.func6, Try.ntmps6
  go_wp2_with fail
  refine HS.out.mono ?_
  rintro e w1 ⟨q, rfl, hq, hb⟩
  have HB1 := Lib.hid (HB.out.trans (hb.mono HB.out.size))
  have c0 := hq.cell 0; have c1 := hq.cell 1; have c2 := hq.cell 2
  simp only [List.getElem?_toArray, List.getElem?_cons_zero, List.getElem?_cons_succ] at c0 c1 c2
  clear hq hb
  go_wp2_with fail
  go_ret
  exact ⟨rfl, HB1.out⟩
end Go.Proofs.Ytlicmhgpldmliaa.kit
