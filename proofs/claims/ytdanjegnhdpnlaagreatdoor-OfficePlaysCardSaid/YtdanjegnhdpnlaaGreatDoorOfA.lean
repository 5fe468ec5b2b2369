/- An office: what is due of a deal; the two letters that its goods are free. No condition. -/
import Derived.Test.YtdanjegnhdpnlaaGreatDoorOfH
import Derived.Test.YtdanjegnhdpnlaaGreatDoorMyS1
import Derived.Lib.MinMax
namespace Go.Proofs.YtdanjegnhdpnlaaGreatDoor.kit
open Go.RowKit
set_option linter.unusedVariables false
set_option linter.unusedSimpArgs false
theorem rbuild (w : World) (a b : Int) : (Instr.build 105 #[(0, .int .i64 a), (1, .int .i64 b)]).run Tryz.prog w = .ok (.agg #[.int .i64 a, .int .i64 b]) w := run_build w _ _ _ (by kernel_rfl)
theorem lbuild (w : World) (a : ByteArray) (k : Int) : (Instr.build 57 #[(1, .string a), (3, .int .i64 k)]).run Tryz.prog w = .ok (.agg #[.string ⟨#[]⟩, .string a, .int .i64 0, .int .i64 k, .int .i64 0, .string ⟨#[]⟩, .string ⟨#[]⟩, .string ⟨#[]⟩, .int .i64 0, .int .i64 0, .string ⟨#[]⟩, .int .i64 0, .slice none 0 0, .slice none 0 0]) w := run_build w _ _ _ (by kernel_rfl)
theorem lslice2 (w : World) (a b : ByteArray) (k j : Int) : (Instr.buildSlice 30 2 #[(0, .agg #[.string ⟨#[]⟩, .string a, .int .i64 0, .int .i64 k, .int .i64 0, .string ⟨#[]⟩, .string ⟨#[]⟩, .string ⟨#[]⟩, .int .i64 0, .int .i64 0, .string ⟨#[]⟩, .int .i64 0, .slice none 0 0, .slice none 0 0]), (1, .agg #[.string ⟨#[]⟩, .string b, .int .i64 0, .int .i64 j, .int .i64 0, .string ⟨#[]⟩, .string ⟨#[]⟩, .string ⟨#[]⟩, .int .i64 0, .int .i64 0, .string ⟨#[]⟩, .int .i64 0, .slice none 0 0, .slice none 0 0])]).run Tryz.prog w = .ok (.slice (some ⟨w.heap.size, 0, none⟩) 2 2) (w.alloc (.cells #[.string ⟨#[]⟩, .string a, .int .i64 0, .int .i64 k, .int .i64 0, .string ⟨#[]⟩, .string ⟨#[]⟩, .string ⟨#[]⟩, .int .i64 0, .int .i64 0, .string ⟨#[]⟩, .int .i64 0, .slice none 0 0, .slice none 0 0, .string ⟨#[]⟩, .string b, .int .i64 0, .int .i64 j, .int .i64 0, .string ⟨#[]⟩, .string ⟨#[]⟩, .string ⟨#[]⟩, .int .i64 0, .int .i64 0, .string ⟨#[]⟩, .int .i64 0, .slice none 0 0, .slice none 0 0] 57)) := by kernel_rfl
set_option maxRecDepth 100000 in
set_option maxHeartbeats 6400000 in
theorem duty_any (p : Nat) (d : Dl) (A : Option Addr) (nb c : Nat) (s : St) (w : World) (h : DeAt w p d (.slice A nb c) s) (ho : d.ok) :
    Calls Tryz.prog 61 #[(.pointer (some ⟨p, 0, none⟩))] w fun e w' => e = .returned (.int .i64 (dueV d)) ∧ Below w.heap.size w w' := by
  have HD := Lib.hid h
  have NP : ¬ w.heap.size ≤ p := by have := h.lt; omega
  obtain ⟨r, hr⟩ : ∃ r, scaleV ⟨d.cur, d.amt⟩ (max d.dut 0) 1000 1 = r := ⟨_, rfl⟩
  have HSC : Hid (∀ W, Calls Tryz.prog 63 #[.agg #[.string d.cur, .int .i64 d.amt], .agg #[.int .i64 (max d.dut 0), .int .i64 1000], .int .i64 1] W fun e w' => e = .returned (.tuple #[.agg #[.string r.1.cur, .int .i64 r.1.amt], .bool r.2]) ∧ Below W.heap.size W w') := Lib.hid (fun W => by
    have := scale1 ⟨d.cur, d.amt⟩ (max d.dut 0) 1000 W ho.cur ⟨by have := ho.dut.1; omega, by have := ho.dut.2; omega⟩ ⟨by omega, by omega⟩
    rw [hr] at this
    exact this)
  have HV : Hid (dueV d = if r.2 = true ∧ 0 ≤ r.1.amt then r.1.amt else 0) := Lib.hid (by unfold dueV; rw [hr])
  clear h ho hr
  go_enter Tryz.func61, Tryz.ntmps61
  go_upto_region 1 with (fail)
  refine wp_region_softX [Is (.pointer (some ⟨p, 0, none⟩)), Is (.pointer (some ⟨p, 0, none⟩)), Is (.pointer (some ⟨p, 0, none⟩)), Is (.pointer (some ⟨p, 9, none⟩)), Is (.agg #[.string d.cur, .int .i64 d.amt]), Is (.pointer (some ⟨p, 0, none⟩)), Is (.pointer (some ⟨p, 0, none⟩)), Is (.pointer (some ⟨p, 0, none⟩)), Is (.pointer (some ⟨p, 16, none⟩)), Is (.int .i64 d.dut), Is (.int .i64 (max d.dut 0)), Is (.agg #[.int .i64 (max d.dut 0), .int .i64 1000]), Is (.tuple #[.agg #[.string r.1.cur, .int .i64 r.1.amt], .bool r.2]), Is (.tuple #[.agg #[.string r.1.cur, .int .i64 r.1.amt], .bool r.2]), Is (.agg #[.string r.1.cur, .int .i64 r.1.amt]), Is (.bool r.2), AnyV, AnyV, Is (.bool r.2)] ⟨stab_is _, stab_is _, stab_is _, stab_is _, stab_is _, stab_is _, stab_is _, stab_is _, stab_is _, stab_is _, stab_is _, stab_is _, stab_is _, stab_is _, stab_is _, stab_is _, stab_anyv, stab_anyv, stab_is _, trivial⟩ (fun k => w.heap.size ≤ k) ⟨stabf_is _ _, stabf_is _ _, stabf_is _ _, stabf_is _ _, stabf_is _ _, stabf_is _ _, stabf_is _ _, stabf_is _ _, stabf_is _ _, stabf_is _ _, stabf_is _ _, stabf_is _ _, stabf_is _ _, stabf_is _ _, stabf_is _ _, stabf_is _ _, stabf_anyv _, stabf_anyv _, stabf_is _ _, trivial⟩ [false, false, false, false, false, false, false, false, false, false, false, false, false, false, false, false, true, true, false] (fun done vs W => OneX 50 w.heap.size #[.string ⟨#[]⟩, .int .i64 0] #[.string r.1.cur, .int .i64 r.1.amt] (done 16) (done 17) (vs 16) W) ?_ ?_ (by kernel_rfl) (by kernel_rfl) ?_ ?_
  · intro q_ hq_ done vs v_ W W' h hnd hb
    have n16 : upDn done q_ 16 = done 16 := up_ne done (fun e => by subst e; exact absurd hq_ (by decide))
    have n17 : upDn done q_ 17 = done 17 := up_ne done (fun e => by subst e; exact absurd hq_ (by decide))
    have m16 : upVs vs q_ v_ 16 = vs 16 := upv_ne vs v_ (fun e => by subst e; exact absurd hq_ (by decide))
    rw [n16, n17, m16]
    exact h.on hb
  · exact OneX.start
  · refine ⟨?_, ?_, ?_, ?_, ?_, ?_, ?_, ?_, ?_, ?_, ?_, ?_, ?_, ?_, ?_, ?_, ?_, ?_, ?_, trivial⟩
    all_goals intro done vs ac W1 hdep hnd hB hR hX hE
    all_goals try simp only [Nat.zero_add, Nat.reduceAdd] at hnd ⊢
    all_goals have ec : ∀ v : Value, ac.eval (.const v) = v := fun _ => rfl
    all_goals try simp [Region.binds] at hdep
    · have e0 : ac.eval (.tmp 0) = .pointer (some ⟨p, 0, none⟩) := (hE 0 (by simp)).trans (by simp [evF, Act.eval])
      exact soft_value (.pointer (some ⟨p, 0, none⟩)) (by unfold execOp; simp only [e0, ec]; rfl) rfl
    · have d0 : vs 0 = .pointer (some ⟨p, 0, none⟩) := hR 0 (by simp [hdep])
      have e6 : ac.eval (.tmp 6) = .pointer (some ⟨p, 0, none⟩) := (hE 6 (by simp)).trans (by simp [evF, hdep, d0])
      exact soft_value (.pointer (some ⟨p, 0, none⟩)) (by unfold execOp; simp only [e6]; go_simp) rfl
    · have d1 : vs 1 = .pointer (some ⟨p, 0, none⟩) := hR 1 (by simp [hdep])
      have e7 : ac.eval (.tmp 7) = .pointer (some ⟨p, 0, none⟩) := (hE 7 (by simp)).trans (by simp [evF, hdep, d1])
      exact soft_value (.pointer (some ⟨p, 0, none⟩)) (by unfold execOp; simp only [e7]; kernel_rfl) rfl
    · have d2 : vs 2 = .pointer (some ⟨p, 0, none⟩) := hR 2 (by simp [hdep])
      have e8 : ac.eval (.tmp 8) = .pointer (some ⟨p, 0, none⟩) := (hE 8 (by simp)).trans (by simp [evF, hdep, d2])
      exact soft_value (.pointer (some ⟨p, 9, none⟩)) (by unfold execOp; simp only [e8]; kernel_rfl) rfl
    · have d3 : vs 3 = .pointer (some ⟨p, 9, none⟩) := hR 3 (by simp [hdep])
      have e9 : ac.eval (.tmp 9) = .pointer (some ⟨p, 9, none⟩) := (hE 9 (by simp)).trans (by simp [evF, hdep, d3])
      have hc9 : W1.cell? ⟨p, 9, none⟩ = some (.string d.cur) := (HD.out.fr hB NP).cell 9
      have hc10 : W1.cell? ⟨p, 10, none⟩ = some (.int .i64 d.amt) := (HD.out.fr hB NP).cell 10
      exact soft_value (.agg #[.string d.cur, .int .i64 d.amt]) (by unfold execOp; simp only [e9]; go_simp) rfl
    · have e0 : ac.eval (.tmp 0) = .pointer (some ⟨p, 0, none⟩) := (hE 0 (by simp)).trans (by simp [evF, Act.eval])
      exact soft_value (.pointer (some ⟨p, 0, none⟩)) (by unfold execOp; simp only [e0, ec]; rfl) rfl
    · have d5 : vs 5 = .pointer (some ⟨p, 0, none⟩) := hR 5 (by simp [hdep])
      have e11 : ac.eval (.tmp 11) = .pointer (some ⟨p, 0, none⟩) := (hE 11 (by simp)).trans (by simp [evF, hdep, d5])
      exact soft_value (.pointer (some ⟨p, 0, none⟩)) (by unfold execOp; simp only [e11]; go_simp) rfl
    · have d6 : vs 6 = .pointer (some ⟨p, 0, none⟩) := hR 6 (by simp [hdep])
      have e12 : ac.eval (.tmp 12) = .pointer (some ⟨p, 0, none⟩) := (hE 12 (by simp)).trans (by simp [evF, hdep, d6])
      exact soft_value (.pointer (some ⟨p, 0, none⟩)) (by unfold execOp; simp only [e12]; kernel_rfl) rfl
    · have d7 : vs 7 = .pointer (some ⟨p, 0, none⟩) := hR 7 (by simp [hdep])
      have e13 : ac.eval (.tmp 13) = .pointer (some ⟨p, 0, none⟩) := (hE 13 (by simp)).trans (by simp [evF, hdep, d7])
      exact soft_value (.pointer (some ⟨p, 16, none⟩)) (by unfold execOp; simp only [e13]; kernel_rfl) rfl
    · have d8 : vs 8 = .pointer (some ⟨p, 16, none⟩) := hR 8 (by simp [hdep])
      have e14 : ac.eval (.tmp 14) = .pointer (some ⟨p, 16, none⟩) := (hE 14 (by simp)).trans (by simp [evF, hdep, d8])
      have hc16 : W1.cell? ⟨p, 16, none⟩ = some (.int .i64 d.dut) := (HD.out.fr hB NP).cell 16
      exact soft_value (.int .i64 d.dut) (by unfold execOp; simp only [e14]; go_simp) rfl
    · have d9 : vs 9 = .int .i64 d.dut := hR 9 (by simp [hdep])
      have e15 : ac.eval (.tmp 15) = .int .i64 d.dut := (hE 15 (by simp)).trans (by simp [evF, hdep, d9])
      exact soft_value (.int .i64 (max d.dut 0)) (by simp [execOp, resolve, invoke, builtin, e15, ec, Lib.run_max_ints, Result.andThen]) rfl
    · have d10 : vs 10 = .int .i64 (max d.dut 0) := hR 10 (by simp [hdep])
      have e16 : ac.eval (.tmp 16) = .int .i64 (max d.dut 0) := (hE 16 (by simp)).trans (by simp [evF, hdep, d10])
      exact soft_value (.agg #[.int .i64 (max d.dut 0), .int .i64 1000]) (by unfold execOp; simp [e16, ec]; simp [rbuild, Result.andThen]) rfl
    · have d4 : vs 4 = .agg #[.string d.cur, .int .i64 d.amt] := hR 4 (by simp [hdep])
      have e10 : ac.eval (.tmp 10) = .agg #[.string d.cur, .int .i64 d.amt] := (hE 10 (by simp)).trans (by simp [evF, hdep, d4])
      have d11 : vs 11 = .agg #[.int .i64 (max d.dut 0), .int .i64 1000] := hR 11 (by simp [hdep])
      have e17 : ac.eval (.tmp 17) = .agg #[.int .i64 (max d.dut 0), .int .i64 1000] := (hE 17 (by simp)).trans (by simp [evF, hdep, d11])
      refine soft_call 63 _ _ rfl (enters_fn Tryz.func63 (by kernel_rfl) rfl) #[.agg #[.string d.cur, .int .i64 d.amt], .agg #[.int .i64 (max d.dut 0), .int .i64 1000], .int .i64 1] (by simp [e10, e17, ec]) ?_
      refine (HSC.out W1).mono ?_
      rintro e9 w9 ⟨rfl, hb9⟩
      exact ⟨_, rfl, hb9, rfl⟩
    · have d12 : vs 12 = .tuple #[.agg #[.string r.1.cur, .int .i64 r.1.amt], .bool r.2] := hR 12 (by simp [hdep])
      have e18 : ac.eval (.tmp 18) = .tuple #[.agg #[.string r.1.cur, .int .i64 r.1.amt], .bool r.2] := (hE 18 (by simp)).trans (by simp [evF, hdep, d12])
      exact soft_value (.tuple #[.agg #[.string r.1.cur, .int .i64 r.1.amt], .bool r.2]) (by unfold execOp; simp only [e18, ec]; rfl) rfl
    · have d13 : vs 13 = .tuple #[.agg #[.string r.1.cur, .int .i64 r.1.amt], .bool r.2] := hR 13 (by simp [hdep])
      have e5 : ac.eval (.tmp 5) = .tuple #[.agg #[.string r.1.cur, .int .i64 r.1.amt], .bool r.2] := (hE 5 (by simp)).trans (by simp [evF, hdep, d13])
      exact soft_value (.agg #[.string r.1.cur, .int .i64 r.1.amt]) (by unfold execOp; simp only [e5]; first | rfl | go_simp) rfl
    · have d13 : vs 13 = .tuple #[.agg #[.string r.1.cur, .int .i64 r.1.amt], .bool r.2] := hR 13 (by simp [hdep])
      have e5 : ac.eval (.tmp 5) = .tuple #[.agg #[.string r.1.cur, .int .i64 r.1.amt], .bool r.2] := (hE 5 (by simp)).trans (by simp [evF, hdep, d13])
      exact soft_value (.bool r.2) (by unfold execOp; simp only [e5]; first | rfl | go_simp) rfl
    · have ds : done 17 = false := not_of hX.o hnd
      have n17 : upDn done 16 17 = done 17 := up_ne done (by decide)
      refine wp_alloc_z 50 rfl #[.string ⟨#[]⟩, .int .i64 0] (by kernel_rfl) ⟨_, rfl, (Fr.refl _ _).alloc _, ?_, trivial⟩
      rw [up_same, upv_same, n17, ds]
      exact ⟨fun _ => ⟨_, rfl, hB.size, Blk.new _ _ _⟩, fun q => (by cases q)⟩
    · obtain ⟨b16, hb16, hc16, hk16⟩ := hX.a (by simp [hdep])
      have d16 : vs 16 = .pointer (some ⟨b16, 0, none⟩) := hb16
      have e3 : ac.eval (.tmp 3) = .pointer (some ⟨b16, 0, none⟩) := (hE 3 (by simp)).trans (by simp [evF, hdep, d16])
      have d14 : vs 14 = .agg #[.string r.1.cur, .int .i64 r.1.amt] := hR 14 (by simp [hdep])
      have e19 : ac.eval (.tmp 19) = .agg #[.string r.1.cur, .int .i64 r.1.amt] := (hE 19 (by simp)).trans (by simp [evF, hdep, d14])
      have hdk : done 16 = true := by simp [hdep]
      rw [hnd] at hk16
      simp only [Bool.false_eq_true, if_false] at hk16
      have n16 : upDn done 17 16 = done 16 := up_ne done (by decide)
      have m16 : upVs vs 17 undef 16 = vs 16 := upv_ne vs undef (by decide)
      refine wp_store_row 50 (.tmp 3) (.tmp 19) rfl b16 #[.string r.1.cur, .int .i64 r.1.amt] e3 e19 50 #[.string ⟨#[]⟩, .int .i64 0] hk16 (by kernel_rfl) rfl (by simp [Value.oneCell']) ⟨_, rfl, (fr_row _ _ _).mono (fun q hq => by rw [hq]; exact hc16), ?_, trivial⟩
      rw [up_same, n16, m16]
      exact ⟨fun _ => ⟨b16, hb16, hc16, setRow_heap W1 b16 _ _ _ (0, 0) hk16⟩, fun _ => hdk⟩
    · have d15 : vs 15 = .bool r.2 := hR 15 (by simp [hdep])
      have e20 : ac.eval (.tmp 20) = .bool r.2 := (hE 20 (by simp)).trans (by simp [evF, hdep, d15])
      exact soft_value (.bool r.2) (by unfold execOp; simp only [e20, ec]; rfl) rfl
  · intro done vs W hall hB hR hX
    obtain ⟨b, hb0, hb1, hb2⟩ := hX.a (hall 16 (by simp))
    rw [hall 17 (by simp)] at hb2
    simp only [if_true] at hb2
    have r18 : vs 18 = .bool r.2 := hR 18 (by simp)
    have HB : Hid (Below w.heap.size w W) := Lib.hid (hB.bel (Below.refl _ _) (fun k hk => hk) (Nat.le_refl _))
    have a0 := hb2.cell 0; have a1 := hb2.cell 1
    simp only [List.getElem?_toArray, List.getElem?_cons_zero, List.getElem?_cons_succ] at a0 a1
    clear hR hX hB hall
    simp only [fillA, Act.put, List.setIfInBounds_toArray, List.set_cons_zero, List.set_cons_succ, if_true, hb0, r18]
    cases hr2 : r.2
    · have HV2 := HV.out
      rw [hr2] at HV2
      simp only [Bool.false_eq_true, false_and, if_false] at HV2
      have HV3 := Lib.hid HV2
      clear HV2
      go_wp2_with fail
      go_ret
      exact ⟨by rw [HV3.out]; rfl, HB.out⟩
    · have HV2 := HV.out
      rw [hr2] at HV2
      by_cases h0 : 0 ≤ r.1.amt
      · rw [if_pos ⟨rfl, h0⟩] at HV2
        have HV3 := Lib.hid HV2
        have h1 : ¬ r.1.amt < 0 := by omega
        clear HV2
        go_wp2_with fail
        go_ret
        exact ⟨by rw [HV3.out]; rfl, HB.out⟩
      · rw [if_neg (fun h => h0 h.2)] at HV2
        have HV3 := Lib.hid HV2
        have h1 : r.1.amt < 0 := by omega
        clear HV2 h0
        go_wp2_with fail
        go_ret
        exact ⟨by rw [HV3.out]; rfl, HB.out⟩
set_option maxRecDepth 100000 in
set_option maxHeartbeats 6400000 in
theorem release_any (p : Nat) (d : Dl) (A : Option Addr) (nb c : Nat) (s : St) (w : World) (h : DeAt w p d (.slice A nb c) s) :
    Calls Tryz.prog 62 #[(.pointer (some ⟨p, 0, none⟩))] w fun e w' => ∃ v, e = .returned v ∧ OlAt w' w.heap.size v ⟨#[]⟩ 0 (freeL d) ∧ DeAt w' p d (.slice A nb c) ⟨2, s.paid⟩ ∧ Fr (fun k => k = p) w w' := by
  have c17 := h.cell 17; have f17 := h.frozen 17
  simp only [List.getElem?_toArray, List.getElem?_cons_zero, List.getElem?_cons_succ] at c17
  have HD : Hid (DeAt (w.setCell ⟨p, 17, none⟩ (.int .i64 2)) p d (.slice A nb c) ⟨2, s.paid⟩) := Lib.hid (by have q := h.set_ 17 (.int .i64 2); simpa using q)
  have HF : Hid (Fr (fun k => k = p) w (w.setCell ⟨p, 17, none⟩ (.int .i64 2))) := Lib.hid ((Fr.refl (fun k => k = p) w).setCell (p := ⟨p, 17, none⟩) (.inl rfl) _)
  clear h
  go_enter Tryz.func62, Tryz.ntmps62
  go_upto_region 2 with (fail)
  obtain ⟨w1, hw1⟩ : ∃ W, w.setCell ⟨p, 17, none⟩ (.int .i64 2) = W := ⟨_, rfl⟩
  rw [hw1] at HD HF ⊢
  clear hw1 c17 f17
  refine wp_region_soft [Is (.pointer (some ⟨p, 0, none⟩)), Is (.pointer (some ⟨p, 0, none⟩)), Is (.pointer (some ⟨p, 0, none⟩)), Is (.pointer (some ⟨p, 3, none⟩)), Is (.string d.car), Is (.agg #[.string ⟨#[]⟩, .string d.car, .int .i64 0, .int .i64 19, .int .i64 0, .string ⟨#[]⟩, .string ⟨#[]⟩, .string ⟨#[]⟩, .int .i64 0, .int .i64 0, .string ⟨#[]⟩, .int .i64 0, .slice none 0 0, .slice none 0 0]), Is (.pointer (some ⟨p, 0, none⟩)), Is (.pointer (some ⟨p, 0, none⟩)), Is (.pointer (some ⟨p, 0, none⟩)), Is (.pointer (some ⟨p, 2, none⟩)), Is (.string d.buy), Is (.agg #[.string ⟨#[]⟩, .string d.buy, .int .i64 0, .int .i64 19, .int .i64 0, .string ⟨#[]⟩, .string ⟨#[]⟩, .string ⟨#[]⟩, .int .i64 0, .int .i64 0, .string ⟨#[]⟩, .int .i64 0, .slice none 0 0, .slice none 0 0]), RowAt w1.heap.size 2 #[.string ⟨#[]⟩, .string d.car, .int .i64 0, .int .i64 19, .int .i64 0, .string ⟨#[]⟩, .string ⟨#[]⟩, .string ⟨#[]⟩, .int .i64 0, .int .i64 0, .string ⟨#[]⟩, .int .i64 0, .slice none 0 0, .slice none 0 0, .string ⟨#[]⟩, .string d.buy, .int .i64 0, .int .i64 19, .int .i64 0, .string ⟨#[]⟩, .string ⟨#[]⟩, .string ⟨#[]⟩, .int .i64 0, .int .i64 0, .string ⟨#[]⟩, .int .i64 0, .slice none 0 0, .slice none 0 0], RowAt w1.heap.size 2 #[.string ⟨#[]⟩, .string d.car, .int .i64 0, .int .i64 19, .int .i64 0, .string ⟨#[]⟩, .string ⟨#[]⟩, .string ⟨#[]⟩, .int .i64 0, .int .i64 0, .string ⟨#[]⟩, .int .i64 0, .slice none 0 0, .slice none 0 0, .string ⟨#[]⟩, .string d.buy, .int .i64 0, .int .i64 19, .int .i64 0, .string ⟨#[]⟩, .string ⟨#[]⟩, .string ⟨#[]⟩, .int .i64 0, .int .i64 0, .string ⟨#[]⟩, .int .i64 0, .slice none 0 0, .slice none 0 0]] ⟨stab_is _, stab_is _, stab_is _, stab_is _, stab_is _, stab_is _, stab_is _, stab_is _, stab_is _, stab_is _, stab_is _, stab_is _, stab_rowat _ _ _, stab_rowat _ _ _, trivial⟩ (by kernel_rfl) (by kernel_rfl) ?_ ?_
  · refine ⟨?_, ?_, ?_, ?_, ?_, ?_, ?_, ?_, ?_, ?_, ?_, ?_, ?_, ?_, trivial⟩
    all_goals intro done vs ac W1 hdep hB hR hE
    all_goals have ec : ∀ v : Value, ac.eval (.const v) = v := fun _ => rfl
    all_goals try simp [Region.binds] at hdep
    · have e0 : ac.eval (.tmp 0) = .pointer (some ⟨p, 0, none⟩) := (hE 0 (by simp)).trans (by simp [evF, Act.eval])
      exact soft_value (.pointer (some ⟨p, 0, none⟩)) (by unfold execOp; simp only [e0, ec]; rfl) rfl
    · have d0 : vs 0 = .pointer (some ⟨p, 0, none⟩) := hR 0 (by simp [hdep])
      have e6 : ac.eval (.tmp 6) = .pointer (some ⟨p, 0, none⟩) := (hE 6 (by simp)).trans (by simp [evF, hdep, d0])
      exact soft_value (.pointer (some ⟨p, 0, none⟩)) (by unfold execOp; simp only [e6]; go_simp) rfl
    · have d1 : vs 1 = .pointer (some ⟨p, 0, none⟩) := hR 1 (by simp [hdep])
      have e7 : ac.eval (.tmp 7) = .pointer (some ⟨p, 0, none⟩) := (hE 7 (by simp)).trans (by simp [evF, hdep, d1])
      exact soft_value (.pointer (some ⟨p, 0, none⟩)) (by unfold execOp; simp only [e7]; kernel_rfl) rfl
    · have d2 : vs 2 = .pointer (some ⟨p, 0, none⟩) := hR 2 (by simp [hdep])
      have e8 : ac.eval (.tmp 8) = .pointer (some ⟨p, 0, none⟩) := (hE 8 (by simp)).trans (by simp [evF, hdep, d2])
      exact soft_value (.pointer (some ⟨p, 3, none⟩)) (by unfold execOp; simp only [e8]; kernel_rfl) rfl
    · have d3 : vs 3 = .pointer (some ⟨p, 3, none⟩) := hR 3 (by simp [hdep])
      have e9 : ac.eval (.tmp 9) = .pointer (some ⟨p, 3, none⟩) := (hE 9 (by simp)).trans (by simp [evF, hdep, d3])
      have hc3 : W1.cell? ⟨p, 3, none⟩ = some (.string d.car) := (HD.out.below hB HD.out.lt).cell 3
      exact soft_value (.string d.car) (by unfold execOp; simp only [e9]; go_simp) rfl
    · have d4 : vs 4 = .string d.car := hR 4 (by simp [hdep])
      have e10 : ac.eval (.tmp 10) = .string d.car := (hE 10 (by simp)).trans (by simp [evF, hdep, d4])
      exact soft_value (.agg #[.string ⟨#[]⟩, .string d.car, .int .i64 0, .int .i64 19, .int .i64 0, .string ⟨#[]⟩, .string ⟨#[]⟩, .string ⟨#[]⟩, .int .i64 0, .int .i64 0, .string ⟨#[]⟩, .int .i64 0, .slice none 0 0, .slice none 0 0]) (by simp [execOp, e10, ec, lbuild, Result.andThen]) rfl
    · have e0 : ac.eval (.tmp 0) = .pointer (some ⟨p, 0, none⟩) := (hE 0 (by simp)).trans (by simp [evF, Act.eval])
      exact soft_value (.pointer (some ⟨p, 0, none⟩)) (by unfold execOp; simp only [e0, ec]; rfl) rfl
    · have d6 : vs 6 = .pointer (some ⟨p, 0, none⟩) := hR 6 (by simp [hdep])
      have e12 : ac.eval (.tmp 12) = .pointer (some ⟨p, 0, none⟩) := (hE 12 (by simp)).trans (by simp [evF, hdep, d6])
      exact soft_value (.pointer (some ⟨p, 0, none⟩)) (by unfold execOp; simp only [e12]; go_simp) rfl
    · have d7 : vs 7 = .pointer (some ⟨p, 0, none⟩) := hR 7 (by simp [hdep])
      have e13 : ac.eval (.tmp 13) = .pointer (some ⟨p, 0, none⟩) := (hE 13 (by simp)).trans (by simp [evF, hdep, d7])
      exact soft_value (.pointer (some ⟨p, 0, none⟩)) (by unfold execOp; simp only [e13]; kernel_rfl) rfl
    · have d8 : vs 8 = .pointer (some ⟨p, 0, none⟩) := hR 8 (by simp [hdep])
      have e14 : ac.eval (.tmp 14) = .pointer (some ⟨p, 0, none⟩) := (hE 14 (by simp)).trans (by simp [evF, hdep, d8])
      exact soft_value (.pointer (some ⟨p, 2, none⟩)) (by unfold execOp; simp only [e14]; kernel_rfl) rfl
    · have d9 : vs 9 = .pointer (some ⟨p, 2, none⟩) := hR 9 (by simp [hdep])
      have e15 : ac.eval (.tmp 15) = .pointer (some ⟨p, 2, none⟩) := (hE 15 (by simp)).trans (by simp [evF, hdep, d9])
      have hc2 : W1.cell? ⟨p, 2, none⟩ = some (.string d.buy) := (HD.out.below hB HD.out.lt).cell 2
      exact soft_value (.string d.buy) (by unfold execOp; simp only [e15]; go_simp) rfl
    · have d10 : vs 10 = .string d.buy := hR 10 (by simp [hdep])
      have e16 : ac.eval (.tmp 16) = .string d.buy := (hE 16 (by simp)).trans (by simp [evF, hdep, d10])
      exact soft_value (.agg #[.string ⟨#[]⟩, .string d.buy, .int .i64 0, .int .i64 19, .int .i64 0, .string ⟨#[]⟩, .string ⟨#[]⟩, .string ⟨#[]⟩, .int .i64 0, .int .i64 0, .string ⟨#[]⟩, .int .i64 0, .slice none 0 0, .slice none 0 0]) (by simp [execOp, e16, ec, lbuild, Result.andThen]) rfl
    · have d5 : vs 5 = .agg #[.string ⟨#[]⟩, .string d.car, .int .i64 0, .int .i64 19, .int .i64 0, .string ⟨#[]⟩, .string ⟨#[]⟩, .string ⟨#[]⟩, .int .i64 0, .int .i64 0, .string ⟨#[]⟩, .int .i64 0, .slice none 0 0, .slice none 0 0] := hR 5 (by simp [hdep])
      have e11 : ac.eval (.tmp 11) = .agg #[.string ⟨#[]⟩, .string d.car, .int .i64 0, .int .i64 19, .int .i64 0, .string ⟨#[]⟩, .string ⟨#[]⟩, .string ⟨#[]⟩, .int .i64 0, .int .i64 0, .string ⟨#[]⟩, .int .i64 0, .slice none 0 0, .slice none 0 0] := (hE 11 (by simp)).trans (by simp [evF, hdep, d5])
      have d11 : vs 11 = .agg #[.string ⟨#[]⟩, .string d.buy, .int .i64 0, .int .i64 19, .int .i64 0, .string ⟨#[]⟩, .string ⟨#[]⟩, .string ⟨#[]⟩, .int .i64 0, .int .i64 0, .string ⟨#[]⟩, .int .i64 0, .slice none 0 0, .slice none 0 0] := hR 11 (by simp [hdep])
      have e17 : ac.eval (.tmp 17) = .agg #[.string ⟨#[]⟩, .string d.buy, .int .i64 0, .int .i64 19, .int .i64 0, .string ⟨#[]⟩, .string ⟨#[]⟩, .string ⟨#[]⟩, .int .i64 0, .int .i64 0, .string ⟨#[]⟩, .int .i64 0, .slice none 0 0, .slice none 0 0] := (hE 17 (by simp)).trans (by simp [evF, hdep, d11])
      refine wp_bs1 30 57 2 _ rfl #[(0, .agg #[.string ⟨#[]⟩, .string d.car, .int .i64 0, .int .i64 19, .int .i64 0, .string ⟨#[]⟩, .string ⟨#[]⟩, .string ⟨#[]⟩, .int .i64 0, .int .i64 0, .string ⟨#[]⟩, .int .i64 0, .slice none 0 0, .slice none 0 0]), (1, .agg #[.string ⟨#[]⟩, .string d.buy, .int .i64 0, .int .i64 19, .int .i64 0, .string ⟨#[]⟩, .string ⟨#[]⟩, .string ⟨#[]⟩, .int .i64 0, .int .i64 0, .string ⟨#[]⟩, .int .i64 0, .slice none 0 0, .slice none 0 0])] (by simp [e11, e17]) _ (lslice2 W1 d.car d.buy 19 19) ⟨_, rfl, one_alloc _ _, ⟨_, rfl, hB.size, Blk.new _ _ _⟩⟩
    · obtain ⟨b12, d12, l12, h12⟩ := (show (RowAt w1.heap.size 2 #[.string ⟨#[]⟩, .string d.car, .int .i64 0, .int .i64 19, .int .i64 0, .string ⟨#[]⟩, .string ⟨#[]⟩, .string ⟨#[]⟩, .int .i64 0, .int .i64 0, .string ⟨#[]⟩, .int .i64 0, .slice none 0 0, .slice none 0 0, .string ⟨#[]⟩, .string d.buy, .int .i64 0, .int .i64 19, .int .i64 0, .string ⟨#[]⟩, .string ⟨#[]⟩, .string ⟨#[]⟩, .int .i64 0, .int .i64 0, .string ⟨#[]⟩, .int .i64 0, .slice none 0 0, .slice none 0 0]) (vs 12) W1 from hR 12 (by simp [hdep]))
      have e18 : ac.eval (.tmp 18) = .slice (some ⟨b12, 0, none⟩) 2 2 := (hE 18 (by simp)).trans (by simp [evF, hdep, d12])
      exact soft_value (.slice (some ⟨b12, 0, none⟩) 2 2) (by unfold execOp; simp only [e18]; rfl) ⟨_, rfl, l12, h12⟩
  · intro vs W hB hR
    obtain ⟨g, h12, l12, d12⟩ := (show RowAt w1.heap.size 2 #[.string ⟨#[]⟩, .string d.car, .int .i64 0, .int .i64 19, .int .i64 0, .string ⟨#[]⟩, .string ⟨#[]⟩, .string ⟨#[]⟩, .int .i64 0, .int .i64 0, .string ⟨#[]⟩, .int .i64 0, .slice none 0 0, .slice none 0 0, .string ⟨#[]⟩, .string d.buy, .int .i64 0, .int .i64 19, .int .i64 0, .string ⟨#[]⟩, .string ⟨#[]⟩, .string ⟨#[]⟩, .int .i64 0, .int .i64 0, .string ⟨#[]⟩, .int .i64 0, .slice none 0 0, .slice none 0 0] (vs 13) W from hR 13 (by simp))
    have HO : Hid (OlAt W w.heap.size (.slice (some ⟨g, 0, none⟩) 2 2) ⟨#[]⟩ 0 (freeL d)) := Lib.hid (.inr (.inr ⟨g, _, _, rfl, rfl, Nat.le_trans HF.out.size l12, d12, rfl, rfl⟩))
    have HD2 := Lib.hid (HD.out.below hB HD.out.lt)
    have HF2 := Lib.hid (HF.out.on hB)
    clear hR hB
    simp only [fillA, Act.put, List.setIfInBounds_toArray, List.set_cons_zero, List.set_cons_succ, if_true, h12]
    go_wp2_with fail
    go_ret
    exact ⟨_, rfl, HO.out, HD2.out, HF2.out⟩
end Go.Proofs.YtdanjegnhdpnlaaGreatDoor.kit
