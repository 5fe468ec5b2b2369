/- Two rows of letters that say the same are one. No condition. -/
import Derived.Test.YtdanjegnhdpnlaaGreatDoorOfU
namespace Go.Proofs.YtdanjegnhdpnlaaGreatDoor.kit
open Go.RowKit Go.PlainAid
set_option linter.unusedVariables false
set_option linter.unusedSimpArgs false
set_option maxRecDepth 100000 in
set_option maxHeartbeats 6400000 in
theorem lsame_none (dl : ByteArray) (dy : Int) (x : Ol) (w : World) : Calls Tryz.prog 37 #[.agg #[.string ⟨#[]⟩, .string x.dst, .int .i64 0, .int .i64 x.kind, .int .i64 0, .string dl, .string ⟨#[]⟩, .string ⟨#[]⟩, .int .i64 0, .int .i64 dy, .string x.cur, .int .i64 x.amt, (.slice none 0 0), .slice none 0 0], .agg #[.string ⟨#[]⟩, .string x.dst, .int .i64 0, .int .i64 x.kind, .int .i64 0, .string dl, .string ⟨#[]⟩, .string ⟨#[]⟩, .int .i64 0, .int .i64 dy, .string x.cur, .int .i64 x.amt, (.slice none 0 0), .slice none 0 0]] w fun e w' => e = .returned (.bool true) ∧ Below w.heap.size w w' := by
  have hB0 : Below w.heap.size w ((w.alloc (.cells #[.string ⟨#[]⟩, .string x.dst, .int .i64 0, .int .i64 x.kind, .int .i64 0, .string dl, .string ⟨#[]⟩, .string ⟨#[]⟩, .int .i64 0, .int .i64 dy, .string x.cur, .int .i64 x.amt, (.slice none 0 0), .slice none 0 0] 57)).alloc (.cells #[.string ⟨#[]⟩, .string x.dst, .int .i64 0, .int .i64 x.kind, .int .i64 0, .string dl, .string ⟨#[]⟩, .string ⟨#[]⟩, .int .i64 0, .int .i64 dy, .string x.cur, .int .i64 x.amt, (.slice none 0 0), .slice none 0 0] 57)) := two_alloc _ _ _
  have hp0 : Blk ((w.alloc (.cells #[.string ⟨#[]⟩, .string x.dst, .int .i64 0, .int .i64 x.kind, .int .i64 0, .string dl, .string ⟨#[]⟩, .string ⟨#[]⟩, .int .i64 0, .int .i64 dy, .string x.cur, .int .i64 x.amt, (.slice none 0 0), .slice none 0 0] 57)).alloc (.cells #[.string ⟨#[]⟩, .string x.dst, .int .i64 0, .int .i64 x.kind, .int .i64 0, .string dl, .string ⟨#[]⟩, .string ⟨#[]⟩, .int .i64 0, .int .i64 dy, .string x.cur, .int .i64 x.amt, (.slice none 0 0), .slice none 0 0] 57)) w.heap.size 57 #[.string ⟨#[]⟩, .string x.dst, .int .i64 0, .int .i64 x.kind, .int .i64 0, .string dl, .string ⟨#[]⟩, .string ⟨#[]⟩, .int .i64 0, .int .i64 dy, .string x.cur, .int .i64 x.amt, (.slice none 0 0), .slice none 0 0] := (Blk.new _ _ _).alloc _
  have hq0 : Blk ((w.alloc (.cells #[.string ⟨#[]⟩, .string x.dst, .int .i64 0, .int .i64 x.kind, .int .i64 0, .string dl, .string ⟨#[]⟩, .string ⟨#[]⟩, .int .i64 0, .int .i64 dy, .string x.cur, .int .i64 x.amt, (.slice none 0 0), .slice none 0 0] 57)).alloc (.cells #[.string ⟨#[]⟩, .string x.dst, .int .i64 0, .int .i64 x.kind, .int .i64 0, .string dl, .string ⟨#[]⟩, .string ⟨#[]⟩, .int .i64 0, .int .i64 dy, .string x.cur, .int .i64 x.amt, (.slice none 0 0), .slice none 0 0] 57)) (w.heap.size + 1) 57 #[.string ⟨#[]⟩, .string x.dst, .int .i64 0, .int .i64 x.kind, .int .i64 0, .string dl, .string ⟨#[]⟩, .string ⟨#[]⟩, .int .i64 0, .int .i64 dy, .string x.cur, .int .i64 x.amt, (.slice none 0 0), .slice none 0 0] := blk_second _ _ _ _
  have HB := Lib.hid hB0
  have HP := Lib.hid hp0
  have HQ := Lib.hid hq0
  have t1 : (x.dst.toList == x.dst.toList) = true := by simp
  have t2 : (dl.toList == dl.toList) = true := by simp
  have t3 : (x.kind != x.kind) = false := by simp
  have t4 : (dy != dy) = false := by simp
  have qg := neMnGuard
  have qe := neMn
  obtain ⟨g, hg⟩ : ∃ g, w.heap.size = g := ⟨_, rfl⟩
  have HG := Lib.hid hg
  have hg1 : w.heap.size + 1 = g + 1 := by rw [hg]
  rw [hg] at hp0 HP
  rw [hg1] at hq0 HQ
  have a0 := hp0.cell 0; have a1 := hp0.cell 1; have a2 := hp0.cell 2; have a3 := hp0.cell 3; have a4 := hp0.cell 4; have a5 := hp0.cell 5; have a6 := hp0.cell 6; have a7 := hp0.cell 7; have a8 := hp0.cell 8; have a9 := hp0.cell 9; have a10 := hp0.cell 10; have a11 := hp0.cell 11; have a12 := hp0.cell 12; have a13 := hp0.cell 13
  have b0 := hq0.cell 0; have b1 := hq0.cell 1; have b2 := hq0.cell 2; have b3 := hq0.cell 3; have b4 := hq0.cell 4; have b5 := hq0.cell 5; have b6 := hq0.cell 6; have b7 := hq0.cell 7; have b8 := hq0.cell 8; have b9 := hq0.cell 9; have b10 := hq0.cell 10; have b11 := hq0.cell 11; have b12 := hq0.cell 12; have b13 := hq0.cell 13
  simp only [List.getElem?_toArray, List.getElem?_cons_zero, List.getElem?_cons_succ] at a0 a1 a2 a3 a4 a5 a6 a7 a8 a9 a10 a11 a12 a13 b0 b1 b2 b3 b4 b5 b6 b7 b8 b9 b10 b11 b12 b13
  clear hp0 hq0 hB0
  go_enter Tryz.func37, Tryz.ntmps37
  go_upto_region 1 with (fail)
  obtain ⟨w0, hw0⟩ : ∃ W, ((w.alloc (.cells #[.string ⟨#[]⟩, .string x.dst, .int .i64 0, .int .i64 x.kind, .int .i64 0, .string dl, .string ⟨#[]⟩, .string ⟨#[]⟩, .int .i64 0, .int .i64 dy, .string x.cur, .int .i64 x.amt, (.slice none 0 0), .slice none 0 0] 57)).alloc (.cells #[.string ⟨#[]⟩, .string x.dst, .int .i64 0, .int .i64 x.kind, .int .i64 0, .string dl, .string ⟨#[]⟩, .string ⟨#[]⟩, .int .i64 0, .int .i64 dy, .string x.cur, .int .i64 x.amt, (.slice none 0 0), .slice none 0 0] 57)) = W := ⟨_, rfl⟩
  rw [hw0] at HB HP HQ a0 a1 a2 a3 a4 a5 a6 a7 a8 a9 a10 a11 a12 a13 b0 b1 b2 b3 b4 b5 b6 b7 b8 b9 b10 b11 b12 b13 ⊢
  try simp only [hg]
  clear hw0 hg hg1
  generalize Value.agg #[.string ⟨#[]⟩, .string x.dst, .int .i64 0, .int .i64 x.kind, .int .i64 0, .string dl, .string ⟨#[]⟩, .string ⟨#[]⟩, .int .i64 0, .int .i64 dy, .string x.cur, .int .i64 x.amt, (.slice none 0 0), .slice none 0 0] = V1
  generalize Value.agg #[.string ⟨#[]⟩, .string x.dst, .int .i64 0, .int .i64 x.kind, .int .i64 0, .string dl, .string ⟨#[]⟩, .string ⟨#[]⟩, .int .i64 0, .int .i64 dy, .string x.cur, .int .i64 x.amt, (.slice none 0 0), .slice none 0 0] = V2
  go_wp2_with fail
  clear a0 a1 a2 a3 a4 a5 a6 a7 a8 a9 a10 a11 b0 b1 b2 b3 b4 b5 b6 b7 b8 b9 b10 b11
  go_loopw [5] (fun i wr => i = .int .i64 0 ∧ w0 = wr) (fun _ _ => 0)
  case atStart => exact ⟨rfl, rfl⟩
  case round =>
  obtain ⟨rfl, rfl⟩ := hrel
  go_wp2_with fail
  go_loopw [6] (fun i wr => i = .int .i64 0 ∧ w0 = wr) (fun _ _ => 0)
  case atStart => exact ⟨rfl, rfl⟩
  case round =>
  obtain ⟨rfl, rfl⟩ := hrel
  go_wp2_with fail
  go_ret
  exact ⟨rfl, HB.out⟩
set_option maxRecDepth 100000 in
set_option maxHeartbeats 6400000 in
theorem lsame_some (dl : ByteArray) (dy : Int) (x : Ol) (p : Pp) (D E : Value) (B1 H1 B2 H2 : Nat) (w : World) (h1 : DocsAt w B1 H1 D (some p)) (h2 : DocsAt w B2 H2 E (some p)) (hm : p.fs.length ≤ 100) : Calls Tryz.prog 37 #[.agg #[.string ⟨#[]⟩, .string x.dst, .int .i64 0, .int .i64 x.kind, .int .i64 0, .string dl, .string ⟨#[]⟩, .string ⟨#[]⟩, .int .i64 0, .int .i64 dy, .string x.cur, .int .i64 x.amt, D, .slice none 0 0], .agg #[.string ⟨#[]⟩, .string x.dst, .int .i64 0, .int .i64 x.kind, .int .i64 0, .string dl, .string ⟨#[]⟩, .string ⟨#[]⟩, .int .i64 0, .int .i64 dy, .string x.cur, .int .i64 x.amt, E, .slice none 0 0]] w fun e w' => e = .returned (.bool true) ∧ Below w.heap.size w w' := by
  obtain ⟨gd, fc, fa, rfl, _, hk1, hs1, _⟩ := h1
  obtain ⟨ge, fc', fa', rfl, _, hk2, hs2, _⟩ := h2
  have HK1 := Lib.hid hk1; have HS1 := Lib.hid hs1; have HK2 := Lib.hid hk2; have HS2 := Lib.hid hs2
  have HM := Lib.hid hm
  clear hk1 hs1 hk2 hs2 hm
  have hB0 : Below w.heap.size w ((w.alloc (.cells #[.string ⟨#[]⟩, .string x.dst, .int .i64 0, .int .i64 x.kind, .int .i64 0, .string dl, .string ⟨#[]⟩, .string ⟨#[]⟩, .int .i64 0, .int .i64 dy, .string x.cur, .int .i64 x.amt, (.slice (some ⟨gd, 0, none⟩) 1 1), .slice none 0 0] 57)).alloc (.cells #[.string ⟨#[]⟩, .string x.dst, .int .i64 0, .int .i64 x.kind, .int .i64 0, .string dl, .string ⟨#[]⟩, .string ⟨#[]⟩, .int .i64 0, .int .i64 dy, .string x.cur, .int .i64 x.amt, (.slice (some ⟨ge, 0, none⟩) 1 1), .slice none 0 0] 57)) := two_alloc _ _ _
  have hp0 : Blk ((w.alloc (.cells #[.string ⟨#[]⟩, .string x.dst, .int .i64 0, .int .i64 x.kind, .int .i64 0, .string dl, .string ⟨#[]⟩, .string ⟨#[]⟩, .int .i64 0, .int .i64 dy, .string x.cur, .int .i64 x.amt, (.slice (some ⟨gd, 0, none⟩) 1 1), .slice none 0 0] 57)).alloc (.cells #[.string ⟨#[]⟩, .string x.dst, .int .i64 0, .int .i64 x.kind, .int .i64 0, .string dl, .string ⟨#[]⟩, .string ⟨#[]⟩, .int .i64 0, .int .i64 dy, .string x.cur, .int .i64 x.amt, (.slice (some ⟨ge, 0, none⟩) 1 1), .slice none 0 0] 57)) w.heap.size 57 #[.string ⟨#[]⟩, .string x.dst, .int .i64 0, .int .i64 x.kind, .int .i64 0, .string dl, .string ⟨#[]⟩, .string ⟨#[]⟩, .int .i64 0, .int .i64 dy, .string x.cur, .int .i64 x.amt, (.slice (some ⟨gd, 0, none⟩) 1 1), .slice none 0 0] := (Blk.new _ _ _).alloc _
  have hq0 : Blk ((w.alloc (.cells #[.string ⟨#[]⟩, .string x.dst, .int .i64 0, .int .i64 x.kind, .int .i64 0, .string dl, .string ⟨#[]⟩, .string ⟨#[]⟩, .int .i64 0, .int .i64 dy, .string x.cur, .int .i64 x.amt, (.slice (some ⟨gd, 0, none⟩) 1 1), .slice none 0 0] 57)).alloc (.cells #[.string ⟨#[]⟩, .string x.dst, .int .i64 0, .int .i64 x.kind, .int .i64 0, .string dl, .string ⟨#[]⟩, .string ⟨#[]⟩, .int .i64 0, .int .i64 dy, .string x.cur, .int .i64 x.amt, (.slice (some ⟨ge, 0, none⟩) 1 1), .slice none 0 0] 57)) (w.heap.size + 1) 57 #[.string ⟨#[]⟩, .string x.dst, .int .i64 0, .int .i64 x.kind, .int .i64 0, .string dl, .string ⟨#[]⟩, .string ⟨#[]⟩, .int .i64 0, .int .i64 dy, .string x.cur, .int .i64 x.amt, (.slice (some ⟨ge, 0, none⟩) 1 1), .slice none 0 0] := blk_second _ _ _ _
  have HB := Lib.hid hB0
  have HP := Lib.hid hp0
  have HQ := Lib.hid hq0
  have t1 : (x.dst.toList == x.dst.toList) = true := by simp
  have t2 : (dl.toList == dl.toList) = true := by simp
  have t3 : (x.kind != x.kind) = false := by simp
  have t4 : (dy != dy) = false := by simp
  have qg := neMnGuard
  have qe := neMn
  obtain ⟨g, hg⟩ : ∃ g, w.heap.size = g := ⟨_, rfl⟩
  have HG := Lib.hid hg
  have hg1 : w.heap.size + 1 = g + 1 := by rw [hg]
  rw [hg] at hp0 HP
  rw [hg1] at hq0 HQ
  have a0 := hp0.cell 0; have a1 := hp0.cell 1; have a2 := hp0.cell 2; have a3 := hp0.cell 3; have a4 := hp0.cell 4; have a5 := hp0.cell 5; have a6 := hp0.cell 6; have a7 := hp0.cell 7; have a8 := hp0.cell 8; have a9 := hp0.cell 9; have a10 := hp0.cell 10; have a11 := hp0.cell 11; have a12 := hp0.cell 12; have a13 := hp0.cell 13
  have b0 := hq0.cell 0; have b1 := hq0.cell 1; have b2 := hq0.cell 2; have b3 := hq0.cell 3; have b4 := hq0.cell 4; have b5 := hq0.cell 5; have b6 := hq0.cell 6; have b7 := hq0.cell 7; have b8 := hq0.cell 8; have b9 := hq0.cell 9; have b10 := hq0.cell 10; have b11 := hq0.cell 11; have b12 := hq0.cell 12; have b13 := hq0.cell 13
  simp only [List.getElem?_toArray, List.getElem?_cons_zero, List.getElem?_cons_succ] at a0 a1 a2 a3 a4 a5 a6 a7 a8 a9 a10 a11 a12 a13 b0 b1 b2 b3 b4 b5 b6 b7 b8 b9 b10 b11 b12 b13
  clear hp0 hq0 hB0
  go_enter Tryz.func37, Tryz.ntmps37
  go_upto_region 1 with (fail)
  obtain ⟨w0, hw0⟩ : ∃ W, ((w.alloc (.cells #[.string ⟨#[]⟩, .string x.dst, .int .i64 0, .int .i64 x.kind, .int .i64 0, .string dl, .string ⟨#[]⟩, .string ⟨#[]⟩, .int .i64 0, .int .i64 dy, .string x.cur, .int .i64 x.amt, (.slice (some ⟨gd, 0, none⟩) 1 1), .slice none 0 0] 57)).alloc (.cells #[.string ⟨#[]⟩, .string x.dst, .int .i64 0, .int .i64 x.kind, .int .i64 0, .string dl, .string ⟨#[]⟩, .string ⟨#[]⟩, .int .i64 0, .int .i64 dy, .string x.cur, .int .i64 x.amt, (.slice (some ⟨ge, 0, none⟩) 1 1), .slice none 0 0] 57)) = W := ⟨_, rfl⟩
  rw [hw0] at HB HP HQ a0 a1 a2 a3 a4 a5 a6 a7 a8 a9 a10 a11 a12 a13 b0 b1 b2 b3 b4 b5 b6 b7 b8 b9 b10 b11 b12 b13 ⊢
  try simp only [hg]
  clear hw0 hg hg1
  generalize Value.agg #[.string ⟨#[]⟩, .string x.dst, .int .i64 0, .int .i64 x.kind, .int .i64 0, .string dl, .string ⟨#[]⟩, .string ⟨#[]⟩, .int .i64 0, .int .i64 dy, .string x.cur, .int .i64 x.amt, (.slice (some ⟨gd, 0, none⟩) 1 1), .slice none 0 0] = V1
  generalize Value.agg #[.string ⟨#[]⟩, .string x.dst, .int .i64 0, .int .i64 x.kind, .int .i64 0, .string dl, .string ⟨#[]⟩, .string ⟨#[]⟩, .int .i64 0, .int .i64 dy, .string x.cur, .int .i64 x.amt, (.slice (some ⟨ge, 0, none⟩) 1 1), .slice none 0 0] = V2
  go_wp2_with fail
  clear a0 a1 a2 a3 a4 a5 a6 a7 a8 a9 a10 a11 b0 b1 b2 b3 b4 b5 b6 b7 b8 b9 b10 b11
  clear a12 a13 b12 b13
  go_loopw [5] (fun i wr => ∃ j : Nat, j ≤ 1 ∧ i = .int .i64 j ∧ Hid (Below w0.heap.size w0 wr)) (fun i _ => 1 - (intOf i).toNat)
  case atStart => exact ⟨0, by omega, rfl, Lib.hid (Below.refl _ _)⟩
  case round =>
    obtain ⟨j, hj, rfl, hb⟩ := hrel
    have HP1 := Lib.hid (HP.out.below hb.out HP.out.lt)
    have HQ1 := Lib.hid (HQ.out.below hb.out HQ.out.lt)
    have HBW := Lib.hid (HB.out.trans (hb.out.mono HB.out.size))
    have a12 := HP1.out.cell 12; have a13 := HP1.out.cell 13; have b13 := HQ1.out.cell 13
    simp only [List.getElem?_toArray, List.getElem?_cons_zero, List.getElem?_cons_succ] at a12 a13 b13
    by_cases hlt : j < 1
    · obtain rfl : j = 0 := by omega
      have HD1 := Lib.hid (HK1.out.below HBW.out HK1.out.lt)
      have HD2 := Lib.hid (HK2.out.below HBW.out HK2.out.lt)
      have HT1 := Lib.hid (HS1.out.below HBW.out)
      have HT2 := Lib.hid (HS2.out.below HBW.out)
      go_upto_region 6 with (fail)
      try simp only [Act.put, List.setIfInBounds_toArray, List.set_cons_zero, List.set_cons_succ]
      refine wp_region_soft [Is (.pointer (some ⟨g, 12, none⟩)), Is (.slice (some ⟨gd, 0, none⟩) 1 1), Is (.int .i64 0), Is (.pointer (some ⟨gd, 0, none⟩)), Is (.agg #[.int .i64 3, .string p.num, .string p.iss, .slice fa p.fs.length fc]), Is (.pointer (some ⟨g + 1, 12, none⟩)), Is (.slice (some ⟨ge, 0, none⟩) 1 1), Is (.int .i64 0), Is (.pointer (some ⟨ge, 0, none⟩)), Is (.agg #[.int .i64 3, .string p.num, .string p.iss, .slice fa' p.fs.length fc']), Is (.bool true), Is (.bool false)] ⟨stab_is _, stab_is _, stab_is _, stab_is _, stab_is _, stab_is _, stab_is _, stab_is _, stab_is _, stab_is _, stab_is _, stab_is _, trivial⟩ (by kernel_rfl) (by kernel_rfl) ?_ ?_
      · refine ⟨?_, ?_, ?_, ?_, ?_, ?_, ?_, ?_, ?_, ?_, ?_, ?_, trivial⟩
        all_goals intro done vs ac W1 hdep hB hR hE
        all_goals have ec : ∀ v : Value, ac.eval (.const v) = v := fun _ => rfl
        all_goals try simp [Region.binds] at hdep
        · have e2 : ac.eval (.tmp 2) = .pointer (some ⟨g, 0, none⟩) := (hE 2 (by simp)).trans (by simp [evF, Act.eval])
          exact soft_value (.pointer (some ⟨g, 12, none⟩)) (by unfold execOp; simp only [e2]; kernel_rfl) rfl
        · have d0 : vs 0 = .pointer (some ⟨g, 12, none⟩) := hR 0 (by simp [hdep])
          have e107 : ac.eval (.tmp 107) = .pointer (some ⟨g, 12, none⟩) := (hE 107 (by simp)).trans (by simp [evF, hdep, d0])
          have hc12 : W1.cell? ⟨g, 12, none⟩ = some (.slice (some ⟨gd, 0, none⟩) 1 1) := (HP1.out.below hB HP1.out.lt).cell 12
          exact soft_value (.slice (some ⟨gd, 0, none⟩) 1 1) (by unfold execOp; simp only [e107]; go_simp) rfl
        · have e5 : ac.eval (.tmp 5) = .int .i64 0 := (hE 5 (by simp)).trans (by simp [evF, Act.eval])
          exact soft_value (.int .i64 0) (by unfold execOp; simp only [e5, ec]; rfl) rfl
        · have d1 : vs 1 = .slice (some ⟨gd, 0, none⟩) 1 1 := hR 1 (by simp [hdep])
          have e108 : ac.eval (.tmp 108) = .slice (some ⟨gd, 0, none⟩) 1 1 := (hE 108 (by simp)).trans (by simp [evF, hdep, d1])
          have d2 : vs 2 = .int .i64 0 := hR 2 (by simp [hdep])
          have e109 : ac.eval (.tmp 109) = .int .i64 0 := (hE 109 (by simp)).trans (by simp [evF, hdep, d2])
          have hix := ixk (w := W1) 54 _ 4 Tryz.underlying54 (by kernel_rfl) gd 0 0 1 1 (by omega)
          simp only [Nat.zero_mul, Nat.add_zero, Int.ofNat_zero] at hix
          exact soft_value (.pointer (some ⟨gd, 0, none⟩)) (by simp only [execOp, e108, e109]; simp [hix, Result.andThen]) rfl
        · have d3 : vs 3 = .pointer (some ⟨gd, 0, none⟩) := hR 3 (by simp [hdep])
          have e110 : ac.eval (.tmp 110) = .pointer (some ⟨gd, 0, none⟩) := (hE 110 (by simp)).trans (by simp [evF, hdep, d3])
          exact wp_load_row 109 _ rfl (gd) e110 109 _ (0, 0) _ (HD1.out.below hB HD1.out.lt) Tryz.underlying109 rfl (by kernel_rfl) ⟨_, rfl, Below.refl _ _, rfl⟩
        · have e3 : ac.eval (.tmp 3) = .pointer (some ⟨g + 1, 0, none⟩) := (hE 3 (by simp)).trans (by simp [evF, Act.eval])
          exact soft_value (.pointer (some ⟨g + 1, 12, none⟩)) (by unfold execOp; simp only [e3]; kernel_rfl) rfl
        · have d5 : vs 5 = .pointer (some ⟨g + 1, 12, none⟩) := hR 5 (by simp [hdep])
          have e112 : ac.eval (.tmp 112) = .pointer (some ⟨g + 1, 12, none⟩) := (hE 112 (by simp)).trans (by simp [evF, hdep, d5])
          have hc12 : W1.cell? ⟨g + 1, 12, none⟩ = some (.slice (some ⟨ge, 0, none⟩) 1 1) := (HQ1.out.below hB HQ1.out.lt).cell 12
          exact soft_value (.slice (some ⟨ge, 0, none⟩) 1 1) (by unfold execOp; simp only [e112]; go_simp) rfl
        · have e5 : ac.eval (.tmp 5) = .int .i64 0 := (hE 5 (by simp)).trans (by simp [evF, Act.eval])
          exact soft_value (.int .i64 0) (by unfold execOp; simp only [e5, ec]; rfl) rfl
        · have d6 : vs 6 = .slice (some ⟨ge, 0, none⟩) 1 1 := hR 6 (by simp [hdep])
          have e113 : ac.eval (.tmp 113) = .slice (some ⟨ge, 0, none⟩) 1 1 := (hE 113 (by simp)).trans (by simp [evF, hdep, d6])
          have d7 : vs 7 = .int .i64 0 := hR 7 (by simp [hdep])
          have e114 : ac.eval (.tmp 114) = .int .i64 0 := (hE 114 (by simp)).trans (by simp [evF, hdep, d7])
          have hix := ixk (w := W1) 54 _ 4 Tryz.underlying54 (by kernel_rfl) ge 0 0 1 1 (by omega)
          simp only [Nat.zero_mul, Nat.add_zero, Int.ofNat_zero] at hix
          exact soft_value (.pointer (some ⟨ge, 0, none⟩)) (by simp only [execOp, e113, e114]; simp [hix, Result.andThen]) rfl
        · have d8 : vs 8 = .pointer (some ⟨ge, 0, none⟩) := hR 8 (by simp [hdep])
          have e115 : ac.eval (.tmp 115) = .pointer (some ⟨ge, 0, none⟩) := (hE 115 (by simp)).trans (by simp [evF, hdep, d8])
          exact wp_load_row 109 _ rfl (ge) e115 109 _ (0, 0) _ (HD2.out.below hB HD2.out.lt) Tryz.underlying109 rfl (by kernel_rfl) ⟨_, rfl, Below.refl _ _, rfl⟩
        · have d4 : vs 4 = .agg #[.int .i64 3, .string p.num, .string p.iss, .slice fa p.fs.length fc] := hR 4 (by simp [hdep])
          have e111 : ac.eval (.tmp 111) = .agg #[.int .i64 3, .string p.num, .string p.iss, .slice fa p.fs.length fc] := (hE 111 (by simp)).trans (by simp [evF, hdep, d4])
          have d9 : vs 9 = .agg #[.int .i64 3, .string p.num, .string p.iss, .slice fa' p.fs.length fc'] := hR 9 (by simp [hdep])
          have e116 : ac.eval (.tmp 116) = .agg #[.int .i64 3, .string p.num, .string p.iss, .slice fa' p.fs.length fc'] := (hE 116 (by simp)).trans (by simp [evF, hdep, d9])
          refine soft_call 52 _ _ rfl (enters_fn Tryz.func52 (by kernel_rfl) rfl) #[.agg #[.int .i64 3, .string p.num, .string p.iss, .slice fa p.fs.length fc], .agg #[.int .i64 3, .string p.num, .string p.iss, .slice fa' p.fs.length fc']] (by simp [e111, e116, ec]) ?_
          refine (alike_any 3 p.num p.iss fa p.fs.length fc fa' fc' p.fs W1 (HT1.out.below hB) (HT2.out.below hB) HM.out).mono ?_
          rintro e9 w9 ⟨rfl, hb9⟩
          exact ⟨_, rfl, hb9, rfl⟩
        · have d10 : vs 10 = .bool true := hR 10 (by simp [hdep])
          have e117 : ac.eval (.tmp 117) = .bool true := (hE 117 (by simp)).trans (by simp [evF, hdep, d10])
          exact soft_value (.bool false) (by unfold execOp; simp only [e117]; first | rfl | go_simp) rfl
      · intro vs W hB hR
        have r11 : vs 11 = .bool false := hR 11 (by simp)
        have HB9 := Lib.hid (hb.out.trans (hB.mono hb.out.size))
        clear hR hB a12 a13 b13
        simp only [fillA, Act.put, List.setIfInBounds_toArray, List.set_cons_zero, List.set_cons_succ, if_true, r11]
        go_wp2_with fail
        go_roundw
        case rel => exact ⟨1, by omega, rfl, HB9⟩
        case measure => simp [intOf]
    · obtain rfl : j = 1 := by omega
      go_wp2_with fail
      go_loopw [6] (fun i w9 => i = .int .i64 0 ∧ wr = w9) (fun _ _ => 0)
      case atStart => exact ⟨rfl, rfl⟩
      case round =>
      obtain ⟨rfl, rfl⟩ := hrel
      go_wp2_with fail
      go_ret
      exact ⟨rfl, HBW.out⟩
theorem lsame_any (dl : ByteArray) (dy : Int) (x : Ol) (D E : Value) (B1 H1 B2 H2 : Nat) (w : World) (h1 : DocsAt w B1 H1 D x.doc) (h2 : DocsAt w B2 H2 E x.doc) (hm : ∀ p, x.doc = some p → p.fs.length ≤ 100) : Calls Tryz.prog 37 #[.agg #[.string ⟨#[]⟩, .string x.dst, .int .i64 0, .int .i64 x.kind, .int .i64 0, .string dl, .string ⟨#[]⟩, .string ⟨#[]⟩, .int .i64 0, .int .i64 dy, .string x.cur, .int .i64 x.amt, D, .slice none 0 0], .agg #[.string ⟨#[]⟩, .string x.dst, .int .i64 0, .int .i64 x.kind, .int .i64 0, .string dl, .string ⟨#[]⟩, .string ⟨#[]⟩, .int .i64 0, .int .i64 dy, .string x.cur, .int .i64 x.amt, E, .slice none 0 0]] w fun e w' => e = .returned (.bool true) ∧ Below w.heap.size w w' := by
  cases hd : x.doc with
  | none =>
    rw [hd] at h1 h2
    obtain rfl : D = .slice none 0 0 := h1
    obtain rfl : E = .slice none 0 0 := h2
    exact lsame_none dl dy x w
  | some p =>
    rw [hd] at h1 h2
    exact lsame_some dl dy x p D E B1 H1 B2 H2 w h1 h2 (hm p hd)
end Go.Proofs.YtdanjegnhdpnlaaGreatDoor.kit
