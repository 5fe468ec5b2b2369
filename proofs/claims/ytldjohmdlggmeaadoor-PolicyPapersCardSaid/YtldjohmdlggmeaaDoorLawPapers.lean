/- PolicyPapers: the law. Condition: the table of powers of ten. -/
import Derived.Test.YtldjohmdlggmeaaDoorPaI
import Derived.Test.YtldjohmdlggmeaaDoorPaB
import Derived.Test.YtldjohmdlggmeaaDoorPaC
import Derived.Test.YtldjohmdlggmeaaDoorPaD
import Derived.Test.YtldjohmdlggmeaaDoorPaF
import Derived.Test.YtldjohmdlggmeaaDoorMayR
import Derived.Test.YtldjohmdlggmeaaDoorNameB
import Derived.Test.YtldjohmdlggmeaaDoorAwk
import Derived.Test.YtldjohmdlggmeaaDoorStep
import Derived.Deep.RegionHeld3
import Derived.Deep.DeepCutAuto
namespace Go.Proofs.YtldjohmdlggmeaaDoor
open Go.RowKit Go.PlainAid Go.Proofs.YtldjohmdlggmeaaDoor.kit
set_option linter.unusedVariables false

set_option maxRecDepth 100000 in
set_option maxHeartbeats 3200000 in
theorem papers_long1 (p q : Pol) (nm : ByteArray) (w : World) (hp : p.ok w) (hq : q.ok w) (hl : longB p = true) : Calls Tryd.prog 3 #[.agg #[.string p.ins, .string p.fr, .string p.dst, .int .i64 p.sum, .int .i64 p.own, .slice p.cA p.cn p.cc, .int .i64 p.first, .int .i64 p.last, .int .i64 p.share], .agg #[.string q.ins, .string q.fr, .string q.dst, .int .i64 q.sum, .int .i64 q.own, .slice q.cA q.cn q.cc, .int .i64 q.first, .int .i64 q.last, .int .i64 q.share], .string nm] w fun e w' => e = .returned (.bool true) ∧ Below w.heap.size w w' := by
  have HL := Lib.hid hl
  clear hl
  have HP := Lib.hid hp
  have HQ := Lib.hid hq
  clear hp hq
  have hB0 : Below w.heap.size w (((w.alloc (.cells #[.string p.ins, .string p.fr, .string p.dst, .int .i64 p.sum, .int .i64 p.own, .slice p.cA p.cn p.cc, .int .i64 p.first, .int .i64 p.last, .int .i64 p.share] 24)).alloc (.cells #[.string q.ins, .string q.fr, .string q.dst, .int .i64 q.sum, .int .i64 q.own, .slice q.cA q.cn q.cc, .int .i64 q.first, .int .i64 q.last, .int .i64 q.share] 24))) := two_alloc _ _ _
  have hp0 : Blk (((w.alloc (.cells #[.string p.ins, .string p.fr, .string p.dst, .int .i64 p.sum, .int .i64 p.own, .slice p.cA p.cn p.cc, .int .i64 p.first, .int .i64 p.last, .int .i64 p.share] 24)).alloc (.cells #[.string q.ins, .string q.fr, .string q.dst, .int .i64 q.sum, .int .i64 q.own, .slice q.cA q.cn q.cc, .int .i64 q.first, .int .i64 q.last, .int .i64 q.share] 24))) w.heap.size 24 #[.string p.ins, .string p.fr, .string p.dst, .int .i64 p.sum, .int .i64 p.own, .slice p.cA p.cn p.cc, .int .i64 p.first, .int .i64 p.last, .int .i64 p.share] := (Blk.new _ _ _).alloc _
  have hq0 : Blk (((w.alloc (.cells #[.string p.ins, .string p.fr, .string p.dst, .int .i64 p.sum, .int .i64 p.own, .slice p.cA p.cn p.cc, .int .i64 p.first, .int .i64 p.last, .int .i64 p.share] 24)).alloc (.cells #[.string q.ins, .string q.fr, .string q.dst, .int .i64 q.sum, .int .i64 q.own, .slice q.cA q.cn q.cc, .int .i64 q.first, .int .i64 q.last, .int .i64 q.share] 24))) (w.heap.size + 1) 24 #[.string q.ins, .string q.fr, .string q.dst, .int .i64 q.sum, .int .i64 q.own, .slice q.cA q.cn q.cc, .int .i64 q.first, .int .i64 q.last, .int .i64 q.share] := blk_second _ _ _ _
  have a0 := hp0.cell 0; have a1 := hp0.cell 1; have a2 := hp0.cell 2; have a3 := hp0.cell 3; have a4 := hp0.cell 4; have a5 := hp0.cell 5; have a6 := hp0.cell 6; have a7 := hp0.cell 7; have a8 := hp0.cell 8
  have b0 := hq0.cell 0; have b1 := hq0.cell 1; have b2 := hq0.cell 2; have b3 := hq0.cell 3; have b4 := hq0.cell 4; have b5 := hq0.cell 5; have b6 := hq0.cell 6; have b7 := hq0.cell 7; have b8 := hq0.cell 8
  simp only [List.getElem?_toArray, List.getElem?_cons_zero, List.getElem?_cons_succ] at a0 a1 a2 a3 a4 a5 a6 a7 a8 b0 b1 b2 b3 b4 b5 b6 b7 b8
  go_enter Tryd.func3, Tryd.ntmps3
  go_wp2_with fail
  refine (awake_any _).mono ?_
  skip
  rintro e w1 ⟨rfl, hb1⟩
  clear a0 a1 a2 a3 a4 a5 a6 a7 a8 b0 b1 b2 b3 b4 b5 b6 b7 b8
  have hB1 := hB0.trans (hb1.mono hB0.size); have hp1 := hp0.below hb1 hp0.lt; have hq1 := hq0.below hb1 hq0.lt; clear hB0 hp0 hq0 hb1
  have a0 := hp1.cell 0; have a1 := hp1.cell 1; have a2 := hp1.cell 2; have a3 := hp1.cell 3; have a4 := hp1.cell 4; have a5 := hp1.cell 5; have a6 := hp1.cell 6; have a7 := hp1.cell 7; have a8 := hp1.cell 8
  have b0 := hq1.cell 0; have b1 := hq1.cell 1; have b2 := hq1.cell 2; have b3 := hq1.cell 3; have b4 := hq1.cell 4; have b5 := hq1.cell 5; have b6 := hq1.cell 6; have b7 := hq1.cell 7; have b8 := hq1.cell 8
  simp only [List.getElem?_toArray, List.getElem?_cons_zero, List.getElem?_cons_succ] at a0 a1 a2 a3 a4 a5 a6 a7 a8 b0 b1 b2 b3 b4 b5 b6 b7 b8
  go_wp2_with fail
  refine (rlong_any p _).mono ?_
  rw [HL.out]
  rintro e w2 ⟨rfl, hb2⟩
  clear a0 a1 a2 a3 a4 a5 a6 a7 a8 b0 b1 b2 b3 b4 b5 b6 b7 b8
  have hB2 := hB1.trans (hb2.mono hB1.size); have hp2 := hp1.below hb2 hp1.lt; have hq2 := hq1.below hb2 hq1.lt; clear hB1 hp1 hq1 hb2
  have a0 := hp2.cell 0; have a1 := hp2.cell 1; have a2 := hp2.cell 2; have a3 := hp2.cell 3; have a4 := hp2.cell 4; have a5 := hp2.cell 5; have a6 := hp2.cell 6; have a7 := hp2.cell 7; have a8 := hp2.cell 8
  have b0 := hq2.cell 0; have b1 := hq2.cell 1; have b2 := hq2.cell 2; have b3 := hq2.cell 3; have b4 := hq2.cell 4; have b5 := hq2.cell 5; have b6 := hq2.cell 6; have b7 := hq2.cell 7; have b8 := hq2.cell 8
  simp only [List.getElem?_toArray, List.getElem?_cons_zero, List.getElem?_cons_succ] at a0 a1 a2 a3 a4 a5 a6 a7 a8 b0 b1 b2 b3 b4 b5 b6 b7 b8
  go_wp2_with fail
  go_ret
  exact ⟨rfl, hB2⟩
set_option maxRecDepth 100000 in
set_option maxHeartbeats 3200000 in
theorem papers_long2 (p q : Pol) (nm : ByteArray) (w : World) (hp : p.ok w) (hq : q.ok w) (hl : longB p = false) (hl2 : longB q = true) : Calls Tryd.prog 3 #[.agg #[.string p.ins, .string p.fr, .string p.dst, .int .i64 p.sum, .int .i64 p.own, .slice p.cA p.cn p.cc, .int .i64 p.first, .int .i64 p.last, .int .i64 p.share], .agg #[.string q.ins, .string q.fr, .string q.dst, .int .i64 q.sum, .int .i64 q.own, .slice q.cA q.cn q.cc, .int .i64 q.first, .int .i64 q.last, .int .i64 q.share], .string nm] w fun e w' => e = .returned (.bool true) ∧ Below w.heap.size w w' := by
  have HL := Lib.hid hl
  have HL2 := Lib.hid hl2
  clear hl hl2
  have HP := Lib.hid hp
  have HQ := Lib.hid hq
  clear hp hq
  have hB0 : Below w.heap.size w (((w.alloc (.cells #[.string p.ins, .string p.fr, .string p.dst, .int .i64 p.sum, .int .i64 p.own, .slice p.cA p.cn p.cc, .int .i64 p.first, .int .i64 p.last, .int .i64 p.share] 24)).alloc (.cells #[.string q.ins, .string q.fr, .string q.dst, .int .i64 q.sum, .int .i64 q.own, .slice q.cA q.cn q.cc, .int .i64 q.first, .int .i64 q.last, .int .i64 q.share] 24))) := two_alloc _ _ _
  have hp0 : Blk (((w.alloc (.cells #[.string p.ins, .string p.fr, .string p.dst, .int .i64 p.sum, .int .i64 p.own, .slice p.cA p.cn p.cc, .int .i64 p.first, .int .i64 p.last, .int .i64 p.share] 24)).alloc (.cells #[.string q.ins, .string q.fr, .string q.dst, .int .i64 q.sum, .int .i64 q.own, .slice q.cA q.cn q.cc, .int .i64 q.first, .int .i64 q.last, .int .i64 q.share] 24))) w.heap.size 24 #[.string p.ins, .string p.fr, .string p.dst, .int .i64 p.sum, .int .i64 p.own, .slice p.cA p.cn p.cc, .int .i64 p.first, .int .i64 p.last, .int .i64 p.share] := (Blk.new _ _ _).alloc _
  have hq0 : Blk (((w.alloc (.cells #[.string p.ins, .string p.fr, .string p.dst, .int .i64 p.sum, .int .i64 p.own, .slice p.cA p.cn p.cc, .int .i64 p.first, .int .i64 p.last, .int .i64 p.share] 24)).alloc (.cells #[.string q.ins, .string q.fr, .string q.dst, .int .i64 q.sum, .int .i64 q.own, .slice q.cA q.cn q.cc, .int .i64 q.first, .int .i64 q.last, .int .i64 q.share] 24))) (w.heap.size + 1) 24 #[.string q.ins, .string q.fr, .string q.dst, .int .i64 q.sum, .int .i64 q.own, .slice q.cA q.cn q.cc, .int .i64 q.first, .int .i64 q.last, .int .i64 q.share] := blk_second _ _ _ _
  have a0 := hp0.cell 0; have a1 := hp0.cell 1; have a2 := hp0.cell 2; have a3 := hp0.cell 3; have a4 := hp0.cell 4; have a5 := hp0.cell 5; have a6 := hp0.cell 6; have a7 := hp0.cell 7; have a8 := hp0.cell 8
  have b0 := hq0.cell 0; have b1 := hq0.cell 1; have b2 := hq0.cell 2; have b3 := hq0.cell 3; have b4 := hq0.cell 4; have b5 := hq0.cell 5; have b6 := hq0.cell 6; have b7 := hq0.cell 7; have b8 := hq0.cell 8
  simp only [List.getElem?_toArray, List.getElem?_cons_zero, List.getElem?_cons_succ] at a0 a1 a2 a3 a4 a5 a6 a7 a8 b0 b1 b2 b3 b4 b5 b6 b7 b8
  go_enter Tryd.func3, Tryd.ntmps3
  go_wp2_with fail
  refine (awake_any _).mono ?_
  skip
  rintro e w1 ⟨rfl, hb1⟩
  clear a0 a1 a2 a3 a4 a5 a6 a7 a8 b0 b1 b2 b3 b4 b5 b6 b7 b8
  have hB1 := hB0.trans (hb1.mono hB0.size); have hp1 := hp0.below hb1 hp0.lt; have hq1 := hq0.below hb1 hq0.lt; clear hB0 hp0 hq0 hb1
  have a0 := hp1.cell 0; have a1 := hp1.cell 1; have a2 := hp1.cell 2; have a3 := hp1.cell 3; have a4 := hp1.cell 4; have a5 := hp1.cell 5; have a6 := hp1.cell 6; have a7 := hp1.cell 7; have a8 := hp1.cell 8
  have b0 := hq1.cell 0; have b1 := hq1.cell 1; have b2 := hq1.cell 2; have b3 := hq1.cell 3; have b4 := hq1.cell 4; have b5 := hq1.cell 5; have b6 := hq1.cell 6; have b7 := hq1.cell 7; have b8 := hq1.cell 8
  simp only [List.getElem?_toArray, List.getElem?_cons_zero, List.getElem?_cons_succ] at a0 a1 a2 a3 a4 a5 a6 a7 a8 b0 b1 b2 b3 b4 b5 b6 b7 b8
  go_wp2_with fail
  refine (rlong_any p _).mono ?_
  rw [HL.out]
  rintro e w2 ⟨rfl, hb2⟩
  clear a0 a1 a2 a3 a4 a5 a6 a7 a8 b0 b1 b2 b3 b4 b5 b6 b7 b8
  have hB2 := hB1.trans (hb2.mono hB1.size); have hp2 := hp1.below hb2 hp1.lt; have hq2 := hq1.below hb2 hq1.lt; clear hB1 hp1 hq1 hb2
  have a0 := hp2.cell 0; have a1 := hp2.cell 1; have a2 := hp2.cell 2; have a3 := hp2.cell 3; have a4 := hp2.cell 4; have a5 := hp2.cell 5; have a6 := hp2.cell 6; have a7 := hp2.cell 7; have a8 := hp2.cell 8
  have b0 := hq2.cell 0; have b1 := hq2.cell 1; have b2 := hq2.cell 2; have b3 := hq2.cell 3; have b4 := hq2.cell 4; have b5 := hq2.cell 5; have b6 := hq2.cell 6; have b7 := hq2.cell 7; have b8 := hq2.cell 8
  simp only [List.getElem?_toArray, List.getElem?_cons_zero, List.getElem?_cons_succ] at a0 a1 a2 a3 a4 a5 a6 a7 a8 b0 b1 b2 b3 b4 b5 b6 b7 b8
  go_wp2_with fail
  refine (rlong_any q _).mono ?_
  rw [HL2.out]
  rintro e w3 ⟨rfl, hb3⟩
  clear a0 a1 a2 a3 a4 a5 a6 a7 a8 b0 b1 b2 b3 b4 b5 b6 b7 b8
  have hB3 := hB2.trans (hb3.mono hB2.size); have hp3 := hp2.below hb3 hp2.lt; have hq3 := hq2.below hb3 hq2.lt; clear hB2 hp2 hq2 hb3
  have a0 := hp3.cell 0; have a1 := hp3.cell 1; have a2 := hp3.cell 2; have a3 := hp3.cell 3; have a4 := hp3.cell 4; have a5 := hp3.cell 5; have a6 := hp3.cell 6; have a7 := hp3.cell 7; have a8 := hp3.cell 8
  have b0 := hq3.cell 0; have b1 := hq3.cell 1; have b2 := hq3.cell 2; have b3 := hq3.cell 3; have b4 := hq3.cell 4; have b5 := hq3.cell 5; have b6 := hq3.cell 6; have b7 := hq3.cell 7; have b8 := hq3.cell 8
  simp only [List.getElem?_toArray, List.getElem?_cons_zero, List.getElem?_cons_succ] at a0 a1 a2 a3 a4 a5 a6 a7 a8 b0 b1 b2 b3 b4 b5 b6 b7 b8
  go_wp2_with fail
  go_ret
  exact ⟨rfl, hB3⟩
set_option maxRecDepth 100000 in
set_option maxHeartbeats 3200000 in
theorem papers_long3 (p q : Pol) (nm : ByteArray) (w : World) (hp : p.ok w) (hq : q.ok w) (hl : longB p = false) (hl2 : longB q = false) (hn : 100 < nm.size) (hn2 : nm.size ≤ maxLen) : Calls Tryd.prog 3 #[.agg #[.string p.ins, .string p.fr, .string p.dst, .int .i64 p.sum, .int .i64 p.own, .slice p.cA p.cn p.cc, .int .i64 p.first, .int .i64 p.last, .int .i64 p.share], .agg #[.string q.ins, .string q.fr, .string q.dst, .int .i64 q.sum, .int .i64 q.own, .slice q.cA q.cn q.cc, .int .i64 q.first, .int .i64 q.last, .int .i64 q.share], .string nm] w fun e w' => e = .returned (.bool true) ∧ Below w.heap.size w w' := by
  have HL := Lib.hid hl
  have HL2 := Lib.hid hl2
  have hg : decide ((100 : Int) < (nm.size : Int)) = true := decide_eq_true (by omega)
  clear hl hl2
  have HP := Lib.hid hp
  have HQ := Lib.hid hq
  clear hp hq
  have hB0 : Below w.heap.size w (((w.alloc (.cells #[.string p.ins, .string p.fr, .string p.dst, .int .i64 p.sum, .int .i64 p.own, .slice p.cA p.cn p.cc, .int .i64 p.first, .int .i64 p.last, .int .i64 p.share] 24)).alloc (.cells #[.string q.ins, .string q.fr, .string q.dst, .int .i64 q.sum, .int .i64 q.own, .slice q.cA q.cn q.cc, .int .i64 q.first, .int .i64 q.last, .int .i64 q.share] 24))) := two_alloc _ _ _
  have hp0 : Blk (((w.alloc (.cells #[.string p.ins, .string p.fr, .string p.dst, .int .i64 p.sum, .int .i64 p.own, .slice p.cA p.cn p.cc, .int .i64 p.first, .int .i64 p.last, .int .i64 p.share] 24)).alloc (.cells #[.string q.ins, .string q.fr, .string q.dst, .int .i64 q.sum, .int .i64 q.own, .slice q.cA q.cn q.cc, .int .i64 q.first, .int .i64 q.last, .int .i64 q.share] 24))) w.heap.size 24 #[.string p.ins, .string p.fr, .string p.dst, .int .i64 p.sum, .int .i64 p.own, .slice p.cA p.cn p.cc, .int .i64 p.first, .int .i64 p.last, .int .i64 p.share] := (Blk.new _ _ _).alloc _
  have hq0 : Blk (((w.alloc (.cells #[.string p.ins, .string p.fr, .string p.dst, .int .i64 p.sum, .int .i64 p.own, .slice p.cA p.cn p.cc, .int .i64 p.first, .int .i64 p.last, .int .i64 p.share] 24)).alloc (.cells #[.string q.ins, .string q.fr, .string q.dst, .int .i64 q.sum, .int .i64 q.own, .slice q.cA q.cn q.cc, .int .i64 q.first, .int .i64 q.last, .int .i64 q.share] 24))) (w.heap.size + 1) 24 #[.string q.ins, .string q.fr, .string q.dst, .int .i64 q.sum, .int .i64 q.own, .slice q.cA q.cn q.cc, .int .i64 q.first, .int .i64 q.last, .int .i64 q.share] := blk_second _ _ _ _
  have a0 := hp0.cell 0; have a1 := hp0.cell 1; have a2 := hp0.cell 2; have a3 := hp0.cell 3; have a4 := hp0.cell 4; have a5 := hp0.cell 5; have a6 := hp0.cell 6; have a7 := hp0.cell 7; have a8 := hp0.cell 8
  have b0 := hq0.cell 0; have b1 := hq0.cell 1; have b2 := hq0.cell 2; have b3 := hq0.cell 3; have b4 := hq0.cell 4; have b5 := hq0.cell 5; have b6 := hq0.cell 6; have b7 := hq0.cell 7; have b8 := hq0.cell 8
  simp only [List.getElem?_toArray, List.getElem?_cons_zero, List.getElem?_cons_succ] at a0 a1 a2 a3 a4 a5 a6 a7 a8 b0 b1 b2 b3 b4 b5 b6 b7 b8
  go_enter Tryd.func3, Tryd.ntmps3
  go_wp2_with fail
  refine (awake_any _).mono ?_
  skip
  rintro e w1 ⟨rfl, hb1⟩
  clear a0 a1 a2 a3 a4 a5 a6 a7 a8 b0 b1 b2 b3 b4 b5 b6 b7 b8
  have hB1 := hB0.trans (hb1.mono hB0.size); have hp1 := hp0.below hb1 hp0.lt; have hq1 := hq0.below hb1 hq0.lt; clear hB0 hp0 hq0 hb1
  have a0 := hp1.cell 0; have a1 := hp1.cell 1; have a2 := hp1.cell 2; have a3 := hp1.cell 3; have a4 := hp1.cell 4; have a5 := hp1.cell 5; have a6 := hp1.cell 6; have a7 := hp1.cell 7; have a8 := hp1.cell 8
  have b0 := hq1.cell 0; have b1 := hq1.cell 1; have b2 := hq1.cell 2; have b3 := hq1.cell 3; have b4 := hq1.cell 4; have b5 := hq1.cell 5; have b6 := hq1.cell 6; have b7 := hq1.cell 7; have b8 := hq1.cell 8
  simp only [List.getElem?_toArray, List.getElem?_cons_zero, List.getElem?_cons_succ] at a0 a1 a2 a3 a4 a5 a6 a7 a8 b0 b1 b2 b3 b4 b5 b6 b7 b8
  go_wp2_with fail
  refine (rlong_any p _).mono ?_
  rw [HL.out]
  rintro e w2 ⟨rfl, hb2⟩
  clear a0 a1 a2 a3 a4 a5 a6 a7 a8 b0 b1 b2 b3 b4 b5 b6 b7 b8
  have hB2 := hB1.trans (hb2.mono hB1.size); have hp2 := hp1.below hb2 hp1.lt; have hq2 := hq1.below hb2 hq1.lt; clear hB1 hp1 hq1 hb2
  have a0 := hp2.cell 0; have a1 := hp2.cell 1; have a2 := hp2.cell 2; have a3 := hp2.cell 3; have a4 := hp2.cell 4; have a5 := hp2.cell 5; have a6 := hp2.cell 6; have a7 := hp2.cell 7; have a8 := hp2.cell 8
  have b0 := hq2.cell 0; have b1 := hq2.cell 1; have b2 := hq2.cell 2; have b3 := hq2.cell 3; have b4 := hq2.cell 4; have b5 := hq2.cell 5; have b6 := hq2.cell 6; have b7 := hq2.cell 7; have b8 := hq2.cell 8
  simp only [List.getElem?_toArray, List.getElem?_cons_zero, List.getElem?_cons_succ] at a0 a1 a2 a3 a4 a5 a6 a7 a8 b0 b1 b2 b3 b4 b5 b6 b7 b8
  go_wp2_with fail
  refine (rlong_any q _).mono ?_
  rw [HL2.out]
  rintro e w3 ⟨rfl, hb3⟩
  clear a0 a1 a2 a3 a4 a5 a6 a7 a8 b0 b1 b2 b3 b4 b5 b6 b7 b8
  have hB3 := hB2.trans (hb3.mono hB2.size); have hp3 := hp2.below hb3 hp2.lt; have hq3 := hq2.below hb3 hq2.lt; clear hB2 hp2 hq2 hb3
  have a0 := hp3.cell 0; have a1 := hp3.cell 1; have a2 := hp3.cell 2; have a3 := hp3.cell 3; have a4 := hp3.cell 4; have a5 := hp3.cell 5; have a6 := hp3.cell 6; have a7 := hp3.cell 7; have a8 := hp3.cell 8
  have b0 := hq3.cell 0; have b1 := hq3.cell 1; have b2 := hq3.cell 2; have b3 := hq3.cell 3; have b4 := hq3.cell 4; have b5 := hq3.cell 5; have b6 := hq3.cell 6; have b7 := hq3.cell 7; have b8 := hq3.cell 8
  simp only [List.getElem?_toArray, List.getElem?_cons_zero, List.getElem?_cons_succ] at a0 a1 a2 a3 a4 a5 a6 a7 a8 b0 b1 b2 b3 b4 b5 b6 b7 b8
  go_wp2_with fail
  go_ret
  exact ⟨rfl, hB3⟩
set_option maxRecDepth 100000 in
set_option maxHeartbeats 12800000 in
theorem papers_bad (p q : Pol) (nm : ByteArray) (w : World) (hp : p.ok w) (hq : q.ok w) (hl : longB p = false) (hl2 : longB q = false) (hn : nm.size ≤ 100) (hbad : (mayP p && nameB nm.data.toList) = false) : Calls Tryd.prog 3 #[.agg #[.string p.ins, .string p.fr, .string p.dst, .int .i64 p.sum, .int .i64 p.own, .slice p.cA p.cn p.cc, .int .i64 p.first, .int .i64 p.last, .int .i64 p.share], .agg #[.string q.ins, .string q.fr, .string q.dst, .int .i64 q.sum, .int .i64 q.own, .slice q.cA q.cn q.cc, .int .i64 q.first, .int .i64 q.last, .int .i64 q.share], .string nm] w fun e w' => e = .returned (.bool true) ∧ Below w.heap.size w w' := by
  have HBAD := Lib.hid hbad
  clear hbad
  have HL := Lib.hid hl
  have HL2 := Lib.hid hl2
  have hg : decide ((100 : Int) < (nm.size : Int)) = false := decide_eq_false (by omega)
  have HN := Lib.hid (show nm.size ≤ maxLen by unfold maxLen; omega)
  have z0 := sameP_self p
  have z1 : (sameP p q != sameP p q) = false := by simp
  clear hl hl2 hn
  have HP := Lib.hid hp
  have HQ := Lib.hid hq
  clear hp hq
  have hB0 : Below w.heap.size w (((w.alloc (.cells #[.string p.ins, .string p.fr, .string p.dst, .int .i64 p.sum, .int .i64 p.own, .slice p.cA p.cn p.cc, .int .i64 p.first, .int .i64 p.last, .int .i64 p.share] 24)).alloc (.cells #[.string q.ins, .string q.fr, .string q.dst, .int .i64 q.sum, .int .i64 q.own, .slice q.cA q.cn q.cc, .int .i64 q.first, .int .i64 q.last, .int .i64 q.share] 24))) := two_alloc _ _ _
  have hp0 : Blk (((w.alloc (.cells #[.string p.ins, .string p.fr, .string p.dst, .int .i64 p.sum, .int .i64 p.own, .slice p.cA p.cn p.cc, .int .i64 p.first, .int .i64 p.last, .int .i64 p.share] 24)).alloc (.cells #[.string q.ins, .string q.fr, .string q.dst, .int .i64 q.sum, .int .i64 q.own, .slice q.cA q.cn q.cc, .int .i64 q.first, .int .i64 q.last, .int .i64 q.share] 24))) w.heap.size 24 #[.string p.ins, .string p.fr, .string p.dst, .int .i64 p.sum, .int .i64 p.own, .slice p.cA p.cn p.cc, .int .i64 p.first, .int .i64 p.last, .int .i64 p.share] := (Blk.new _ _ _).alloc _
  have hq0 : Blk (((w.alloc (.cells #[.string p.ins, .string p.fr, .string p.dst, .int .i64 p.sum, .int .i64 p.own, .slice p.cA p.cn p.cc, .int .i64 p.first, .int .i64 p.last, .int .i64 p.share] 24)).alloc (.cells #[.string q.ins, .string q.fr, .string q.dst, .int .i64 q.sum, .int .i64 q.own, .slice q.cA q.cn q.cc, .int .i64 q.first, .int .i64 q.last, .int .i64 q.share] 24))) (w.heap.size + 1) 24 #[.string q.ins, .string q.fr, .string q.dst, .int .i64 q.sum, .int .i64 q.own, .slice q.cA q.cn q.cc, .int .i64 q.first, .int .i64 q.last, .int .i64 q.share] := blk_second _ _ _ _
  have a0 := hp0.cell 0; have a1 := hp0.cell 1; have a2 := hp0.cell 2; have a3 := hp0.cell 3; have a4 := hp0.cell 4; have a5 := hp0.cell 5; have a6 := hp0.cell 6; have a7 := hp0.cell 7; have a8 := hp0.cell 8
  have b0 := hq0.cell 0; have b1 := hq0.cell 1; have b2 := hq0.cell 2; have b3 := hq0.cell 3; have b4 := hq0.cell 4; have b5 := hq0.cell 5; have b6 := hq0.cell 6; have b7 := hq0.cell 7; have b8 := hq0.cell 8
  simp only [List.getElem?_toArray, List.getElem?_cons_zero, List.getElem?_cons_succ] at a0 a1 a2 a3 a4 a5 a6 a7 a8 b0 b1 b2 b3 b4 b5 b6 b7 b8
  go_enter Tryd.func3, Tryd.ntmps3
  go_wp2_with fail
  refine (awake_any _).mono ?_
  skip
  rintro e w1 ⟨rfl, hb1⟩
  clear a0 a1 a2 a3 a4 a5 a6 a7 a8 b0 b1 b2 b3 b4 b5 b6 b7 b8
  have hB1 := hB0.trans (hb1.mono hB0.size); have hp1 := hp0.below hb1 hp0.lt; have hq1 := hq0.below hb1 hq0.lt; clear hB0 hp0 hq0 hb1
  have a0 := hp1.cell 0; have a1 := hp1.cell 1; have a2 := hp1.cell 2; have a3 := hp1.cell 3; have a4 := hp1.cell 4; have a5 := hp1.cell 5; have a6 := hp1.cell 6; have a7 := hp1.cell 7; have a8 := hp1.cell 8
  have b0 := hq1.cell 0; have b1 := hq1.cell 1; have b2 := hq1.cell 2; have b3 := hq1.cell 3; have b4 := hq1.cell 4; have b5 := hq1.cell 5; have b6 := hq1.cell 6; have b7 := hq1.cell 7; have b8 := hq1.cell 8
  simp only [List.getElem?_toArray, List.getElem?_cons_zero, List.getElem?_cons_succ] at a0 a1 a2 a3 a4 a5 a6 a7 a8 b0 b1 b2 b3 b4 b5 b6 b7 b8
  go_wp2_with fail
  refine (rlong_any p _).mono ?_
  rw [HL.out]
  rintro e w2 ⟨rfl, hb2⟩
  clear a0 a1 a2 a3 a4 a5 a6 a7 a8 b0 b1 b2 b3 b4 b5 b6 b7 b8
  have hB2 := hB1.trans (hb2.mono hB1.size); have hp2 := hp1.below hb2 hp1.lt; have hq2 := hq1.below hb2 hq1.lt; clear hB1 hp1 hq1 hb2
  have a0 := hp2.cell 0; have a1 := hp2.cell 1; have a2 := hp2.cell 2; have a3 := hp2.cell 3; have a4 := hp2.cell 4; have a5 := hp2.cell 5; have a6 := hp2.cell 6; have a7 := hp2.cell 7; have a8 := hp2.cell 8
  have b0 := hq2.cell 0; have b1 := hq2.cell 1; have b2 := hq2.cell 2; have b3 := hq2.cell 3; have b4 := hq2.cell 4; have b5 := hq2.cell 5; have b6 := hq2.cell 6; have b7 := hq2.cell 7; have b8 := hq2.cell 8
  simp only [List.getElem?_toArray, List.getElem?_cons_zero, List.getElem?_cons_succ] at a0 a1 a2 a3 a4 a5 a6 a7 a8 b0 b1 b2 b3 b4 b5 b6 b7 b8
  go_wp2_with fail
  refine (rlong_any q _).mono ?_
  rw [HL2.out]
  rintro e w3 ⟨rfl, hb3⟩
  clear a0 a1 a2 a3 a4 a5 a6 a7 a8 b0 b1 b2 b3 b4 b5 b6 b7 b8
  have hB3 := hB2.trans (hb3.mono hB2.size); have hp3 := hp2.below hb3 hp2.lt; have hq3 := hq2.below hb3 hq2.lt; clear hB2 hp2 hq2 hb3
  have a0 := hp3.cell 0; have a1 := hp3.cell 1; have a2 := hp3.cell 2; have a3 := hp3.cell 3; have a4 := hp3.cell 4; have a5 := hp3.cell 5; have a6 := hp3.cell 6; have a7 := hp3.cell 7; have a8 := hp3.cell 8
  have b0 := hq3.cell 0; have b1 := hq3.cell 1; have b2 := hq3.cell 2; have b3 := hq3.cell 3; have b4 := hq3.cell 4; have b5 := hq3.cell 5; have b6 := hq3.cell 6; have b7 := hq3.cell 7; have b8 := hq3.cell 8
  simp only [List.getElem?_toArray, List.getElem?_cons_zero, List.getElem?_cons_succ] at a0 a1 a2 a3 a4 a5 a6 a7 a8 b0 b1 b2 b3 b4 b5 b6 b7 b8
  go_wp2_with fail
  refine (doc_bad p nm _ (HP.out.below hB3) HN.out HBAD.out).mono ?_
  rintro e w4 ⟨rfl, hb4⟩
  clear a0 a1 a2 a3 a4 a5 a6 a7 a8 b0 b1 b2 b3 b4 b5 b6 b7 b8
  have hB4 := hB3.trans (hb4.mono hB3.size); have hp4 := hp3.below hb4 hp3.lt; have hq4 := hq3.below hb4 hq3.lt; clear hB3 hp3 hq3 hb4
  go_wp2_with ((refine stop_store 29 _ _ rfl ?_; refine wpList_store_new rfl 29 _ _ rfl _ rfl rfl (by kernel_rfl) rfl rfl ?_))
  have hd4 := Blk.new w4 29 #[.int .i64 0, .string ⟨#[]⟩, .string ⟨#[]⟩, .slice none 0 0]
  have hb5 : Below w4.heap.size w4 (w4.alloc (.cells #[.int .i64 0, .string ⟨#[]⟩, .string ⟨#[]⟩, .slice none 0 0] 29)) := one_alloc _ _
  obtain ⟨gd, hgd⟩ : ∃ g, w4.heap.size = g := ⟨_, rfl⟩
  obtain ⟨w5, hw5⟩ : ∃ W, w4.alloc (.cells #[.int .i64 0, .string ⟨#[]⟩, .string ⟨#[]⟩, .slice none 0 0] 29) = W := ⟨_, rfl⟩
  rw [hw5] at hd4 hb5 ⊢
  rw [hgd] at hd4 ⊢
  have hB5 := hB4.trans (hb5.mono hB4.size); have hp5 := hp4.below hb5 hp4.lt; have hq5 := hq4.below hb5 hq4.lt; clear hB4 hp4 hq4 hb5
  clear hw5 hgd
  have a0 := hp5.cell 0; have a1 := hp5.cell 1; have a2 := hp5.cell 2; have a3 := hp5.cell 3; have a4 := hp5.cell 4; have a5 := hp5.cell 5; have a6 := hp5.cell 6; have a7 := hp5.cell 7; have a8 := hp5.cell 8
  have b0 := hq5.cell 0; have b1 := hq5.cell 1; have b2 := hq5.cell 2; have b3 := hq5.cell 3; have b4 := hq5.cell 4; have b5 := hq5.cell 5; have b6 := hq5.cell 6; have b7 := hq5.cell 7; have b8 := hq5.cell 8
  simp only [List.getElem?_toArray, List.getElem?_cons_zero, List.getElem?_cons_succ] at a0 a1 a2 a3 a4 a5 a6 a7 a8 b0 b1 b2 b3 b4 b5 b6 b7 b8
  have QP := Lib.hid (HP.out.below hB5)
  have QQ := Lib.hid (HQ.out.below hB5)
  have p0 := wof_cell a0; have p1 := wof_cell a1; have p2 := wof_cell a2; have p3 := wof_cell a3; have p4 := wof_cell a4; have p5 := wof_cell a5; have p6 := wof_cell a6; have p7 := wof_cell a7; have p8 := wof_cell a8
  have q0 := wof_cell b0; have q1 := wof_cell b1; have q2 := wof_cell b2; have q3 := wof_cell b3; have q4 := wof_cell b4; have q5 := wof_cell b5; have q6 := wof_cell b6; have q7 := wof_cell b7; have q8 := wof_cell b8
  go_wp2_with fail
  refine wp_region_quiet_below (by kernel_rfl) (by kernel_rfl) ?_
  repeat (go_big_quiet_step ((first | (go_at_call 7; first | (with_reducible refine quiet_below (same_any p q _ ?_ ?_); exact QP.out.below (wof_below _); exact QQ.out.below (wof_below _)) | (with_reducible refine quiet_below (same_any p p _ ?_ ?_); exact QP.out.below (wof_below _); exact QP.out.below (wof_below _))) | (go_at_call 8; (with_reducible refine quiet_below (rsame_any p q _ ?_ ?_); exact QP.out.below (wof_below _); exact QQ.out.below (wof_below _))))))
  refine wpQuiet_nil ?_
  intro w6 hb6
  clear p0 p1 p2 p3 p4 p5 p6 p7 p8 q0 q1 q2 q3 q4 q5 q6 q7 q8
  have hd6 := hd4.below hb6 hd4.lt
  clear a0 a1 a2 a3 a4 a5 a6 a7 a8 b0 b1 b2 b3 b4 b5 b6 b7 b8
  have hB6 := hB5.trans (hb6.mono hB5.size); have hp6 := hp5.below hb6 hp5.lt; have hq6 := hq5.below hb6 hq5.lt; clear hB5 hp5 hq5 hb6
  have a0 := hp6.cell 0; have a1 := hp6.cell 1; have a2 := hp6.cell 2; have a3 := hp6.cell 3; have a4 := hp6.cell 4; have a5 := hp6.cell 5; have a6 := hp6.cell 6; have a7 := hp6.cell 7; have a8 := hp6.cell 8
  have b0 := hq6.cell 0; have b1 := hq6.cell 1; have b2 := hq6.cell 2; have b3 := hq6.cell 3; have b4 := hq6.cell 4; have b5 := hq6.cell 5; have b6 := hq6.cell 6; have b7 := hq6.cell 7; have b8 := hq6.cell 8
  simp only [List.getElem?_toArray, List.getElem?_cons_zero, List.getElem?_cons_succ] at a0 a1 a2 a3 a4 a5 a6 a7 a8 b0 b1 b2 b3 b4 b5 b6 b7 b8
  clear hd4 QP QQ
  have hbd := build_doc0
  cases hm : mayP p
  · have HM := Lib.hid hm
    clear hm
    go_wp2_with fail
    refine (rmay_any p _ (HP.out.below hB6)).mono ?_
    rw [HM.out]
    rintro e w7 ⟨rfl, hb7⟩
    have hd7 := hd6.below hb7 hd6.lt
    have d0 := hd7.cell 0; have d1 := hd7.cell 1; have d2 := hd7.cell 2; have d3 := hd7.cell 3
    simp only [List.getElem?_toArray, List.getElem?_cons_zero, List.getElem?_cons_succ] at d0 d1 d2 d3
    clear a0 a1 a2 a3 a4 a5 a6 a7 a8 b0 b1 b2 b3 b4 b5 b6 b7 b8
    have hB7 := hB6.trans (hb7.mono hB6.size); have hp7 := hp6.below hb7 hp6.lt; have hq7 := hq6.below hb7 hq6.lt; clear hB6 hp6 hq6 hb7
    go_wp2_with fail
    refine (docs_any 0 _ _ none 0 0 none 0 [] _ SliceOf.none_ SliceOf.none_ (by omega)).mono ?_
    rintro e w8 ⟨rfl, hb8⟩
    go_wp2_with fail
    go_ret
    exact ⟨rfl, hB7.trans (hb8.mono hB7.size)⟩
  · have HM := Lib.hid hm
    have HNM : Hid (nameB nm.data.toList = false) := Lib.hid (by have := HBAD.out; rw [hm, Bool.true_and] at this; exact this)
    clear hm
    go_wp2_with fail
    refine (rmay_any p _ (HP.out.below hB6)).mono ?_
    rw [HM.out]
    rintro e w7 ⟨rfl, hb7⟩
    have hd7 := hd6.below hb7 hd6.lt
    have d0 := hd7.cell 0; have d1 := hd7.cell 1; have d2 := hd7.cell 2; have d3 := hd7.cell 3
    simp only [List.getElem?_toArray, List.getElem?_cons_zero, List.getElem?_cons_succ] at d0 d1 d2 d3
    clear a0 a1 a2 a3 a4 a5 a6 a7 a8 b0 b1 b2 b3 b4 b5 b6 b7 b8
    have hB7 := hB6.trans (hb7.mono hB6.size); have hp7 := hp6.below hb7 hp6.lt; have hq7 := hq6.below hb7 hq6.lt; clear hB6 hp6 hq6 hb7
    go_wp2_with fail
    refine (rname_any nm _ HN.out).mono ?_
    rw [HNM.out]
    rintro e w8 ⟨rfl, rfl⟩
    go_wp2_with fail
    refine (docs_any 0 _ _ none 0 0 none 0 [] _ SliceOf.none_ SliceOf.none_ (by omega)).mono ?_
    rintro e w8 ⟨rfl, hb8⟩
    go_wp2_with fail
    go_ret
    exact ⟨rfl, hB7.trans (hb8.mono hB7.size)⟩
set_option maxRecDepth 100000 in
set_option maxHeartbeats 12800000 in
theorem papers_good (p q : Pol) (nm : ByteArray) (w : World) (hp : p.ok w) (hq : q.ok w) (hl : longB p = false) (hl2 : longB q = false) (hn : nm.size ≤ 100) (hm : mayP p = true) (hnm : nameB nm.data.toList = true) (ht : PowTab w) : Calls Tryd.prog 3 #[.agg #[.string p.ins, .string p.fr, .string p.dst, .int .i64 p.sum, .int .i64 p.own, .slice p.cA p.cn p.cc, .int .i64 p.first, .int .i64 p.last, .int .i64 p.share], .agg #[.string q.ins, .string q.fr, .string q.dst, .int .i64 q.sum, .int .i64 q.own, .slice q.cA q.cn q.cc, .int .i64 q.first, .int .i64 q.last, .int .i64 q.share], .string nm] w fun e w' => e = .returned (.bool true) ∧ Below w.heap.size w w' := by
  have HM := Lib.hid hm
  have HNM := Lib.hid hnm
  have HTB := Lib.hid (Lib.tabBelow_of_tabIs ht)
  clear hm hnm ht
  have HL := Lib.hid hl
  have HL2 := Lib.hid hl2
  have hg : decide ((100 : Int) < (nm.size : Int)) = false := decide_eq_false (by omega)
  have HN := Lib.hid (show nm.size ≤ maxLen by unfold maxLen; omega)
  have z0 := sameP_self p
  have z1 : (sameP p q != sameP p q) = false := by simp
  clear hl hl2 hn
  have HP := Lib.hid hp
  have HQ := Lib.hid hq
  clear hp hq
  have hB0 : Below w.heap.size w (((w.alloc (.cells #[.string p.ins, .string p.fr, .string p.dst, .int .i64 p.sum, .int .i64 p.own, .slice p.cA p.cn p.cc, .int .i64 p.first, .int .i64 p.last, .int .i64 p.share] 24)).alloc (.cells #[.string q.ins, .string q.fr, .string q.dst, .int .i64 q.sum, .int .i64 q.own, .slice q.cA q.cn q.cc, .int .i64 q.first, .int .i64 q.last, .int .i64 q.share] 24))) := two_alloc _ _ _
  have hp0 : Blk (((w.alloc (.cells #[.string p.ins, .string p.fr, .string p.dst, .int .i64 p.sum, .int .i64 p.own, .slice p.cA p.cn p.cc, .int .i64 p.first, .int .i64 p.last, .int .i64 p.share] 24)).alloc (.cells #[.string q.ins, .string q.fr, .string q.dst, .int .i64 q.sum, .int .i64 q.own, .slice q.cA q.cn q.cc, .int .i64 q.first, .int .i64 q.last, .int .i64 q.share] 24))) w.heap.size 24 #[.string p.ins, .string p.fr, .string p.dst, .int .i64 p.sum, .int .i64 p.own, .slice p.cA p.cn p.cc, .int .i64 p.first, .int .i64 p.last, .int .i64 p.share] := (Blk.new _ _ _).alloc _
  have hq0 : Blk (((w.alloc (.cells #[.string p.ins, .string p.fr, .string p.dst, .int .i64 p.sum, .int .i64 p.own, .slice p.cA p.cn p.cc, .int .i64 p.first, .int .i64 p.last, .int .i64 p.share] 24)).alloc (.cells #[.string q.ins, .string q.fr, .string q.dst, .int .i64 q.sum, .int .i64 q.own, .slice q.cA q.cn q.cc, .int .i64 q.first, .int .i64 q.last, .int .i64 q.share] 24))) (w.heap.size + 1) 24 #[.string q.ins, .string q.fr, .string q.dst, .int .i64 q.sum, .int .i64 q.own, .slice q.cA q.cn q.cc, .int .i64 q.first, .int .i64 q.last, .int .i64 q.share] := blk_second _ _ _ _
  have a0 := hp0.cell 0; have a1 := hp0.cell 1; have a2 := hp0.cell 2; have a3 := hp0.cell 3; have a4 := hp0.cell 4; have a5 := hp0.cell 5; have a6 := hp0.cell 6; have a7 := hp0.cell 7; have a8 := hp0.cell 8
  have b0 := hq0.cell 0; have b1 := hq0.cell 1; have b2 := hq0.cell 2; have b3 := hq0.cell 3; have b4 := hq0.cell 4; have b5 := hq0.cell 5; have b6 := hq0.cell 6; have b7 := hq0.cell 7; have b8 := hq0.cell 8
  simp only [List.getElem?_toArray, List.getElem?_cons_zero, List.getElem?_cons_succ] at a0 a1 a2 a3 a4 a5 a6 a7 a8 b0 b1 b2 b3 b4 b5 b6 b7 b8
  go_enter Tryd.func3, Tryd.ntmps3
  go_wp2_with fail
  refine (awake_any _).mono ?_
  skip
  rintro e w1 ⟨rfl, hb1⟩
  clear a0 a1 a2 a3 a4 a5 a6 a7 a8 b0 b1 b2 b3 b4 b5 b6 b7 b8
  have hB1 := hB0.trans (hb1.mono hB0.size); have hp1 := hp0.below hb1 hp0.lt; have hq1 := hq0.below hb1 hq0.lt; clear hB0 hp0 hq0 hb1
  have a0 := hp1.cell 0; have a1 := hp1.cell 1; have a2 := hp1.cell 2; have a3 := hp1.cell 3; have a4 := hp1.cell 4; have a5 := hp1.cell 5; have a6 := hp1.cell 6; have a7 := hp1.cell 7; have a8 := hp1.cell 8
  have b0 := hq1.cell 0; have b1 := hq1.cell 1; have b2 := hq1.cell 2; have b3 := hq1.cell 3; have b4 := hq1.cell 4; have b5 := hq1.cell 5; have b6 := hq1.cell 6; have b7 := hq1.cell 7; have b8 := hq1.cell 8
  simp only [List.getElem?_toArray, List.getElem?_cons_zero, List.getElem?_cons_succ] at a0 a1 a2 a3 a4 a5 a6 a7 a8 b0 b1 b2 b3 b4 b5 b6 b7 b8
  go_wp2_with fail
  refine (rlong_any p _).mono ?_
  rw [HL.out]
  rintro e w2 ⟨rfl, hb2⟩
  clear a0 a1 a2 a3 a4 a5 a6 a7 a8 b0 b1 b2 b3 b4 b5 b6 b7 b8
  have hB2 := hB1.trans (hb2.mono hB1.size); have hp2 := hp1.below hb2 hp1.lt; have hq2 := hq1.below hb2 hq1.lt; clear hB1 hp1 hq1 hb2
  have a0 := hp2.cell 0; have a1 := hp2.cell 1; have a2 := hp2.cell 2; have a3 := hp2.cell 3; have a4 := hp2.cell 4; have a5 := hp2.cell 5; have a6 := hp2.cell 6; have a7 := hp2.cell 7; have a8 := hp2.cell 8
  have b0 := hq2.cell 0; have b1 := hq2.cell 1; have b2 := hq2.cell 2; have b3 := hq2.cell 3; have b4 := hq2.cell 4; have b5 := hq2.cell 5; have b6 := hq2.cell 6; have b7 := hq2.cell 7; have b8 := hq2.cell 8
  simp only [List.getElem?_toArray, List.getElem?_cons_zero, List.getElem?_cons_succ] at a0 a1 a2 a3 a4 a5 a6 a7 a8 b0 b1 b2 b3 b4 b5 b6 b7 b8
  go_wp2_with fail
  refine (rlong_any q _).mono ?_
  rw [HL2.out]
  rintro e w3 ⟨rfl, hb3⟩
  clear a0 a1 a2 a3 a4 a5 a6 a7 a8 b0 b1 b2 b3 b4 b5 b6 b7 b8
  have hB3 := hB2.trans (hb3.mono hB2.size); have hp3 := hp2.below hb3 hp2.lt; have hq3 := hq2.below hb3 hq2.lt; clear hB2 hp2 hq2 hb3
  have a0 := hp3.cell 0; have a1 := hp3.cell 1; have a2 := hp3.cell 2; have a3 := hp3.cell 3; have a4 := hp3.cell 4; have a5 := hp3.cell 5; have a6 := hp3.cell 6; have a7 := hp3.cell 7; have a8 := hp3.cell 8
  have b0 := hq3.cell 0; have b1 := hq3.cell 1; have b2 := hq3.cell 2; have b3 := hq3.cell 3; have b4 := hq3.cell 4; have b5 := hq3.cell 5; have b6 := hq3.cell 6; have b7 := hq3.cell 7; have b8 := hq3.cell 8
  simp only [List.getElem?_toArray, List.getElem?_cons_zero, List.getElem?_cons_succ] at a0 a1 a2 a3 a4 a5 a6 a7 a8 b0 b1 b2 b3 b4 b5 b6 b7 b8
  go_wp2_with fail
  refine (doc_ok p nm _ (HP.out.below hB3) HN.out HM.out HNM.out (HTB.out.on hB3).here).mono ?_
  rintro e w4 ⟨A, c, rfl, hs4, hb4⟩
  clear a0 a1 a2 a3 a4 a5 a6 a7 a8 b0 b1 b2 b3 b4 b5 b6 b7 b8
  have hB4 := hB3.trans (hb4.mono hB3.size); have hp4 := hp3.below hb4 hp3.lt; have hq4 := hq3.below hb4 hq3.lt; clear hB3 hp3 hq3 hb4
  go_wp2_with ((refine stop_store 29 _ _ rfl ?_; refine wpList_store_new rfl 29 _ _ rfl _ rfl rfl (by kernel_rfl) rfl rfl ?_))
  have HS5 := Lib.hid (hs4.below (one_alloc w4 (.cells #[.int .i64 3, .string nm, .string p.ins, .slice A 8 c] 29)))
  obtain ⟨FS, hFS⟩ : ∃ FS, fsV p.fr p.dst p.sum p.own p.share p.first p.last (joinS (p.causes.map itS)) = FS := ⟨_, rfl⟩
  have HFS := Lib.hid hFS
  rw [hFS] at HS5
  clear hFS hs4
  have HSX : ∀ W, w4.alloc (.cells #[.int .i64 3, .string nm, .string p.ins, .slice A 8 c] 29) = W → Hid (SliceOf W 2 fdC A 8 FS) := fun W e => e ▸ HS5
  clear HS5
  have hd4 := Blk.new w4 29 #[.int .i64 3, .string nm, .string p.ins, .slice A 8 c]
  have hb5 : Below w4.heap.size w4 (w4.alloc (.cells #[.int .i64 3, .string nm, .string p.ins, .slice A 8 c] 29)) := one_alloc _ _
  obtain ⟨gd, hgd⟩ : ∃ g, w4.heap.size = g := ⟨_, rfl⟩
  obtain ⟨w5, hw5⟩ : ∃ W, w4.alloc (.cells #[.int .i64 3, .string nm, .string p.ins, .slice A 8 c] 29) = W := ⟨_, rfl⟩
  have HS5 := HSX w5 hw5
  clear HSX
  rw [hw5] at hd4 hb5 ⊢
  rw [hgd] at hd4 ⊢
  have hB5 := hB4.trans (hb5.mono hB4.size); have hp5 := hp4.below hb5 hp4.lt; have hq5 := hq4.below hb5 hq4.lt; clear hB4 hp4 hq4 hb5
  clear hw5 hgd
  have a0 := hp5.cell 0; have a1 := hp5.cell 1; have a2 := hp5.cell 2; have a3 := hp5.cell 3; have a4 := hp5.cell 4; have a5 := hp5.cell 5; have a6 := hp5.cell 6; have a7 := hp5.cell 7; have a8 := hp5.cell 8
  have b0 := hq5.cell 0; have b1 := hq5.cell 1; have b2 := hq5.cell 2; have b3 := hq5.cell 3; have b4 := hq5.cell 4; have b5 := hq5.cell 5; have b6 := hq5.cell 6; have b7 := hq5.cell 7; have b8 := hq5.cell 8
  simp only [List.getElem?_toArray, List.getElem?_cons_zero, List.getElem?_cons_succ] at a0 a1 a2 a3 a4 a5 a6 a7 a8 b0 b1 b2 b3 b4 b5 b6 b7 b8
  have QP := Lib.hid (HP.out.below hB5)
  have QQ := Lib.hid (HQ.out.below hB5)
  have p0 := wof_cell a0; have p1 := wof_cell a1; have p2 := wof_cell a2; have p3 := wof_cell a3; have p4 := wof_cell a4; have p5 := wof_cell a5; have p6 := wof_cell a6; have p7 := wof_cell a7; have p8 := wof_cell a8
  have q0 := wof_cell b0; have q1 := wof_cell b1; have q2 := wof_cell b2; have q3 := wof_cell b3; have q4 := wof_cell b4; have q5 := wof_cell b5; have q6 := wof_cell b6; have q7 := wof_cell b7; have q8 := wof_cell b8
  go_wp2_with fail
  refine wp_region_quiet_below (by kernel_rfl) (by kernel_rfl) ?_
  repeat (go_big_quiet_step ((first | (go_at_call 7; first | (with_reducible refine quiet_below (same_any p q _ ?_ ?_); exact QP.out.below (wof_below _); exact QQ.out.below (wof_below _)) | (with_reducible refine quiet_below (same_any p p _ ?_ ?_); exact QP.out.below (wof_below _); exact QP.out.below (wof_below _))) | (go_at_call 8; (with_reducible refine quiet_below (rsame_any p q _ ?_ ?_); exact QP.out.below (wof_below _); exact QQ.out.below (wof_below _))))))
  refine wpQuiet_nil ?_
  intro w6 hb6
  clear p0 p1 p2 p3 p4 p5 p6 p7 p8 q0 q1 q2 q3 q4 q5 q6 q7 q8
  have hd6 := hd4.below hb6 hd4.lt
  have HS6 := Lib.hid (HS5.out.below hb6)
  clear a0 a1 a2 a3 a4 a5 a6 a7 a8 b0 b1 b2 b3 b4 b5 b6 b7 b8
  have hB6 := hB5.trans (hb6.mono hB5.size); have hp6 := hp5.below hb6 hp5.lt; have hq6 := hq5.below hb6 hq5.lt; clear hB5 hp5 hq5 hb6
  have a0 := hp6.cell 0; have a1 := hp6.cell 1; have a2 := hp6.cell 2; have a3 := hp6.cell 3; have a4 := hp6.cell 4; have a5 := hp6.cell 5; have a6 := hp6.cell 6; have a7 := hp6.cell 7; have a8 := hp6.cell 8
  have b0 := hq6.cell 0; have b1 := hq6.cell 1; have b2 := hq6.cell 2; have b3 := hq6.cell 3; have b4 := hq6.cell 4; have b5 := hq6.cell 5; have b6 := hq6.cell 6; have b7 := hq6.cell 7; have b8 := hq6.cell 8
  simp only [List.getElem?_toArray, List.getElem?_cons_zero, List.getElem?_cons_succ] at a0 a1 a2 a3 a4 a5 a6 a7 a8 b0 b1 b2 b3 b4 b5 b6 b7 b8
  clear hd4 QP QQ HS5
  go_wp2_with fail
  refine (rmay_any p _ (HP.out.below hB6)).mono ?_
  rw [HM.out]
  rintro e w7 ⟨rfl, hb7⟩
  have HD7 := Lib.hid (hd6.below hb7 hd6.lt)
  have HS7 := Lib.hid (HS6.out.below hb7)
  clear a0 a1 a2 a3 a4 a5 a6 a7 a8 b0 b1 b2 b3 b4 b5 b6 b7 b8
  have hB7 := hB6.trans (hb7.mono hB6.size); have hp7 := hp6.below hb7 hp6.lt; have hq7 := hq6.below hb7 hq6.lt; clear hB6 hp6 hq6 hb7
  clear hd6 HS6
  go_wp2_with fail
  refine (rname_any nm _ HN.out).mono ?_
  rw [HNM.out]
  rintro e w8 ⟨rfl, rfl⟩
  have HK7 := Lib.hid hp7
  have HB7 := Lib.hid hB7
  clear hp7 hq7 hB7
  have hp8 := HK7.out.drew
  have hd8 := HD7.out.drew
  have HS8 := Lib.hid (HS7.out.below (below_drewN (Below.refl _ _) 1))
  have HB8 := Lib.hid HB7.out.drew
  have HP8 := Lib.hid (HP.out.below HB8.out)
  go_upto_region 10 with (fail)
  have a0 := hp8.cell 0; have a1 := hp8.cell 1; have a2 := hp8.cell 2; have a3 := hp8.cell 3; have a4 := hp8.cell 4; have a5 := hp8.cell 5; have a6 := hp8.cell 6; have a7 := hp8.cell 7; have a8 := hp8.cell 8
  simp only [List.getElem?_toArray, List.getElem?_cons_zero, List.getElem?_cons_succ] at a0 a1 a2 a3 a4 a5 a6 a7 a8
  have d0 := (hd8).cell 0; have d1 := (hd8).cell 1; have d2 := (hd8).cell 2; have d3 := (hd8).cell 3; simp only [List.getElem?_toArray, List.getElem?_cons_zero, List.getElem?_cons_succ] at d0 d1 d2 d3
  have HD8 := Lib.hid hd8
  have HPB := Lib.hid hp8
  clear hp8 hd8
  go_region_held3 (fun W => W.cell? ⟨gd, 0, none⟩ = some (.int .i64 3) ∧ W.cell? ⟨gd, 1, none⟩ = some (.string nm) ∧ W.cell? ⟨gd, 2, none⟩ = some (.string p.ins) ∧ W.cell? ⟨gd, 3, none⟩ = some (.slice A 8 c) ∧ W.cell? ⟨w.heap.size, 0, none⟩ = some (.string p.ins) ∧ W.cell? ⟨w.heap.size, 1, none⟩ = some (.string p.fr) ∧ W.cell? ⟨w.heap.size, 2, none⟩ = some (.string p.dst) ∧ W.cell? ⟨w.heap.size, 3, none⟩ = some (.int .i64 p.sum) ∧ W.cell? ⟨w.heap.size, 4, none⟩ = some (.int .i64 p.own) ∧ W.cell? ⟨w.heap.size, 5, none⟩ = some (.slice p.cA p.cn p.cc) ∧ W.cell? ⟨w.heap.size, 6, none⟩ = some (.int .i64 p.first) ∧ W.cell? ⟨w.heap.size, 7, none⟩ = some (.int .i64 p.last) ∧ W.cell? ⟨w.heap.size, 8, none⟩ = some (.int .i64 p.share)) (go_keep)
    (first | (go_at_call 12; (with_reducible refine Calls.mono (rdoc_ok p nm _ HP8.out HM.out) ?_); rintro e u2 ⟨B, d, rfl, hs2, hb2⟩; rw [HFS.out] at hs2; have HD2 := Lib.hid (HD8.out.below hb2 HD8.out.lt); have e0 := (HD2.out).cell 0; have e1 := (HD2.out).cell 1; have e2 := (HD2.out).cell 2; have e3 := (HD2.out).cell 3; simp only [List.getElem?_toArray, List.getElem?_cons_zero, List.getElem?_cons_succ] at e0 e1 e2 e3; have HPB2 := Lib.hid (HPB.out.below hb2 HPB.out.lt); have m0 := (HPB2.out).cell 0; have m1 := (HPB2.out).cell 1; have m2 := (HPB2.out).cell 2; have m3 := (HPB2.out).cell 3; have m4 := (HPB2.out).cell 4; have m5 := (HPB2.out).cell 5; have m6 := (HPB2.out).cell 6; have m7 := (HPB2.out).cell 7; have m8 := (HPB2.out).cell 8; simp only [List.getElem?_toArray, List.getElem?_cons_zero, List.getElem?_cons_succ] at m0 m1 m2 m3 m4 m5 m6 m7 m8; have HS2 := Lib.hid (HS8.out.below hb2); have HT2 := Lib.hid hs2; have HB2 := Lib.hid (HB8.out.trans (hb2.mono HB8.out.size)); clear hs2 hb2) | (go_at_call 11; (with_reducible refine Calls.mono (docs_any 3 nm p.ins A 8 c B d FS _ HS2.out HT2.out (by omega)) ?_); rintro e u3 ⟨rfl, hb3⟩; have HB3 := Lib.hid (HB2.out.trans (hb3.mono HB2.out.size)); have HD3 := Lib.hid (HD2.out.below hb3 HD2.out.lt); have f0 := (HD3.out).cell 0; have f1 := (HD3.out).cell 1; have f2 := (HD3.out).cell 2; have f3 := (HD3.out).cell 3; simp only [List.getElem?_toArray, List.getElem?_cons_zero, List.getElem?_cons_succ] at f0 f1 f2 f3; have HPB3 := Lib.hid (HPB2.out.below hb3 HPB2.out.lt); have n0 := (HPB3.out).cell 0; have n1 := (HPB3.out).cell 1; have n2 := (HPB3.out).cell 2; have n3 := (HPB3.out).cell 3; have n4 := (HPB3.out).cell 4; have n5 := (HPB3.out).cell 5; have n6 := (HPB3.out).cell 6; have n7 := (HPB3.out).cell 7; have n8 := (HPB3.out).cell 8; simp only [List.getElem?_toArray, List.getElem?_cons_zero, List.getElem?_cons_succ] at n0 n1 n2 n3 n4 n5 n6 n7 n8; clear hb3))
  all_goals
    go_wp2_with fail
    go_ret
    exact ⟨rfl, HB3.out⟩
theorem policyPapers_walk (p q : Pol) (nm : ByteArray) (w : World) (hp : p.ok w) (hq : q.ok w) (hn : nm.size ≤ maxLen) (ht : PowTab w) : Calls Tryd.prog 3 #[.agg #[.string p.ins, .string p.fr, .string p.dst, .int .i64 p.sum, .int .i64 p.own, .slice p.cA p.cn p.cc, .int .i64 p.first, .int .i64 p.last, .int .i64 p.share], .agg #[.string q.ins, .string q.fr, .string q.dst, .int .i64 q.sum, .int .i64 q.own, .slice q.cA q.cn q.cc, .int .i64 q.first, .int .i64 q.last, .int .i64 q.share], .string nm] w fun e w' => e = .returned (.bool true) ∧ Below w.heap.size w w' := by
  cases h1 : longB p
  rotate_left
  · exact papers_long1 p q nm w hp hq h1
  cases h2 : longB q
  rotate_left
  · exact papers_long2 p q nm w hp hq h1 h2
  by_cases h3 : 100 < nm.size
  · exact papers_long3 p q nm w hp hq h1 h2 h3 hn
  cases h4 : (mayP p && nameB nm.data.toList)
  · exact papers_bad p q nm w hp hq h1 h2 (by omega) h4
  · rw [Bool.and_eq_true] at h4
    exact papers_good p q nm w hp hq h1 h2 (by omega) h4.1 h4.2 ht
end Go.Proofs.YtldjohmdlggmeaaDoor
