/- A bill in memory; how it is made; what step asks. No condition. -/
import Derived.Test.YtlaclkiedjhphaaGreatDoorDfM
import Derived.Test.YtlaclkiedjhphaaGreatDoorDfR
import Derived.Test.YtlaclkiedjhphaaGreatDoorStep
import Derived.Laws.EntriesVeiled
import Derived.Laws.Tables
namespace Go.Proofs.YtlaclkiedjhphaaGreatDoor.kit
open Go.RowKit Go.PlainAid Go.Maps
set_option linter.unusedVariables false

/-- A bill, and the map of those who passed it on. -/
structure IsBill (w : World) (g mb : Nat) (b : Bl) : Prop where
  blk : Blk w g 62 #[.string b.d.num, .string b.d.drw, .string b.d.dre, .string b.d.pay, .string b.d.cur, .int .i64 b.d.amt, .int .i64 b.d.kind, .int .i64 b.d.days, .int .i64 b.d.fr, .int .i64 b.st, .bool b.acc, .string b.hol, .map (some mb), .int .i64 b.last]
  map : w.ownsMap Tryz.prog 9 (plainElem (H := Unit) Tryz.prog 4) mb b.pas.length (passD b.pas)
  dok : b.d.ok
  hol : b.hol.size ≤ maxLen
  pas : ∀ s ∈ b.pas, s.size ≤ maxLen
  len : b.pas.length ≤ 1000
section
variable {w w' : World} {g mb : Nat} {b : Bl}
theorem IsBill.below (h : IsBill w g mb b) (hb : Below w.heap.size w w') : IsBill w' g mb b :=
  ⟨h.blk.below hb h.blk.lt, h.map.kept (row := none) ⟨hb.os, hb.tape, hb.output, hb.size, fun k hk _ => hb.block k hk⟩ (by simp), h.dok, h.hol, h.pas, h.len⟩
theorem IsBill.drew (h : IsBill w g mb b) : IsBill w.drew g mb b := ⟨h.blk, h.map, h.dok, h.hol, h.pas, h.len⟩
theorem IsBill.ne (h : IsBill w g mb b) : mb ≠ g := by
  rintro rfl
  obtain ⟨es, clock, hm, _⟩ := h.map
  have hb := h.blk
  unfold Blk at hb
  rw [hb] at hm
  cases hm
end
theorem size_alloc (w : World) (o : Obj) : (w.alloc o).heap.size = w.heap.size + 1 := Array.size_push _
theorem build_bl (d : Dr) (mb : Nat) (w : World) : (Instr.build 62 #[(0, .agg #[.string d.num, .string d.drw, .string d.dre, .string d.pay, .string d.cur, .int .i64 d.amt, .int .i64 d.kind, .int .i64 d.days, .int .i64 d.fr]), (3, .string d.pay), (4, .map (some mb)), (5, .int .i64 d.fr)]).run Tryz.prog w = .ok (.agg #[.string (newV d).d.num, .string (newV d).d.drw, .string (newV d).d.dre, .string (newV d).d.pay, .string (newV d).d.cur, .int .i64 (newV d).d.amt, .int .i64 (newV d).d.kind, .int .i64 (newV d).d.days, .int .i64 (newV d).d.fr, .int .i64 (newV d).st, .bool (newV d).acc, .string (newV d).hol, .map (some mb), .int .i64 (newV d).last]) w := run_build w _ _ _ (by kernel_rfl)
set_option maxRecDepth 100000 in
set_option maxHeartbeats 3200000 in
theorem new_no (d : Dr) (w : World) (hd : d.ok) (hm : mayD d = false) : Calls Tryz.prog 14 #[.agg #[.string d.num, .string d.drw, .string d.dre, .string d.pay, .string d.cur, .int .i64 d.amt, .int .i64 d.kind, .int .i64 d.days, .int .i64 d.fr]] w fun e w' => e = .returned (.tuple #[.pointer none, .int .i64 1]) ∧ Below w.heap.size w w' := by
  have HD := Lib.hid hd
  have HM := Lib.hid hm
  clear hm hd
  have hB0 : Below w.heap.size w (w.alloc (.cells #[.string d.num, .string d.drw, .string d.dre, .string d.pay, .string d.cur, .int .i64 d.amt, .int .i64 d.kind, .int .i64 d.days, .int .i64 d.fr] 28)) := (Below.refl _ _).alloc (Nat.le_refl _) _
  have hk0 : Blk (w.alloc (.cells #[.string d.num, .string d.drw, .string d.dre, .string d.pay, .string d.cur, .int .i64 d.amt, .int .i64 d.kind, .int .i64 d.days, .int .i64 d.fr] 28)) w.heap.size 28 #[.string d.num, .string d.drw, .string d.dre, .string d.pay, .string d.cur, .int .i64 d.amt, .int .i64 d.kind, .int .i64 d.days, .int .i64 d.fr] := Blk.new _ _ _
  have a0 := hk0.cell 0; have a1 := hk0.cell 1; have a2 := hk0.cell 2; have a3 := hk0.cell 3; have a4 := hk0.cell 4; have a5 := hk0.cell 5; have a6 := hk0.cell 6; have a7 := hk0.cell 7; have a8 := hk0.cell 8; simp only [List.getElem?_toArray, List.getElem?_cons_zero, List.getElem?_cons_succ] at a0 a1 a2 a3 a4 a5 a6 a7 a8
  go_enter Tryz.func14, Tryz.ntmps14
  go_wp2_with fail
  refine (mayD_any d _ HD.out).mono ?_
  rw [HM.out]
  rintro e w1 ⟨rfl, hb1⟩
  have hB1 := hB0.trans (hb1.mono hB0.size)
  go_wp2_with fail
  go_ret2
  exact ⟨rfl, hB1⟩
set_option maxRecDepth 100000 in
set_option maxHeartbeats 3200000 in
theorem new_yes (d : Dr) (w : World) (hd : d.ok) (hm : mayD d = true) : Calls Tryz.prog 14 #[.agg #[.string d.num, .string d.drw, .string d.dre, .string d.pay, .string d.cur, .int .i64 d.amt, .int .i64 d.kind, .int .i64 d.days, .int .i64 d.fr]] w fun e w' => ∃ g mb, e = .returned (.tuple #[(.pointer (some ⟨g, 0, none⟩)), .int .i64 0]) ∧ IsBill w' g mb (newV d) ∧ w.heap.size ≤ g ∧ w.heap.size ≤ mb ∧ Below w.heap.size w w' := by
  have HD := Lib.hid hd
  have HM := Lib.hid hm
  have hmm := @run_makeMap Tryz.prog
  have hbl := build_bl d
  clear hm hd
  have hB0 : Below w.heap.size w (w.alloc (.cells #[.string d.num, .string d.drw, .string d.dre, .string d.pay, .string d.cur, .int .i64 d.amt, .int .i64 d.kind, .int .i64 d.days, .int .i64 d.fr] 28)) := (Below.refl _ _).alloc (Nat.le_refl _) _
  have hk0 : Blk (w.alloc (.cells #[.string d.num, .string d.drw, .string d.dre, .string d.pay, .string d.cur, .int .i64 d.amt, .int .i64 d.kind, .int .i64 d.days, .int .i64 d.fr] 28)) w.heap.size 28 #[.string d.num, .string d.drw, .string d.dre, .string d.pay, .string d.cur, .int .i64 d.amt, .int .i64 d.kind, .int .i64 d.days, .int .i64 d.fr] := Blk.new _ _ _
  have a0 := hk0.cell 0; have a1 := hk0.cell 1; have a2 := hk0.cell 2; have a3 := hk0.cell 3; have a4 := hk0.cell 4; have a5 := hk0.cell 5; have a6 := hk0.cell 6; have a7 := hk0.cell 7; have a8 := hk0.cell 8; simp only [List.getElem?_toArray, List.getElem?_cons_zero, List.getElem?_cons_succ] at a0 a1 a2 a3 a4 a5 a6 a7 a8
  go_enter Tryz.func14, Tryz.ntmps14
  go_wp2_with fail
  refine (mayD_any d _ HD.out).mono ?_
  rw [HM.out]
  rintro e w1 ⟨rfl, hb1⟩
  have hB1 := hB0.trans (hb1.mono hB0.size)
  have hk1 := hk0.below hb1 hk0.lt
  clear a0 a1 a2 a3 a4 a5 a6 a7 a8
  have a0 := hk1.cell 0; have a1 := hk1.cell 1; have a2 := hk1.cell 2; have a3 := hk1.cell 3; have a4 := hk1.cell 4; have a5 := hk1.cell 5; have a6 := hk1.cell 6; have a7 := hk1.cell 7; have a8 := hk1.cell 8; simp only [List.getElem?_toArray, List.getElem?_cons_zero, List.getElem?_cons_succ] at a0 a1 a2 a3 a4 a5 a6 a7 a8
  have hlt := hk1.lt
  go_wp2_with fail
  go_ret2
  refine ⟨_, _, rfl, ⟨Blk.new_at _ _ _ _ (by simp), (World.ownsMap_made w1 _ _ _).alloc _, HD.out, HD.out.p, by simp [newV], by simp [newV]⟩, ?_, ?_, (hB1.alloc hB1.size _).alloc (by simp; have := hB1.size; omega) _⟩
  · have := hB1.size; simp; omega
  · have := hB1.size; omega
end Go.Proofs.YtlaclkiedjhphaaGreatDoor.kit
