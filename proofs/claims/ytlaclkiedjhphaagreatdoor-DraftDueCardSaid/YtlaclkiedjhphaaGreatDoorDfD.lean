/- A bill accepted, by the program. No condition. -/
import Derived.Test.YtlaclkiedjhphaaGreatDoorDfT
import Derived.Test.YtlaclkiedjhphaaGreatDoorBook
import Derived.RegionTactic
import Derived.ChangeAlike
namespace Go.Proofs.YtlaclkiedjhphaaGreatDoor.kit
open Go.RowKit Go.PlainAid Go.Maps
set_option linter.unusedVariables false

theorem acc1_any (p g mb : Nat) (b : Bl) (W : World) (hp : Blk W p 39 #[(.pointer (some ⟨g, 0, none⟩))]) (hb : IsBill W g mb b) :
    Calls Tryz.prog 36 #[(.pointer (some ⟨p, 0, none⟩))] W fun e w' => e = .returned (.bool (canV b 0)) ∧ Below W.heap.size W w' := by
  have k : W.cell? ⟨p, 0, none⟩ = some ((.pointer (some ⟨g, 0, none⟩))) := hp.cell 0
  have k9 : W.cell? ⟨g, 9, none⟩ = some (.int .i64 b.st) := hb.blk.cell 9
  have k6 : W.cell? ⟨g, 6, none⟩ = some (.int .i64 b.d.kind) := hb.blk.cell 6
  clear hp hb
  have hv : canV b 0 = (decide (b.st = 0) && !decide (b.d.kind = 0)) := by unfold canV; rw [if_pos rfl]
  rw [hv]
  clear hv
  by_cases h0 : b.st = 0
  · have d0 : (b.st == 0) = true := by rw [h0]; rfl
    have d1 : decide (b.st = 0) = true := decide_eq_true h0
    rw [d1]
    clear h0 d1
    go_enter Tryz.func36, Tryz.ntmps36
    go_wp2
    go_ret
    exact ⟨ret_bool (by rw [Bool.eq_iff_iff]; simp), Below.refl _ _⟩
  · have d0 : (b.st == 0) = false := by simpa using h0
    have d1 : decide (b.st = 0) = false := decide_eq_false h0
    rw [d1]
    clear h0 d1
    go_enter Tryz.func36, Tryz.ntmps36
    go_wp2
    go_ret
    exact ⟨rfl, Below.refl _ _⟩
theorem acc2_any (p p' g mb : Nat) (b : Bl) (s : ByteArray) (W : World) (hp : Blk W p 9 #[.string s]) (hp' : Blk W p' 39 #[(.pointer (some ⟨g, 0, none⟩))]) (hb : IsBill W g mb b) :
    Calls Tryz.prog 37 #[(.pointer (some ⟨p, 0, none⟩)), (.pointer (some ⟨p', 0, none⟩))] W fun e w' => e = .returned (.bool (whoV b 0 s)) ∧ Below W.heap.size W w' := by
  have k : W.cell? ⟨p, 0, none⟩ = some (.string s) := hp.cell 0
  have k' : W.cell? ⟨p', 0, none⟩ = some ((.pointer (some ⟨g, 0, none⟩))) := hp'.cell 0
  have k2 : W.cell? ⟨g, 2, none⟩ = some (.string b.d.dre) := hb.blk.cell 2
  clear hp hp' hb
  have hv : whoV b 0 s = decide (s = b.d.dre) := by unfold whoV; rw [if_neg (by omega), if_neg (by omega)]
  rw [hv, ← eq_str]
  clear hv
  go_enter Tryz.func37, Tryz.ntmps37
  go_wp2_with fail
  go_quiet (fail)
  go_wp2_with fail
  go_ret
  exact ⟨rfl, below_drewN (Below.refl _ _) _⟩
theorem code_eq (b : Bl) (call : Int) (s t : ByteArray) (on : Int) (h : call ≠ 1) : stepV b s on (canV b call) (whoV b call s) = codeV b call s t on := by
  unfold codeV
  rw [if_neg (fun h' => h h'.1)]
set_option maxRecDepth 100000 in
set_option maxHeartbeats 3200000 in
theorem accept_any (g mb : Nat) (b : Bl) (s t : ByteArray) (on : Int) (w : World) (hb : IsBill w g mb b) (hs : s.size ≤ maxLen) :
    Calls Tryz.prog 15 #[(.pointer (some ⟨g, 0, none⟩)), .string s, .int .i64 on] w fun e w' => e = .returned (.int .i64 (codeV b 0 s t on)) ∧ IsBill w' g mb (nextV b 0 s t on) ∧ Turn g mb w w' := by
  have h3 : Blk ((w.alloc (.cells #[(.pointer (some ⟨g, 0, none⟩))] 39)).alloc (.cells #[.string s] 9)) w.heap.size 39 #[(.pointer (some ⟨g, 0, none⟩))] := (Blk.new _ _ _).alloc _
  have h4 : Blk ((w.alloc (.cells #[(.pointer (some ⟨g, 0, none⟩))] 39)).alloc (.cells #[.string s] 9)) (w.heap.size + 1) 9 #[.string s] := Blk.new_at _ _ _ _ (by simp)
  have hB : Below w.heap.size w ((w.alloc (.cells #[(.pointer (some ⟨g, 0, none⟩))] 39)).alloc (.cells #[.string s] 9)) := ((Below.refl _ _).alloc (Nat.le_refl _) _).alloc (by simp) _
  have hI : IsBill ((w.alloc (.cells #[(.pointer (some ⟨g, 0, none⟩))] 39)).alloc (.cells #[.string s] 9)) g mb b := hb.below hB
  have H3 := Lib.hid h3
  have H4 := Lib.hid h4
  have HBW := Lib.hid hB
  have HI := Lib.hid hI
  have hgw : g < w.heap.size := hb.blk.lt
  have hgm : mb < w.heap.size := hb.map.lt
  have HT0 := Lib.hid (Turn.of_below (g := g) (mb := mb) hB (by omega))
  have HS := Lib.hid (step_any g mb b s on 36 37 #[] #[(.pointer (some ⟨w.heap.size, 0, none⟩))] #[] #[(.pointer (some ⟨w.heap.size + 1, 0, none⟩)), (.pointer (some ⟨w.heap.size, 0, none⟩))] (canV b 0) (whoV b 0 s) ((w.alloc (.cells #[(.pointer (some ⟨g, 0, none⟩))] 39)).alloc (.cells #[.string s] 9)) hI hs (enters_fn Tryz.func36 (by kernel_rfl) rfl) (enters_fn Tryz.func37 (by kernel_rfl) rfl)
    (fun W hbW => acc1_any _ g mb b W (H3.out.below hbW H3.out.lt) (HI.out.below hbW)) (fun W hbW => acc2_any _ _ g mb b s W (H4.out.below hbW H4.out.lt) (H3.out.below hbW H3.out.lt) (HI.out.below hbW)))
  rw [code_eq b 0 s t on (by omega)] at HS
  have HN : Hid (nextV b 0 s t on = if codeV b 0 s t on = 0 then { b with st := 1, acc := true, last := on } else b) := Lib.hid rfl
  obtain ⟨C, hC⟩ : ∃ C, codeV b 0 s t on = C := ⟨_, rfl⟩
  rw [hC] at HS HN ⊢
  clear hC h3 h4 hB hI hb
  by_cases hc : C = 0
  rotate_left
  · have d0 : (C != 0) = true := by simpa using hc
    have hn : Hid (nextV b 0 s t on = b) := Lib.hid (by rw [HN.out, if_neg hc])
    clear hc
    go_enter Tryz.func15, Tryz.ntmps15
    go_wp2_with fail
    refine HS.out.mono ?_
    rintro e w1 ⟨rfl, hb1⟩
    have HI1 := Lib.hid (HI.out.below hb1)
    have HT1 := Lib.hid (HT0.out.trans (Turn.of_below hb1 (by simp; omega)))
    clear hb1
    go_wp2_with fail
    go_ret
    exact ⟨rfl, by rw [hn.out]; exact HI1.out, HT1.out⟩
  · subst hc
    have hn : Hid (nextV b 0 s t on = { b with st := 1, acc := true, last := on }) := Lib.hid (by rw [HN.out, if_pos rfl])
    go_enter Tryz.func15, Tryz.ntmps15
    go_wp2_with fail
    refine HS.out.mono ?_
    rintro e w1 ⟨rfl, hb1⟩
    have HI1 := Lib.hid (HI.out.below hb1)
    have HT1 := Lib.hid (HT0.out.trans (Turn.of_below hb1 (by simp; omega)))
    have k3 : w1.cell? ⟨w.heap.size, 0, none⟩ = some ((.pointer (some ⟨g, 0, none⟩))) := (H3.out.below hb1 H3.out.lt).cell 0
    clear hb1
    have z9 := (HI1.out).blk.cell 9; have z10 := (HI1.out).blk.cell 10; have z11 := (HI1.out).blk.cell 11; have z13 := (HI1.out).blk.cell 13; have y9 := (HI1.out).blk.frozen 9; have y10 := (HI1.out).blk.frozen 10; have y11 := (HI1.out).blk.frozen 11; have y13 := (HI1.out).blk.frozen 13; simp only [List.getElem?_toArray, List.getElem?_cons_zero, List.getElem?_cons_succ] at z9 z10 z11 z13
    go_wp2_with fail
    go_region
    all_goals
      go_wp2
      go_ret
      exact ⟨rfl, by rw [hn.out]; exact (HI1.out.set3 (b' := { b with st := 1, acc := true, last := on }) rfl rfl rfl HI1.out.hol).drew, (((HT1.out.set_ 9 _).set_ 10 _).set_ 13 _).drew⟩
end Go.Proofs.YtlaclkiedjhphaaGreatDoor.kit
