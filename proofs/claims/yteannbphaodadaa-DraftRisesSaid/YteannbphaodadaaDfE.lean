/- A bill paid, and protested, by the program. No condition. -/
import Derived.Test.YteannbphaodadaaDfD
import Derived.Test.YteannbphaodadaaDfL
import Derived.Lib.SlicesS
import Derived.Deep.RegionHeld3
namespace Go.Proofs.Yteannbphaodadaa.kit
open Go.RowKit Go.PlainAid Go.Maps
set_option linter.unusedVariables false

theorem contains_any (A : Option Addr) (n c : Nat) (xs : List ByteArray) (x : ByteArray) (w : World) (h : SliceOf w 1 strC A n xs) (hm : n ≤ maxLen) :
    Calls Try.prog 43 #[.slice A n c, .string x] w fun e w' => e = .returned (.bool (memS xs x)) ∧ w' = w := by
  unfold maxLen at hm
  by_cases h0 : n = 0
  · subst h0
    have hx : xs = [] := List.eq_nil_of_length_eq_zero h.len
    subst hx
    exact Try.slices_Contains_string_empty A c x w
  · obtain ⟨b, off, rfl, hb, hc⟩ := h.at_ (by omega)
    have hl := h.len
    have h1 := Try.slices_Contains_string b off n c xs x w (by omega) hm (fun j hj => by
      have h2 := hc j xs[j] (List.getElem?_eq_getElem hj) 0 (.string xs[j]) rfl
      rw [List.getD_eq_getElem?_getD, List.getElem?_eq_getElem hj]
      simpa using h2)
    have h3 : Lib.containsS (xs.take n) x = memS xs x := by
      rw [List.take_of_length_le (by omega), Bool.eq_iff_iff, Lib.containsS_iff, memS_iff]
    rw [h3] at h1
    exact h1
theorem open_any (g mb : Nat) (b : Bl) (W : World) (hb : IsBill W g mb b) :
    Calls Try.prog 36 #[(.pointer (some ⟨g, 0, none⟩))] W fun e w' => e = .returned (.bool (canV b 1)) ∧ Below W.heap.size W w' := by
  have k9 : W.cell? ⟨g, 9, none⟩ = some (.int .i64 b.st) := hb.blk.cell 9
  clear hb
  have hv : canV b 1 = (decide (b.st = 0) || decide (b.st = 1)) := by unfold canV; rw [if_neg (by omega), if_pos (by omega)]; simp
  rw [hv]
  clear hv
  by_cases h0 : b.st = 0
  · have d0 : (b.st == 0) = true := by rw [h0]; rfl
    have d1 : decide (b.st = 0) = true := decide_eq_true h0
    rw [d1]
    clear h0 d1
    go_enter Try.func36, Try.ntmps36
    go_wp2
    go_ret
    exact ⟨rfl, Below.refl _ _⟩
  · have d0 : (b.st == 0) = false := by simpa using h0
    have d1 : decide (b.st = 0) = false := decide_eq_false h0
    rw [d1]
    clear h0 d1
    go_enter Try.func36, Try.ntmps36
    go_wp2
    go_ret
    exact ⟨ret_bool (by rw [Bool.eq_iff_iff]; simp), Below.refl _ _⟩
theorem can13 (b : Bl) : canV b 3 = canV b 1 := by unfold canV; simp
theorem who13 (b : Bl) (s : ByteArray) : whoV b 3 s = whoV b 1 s := by unfold whoV; simp
theorem hol1_any (p p' g mb : Nat) (b : Bl) (s : ByteArray) (W : World) (hp : Blk W p 9 #[.string s]) (hp' : Blk W p' 29 #[(.pointer (some ⟨g, 0, none⟩))]) (hb : IsBill W g mb b) :
    Calls Try.prog 37 #[(.pointer (some ⟨p, 0, none⟩)), (.pointer (some ⟨p', 0, none⟩))] W fun e w' => e = .returned (.bool (whoV b 1 s)) ∧ Below W.heap.size W w' := by
  have k : W.cell? ⟨p, 0, none⟩ = some (.string s) := hp.cell 0
  have k' : W.cell? ⟨p', 0, none⟩ = some ((.pointer (some ⟨g, 0, none⟩))) := hp'.cell 0
  have k2 : W.cell? ⟨g, 11, none⟩ = some (.string b.hol) := hb.blk.cell 11
  clear hp hp' hb
  have hv : whoV b 1 s = decide (s = b.hol) := by unfold whoV; rw [if_pos (by omega)]
  rw [hv, ← eq_str]
  clear hv
  go_enter Try.func37, Try.ntmps37
  go_wp2_with fail
  go_quiet (fail)
  go_wp2_with fail
  go_ret
  exact ⟨rfl, below_drewN (Below.refl _ _) _⟩
theorem hol3_any (p p' g mb : Nat) (b : Bl) (s : ByteArray) (W : World) (hp : Blk W p 9 #[.string s]) (hp' : Blk W p' 29 #[(.pointer (some ⟨g, 0, none⟩))]) (hb : IsBill W g mb b) :
    Calls Try.prog 62 #[(.pointer (some ⟨p, 0, none⟩)), (.pointer (some ⟨p', 0, none⟩))] W fun e w' => e = .returned (.bool (whoV b 1 s)) ∧ Below W.heap.size W w' := by
  have k : W.cell? ⟨p, 0, none⟩ = some (.string s) := hp.cell 0
  have k' : W.cell? ⟨p', 0, none⟩ = some ((.pointer (some ⟨g, 0, none⟩))) := hp'.cell 0
  have k2 : W.cell? ⟨g, 11, none⟩ = some (.string b.hol) := hb.blk.cell 11
  clear hp hp' hb
  have hv : whoV b 1 s = decide (s = b.hol) := by unfold whoV; rw [if_pos (by omega)]
  rw [hv, ← eq_str]
  clear hv
  go_enter Try.func62, Try.ntmps62
  go_wp2_with fail
  go_quiet (fail)
  go_wp2_with fail
  go_ret
  exact ⟨rfl, below_drewN (Below.refl _ _) _⟩
theorem pay1_any (p g mb : Nat) (b : Bl) (W : World) (hp : Blk W p 29 #[(.pointer (some ⟨g, 0, none⟩))]) (hb : IsBill W g mb b) :
    Calls Try.prog 41 #[(.pointer (some ⟨p, 0, none⟩))] W fun e w' => e = .returned (.bool (canV b 2)) ∧ Below W.heap.size W w' := by
  have k : W.cell? ⟨p, 0, none⟩ = some ((.pointer (some ⟨g, 0, none⟩))) := hp.cell 0
  have k9 : W.cell? ⟨g, 9, none⟩ = some (.int .i64 b.st) := hb.blk.cell 9
  have k6 : W.cell? ⟨g, 6, none⟩ = some (.int .i64 b.d.kind) := hb.blk.cell 6
  clear hp hb
  have hv : canV b 2 = (decide (b.st = 1 ∨ b.st = 3) || (decide (b.st = 0) && decide (b.d.kind = 0))) := by unfold canV; rw [if_neg (by omega), if_neg (by omega)]
  rw [hv]
  clear hv
  by_cases h1 : b.st = 1
  · have d0 : (b.st == 1) = true := by rw [h1]; rfl
    have e0 : Hid (true = (decide (b.st = 1 ∨ b.st = 3) || (decide (b.st = 0) && decide (b.d.kind = 0)))) := Lib.hid (by rw [h1]; rfl)
    rw [← e0.out]
    clear h1
    go_enter Try.func41, Try.ntmps41
    go_wp2
    go_ret
    exact ⟨rfl, Below.refl _ _⟩
  have d1 : (b.st == 1) = false := by simpa using h1
  by_cases h3 : b.st = 3
  · have d0 : (b.st == 3) = true := by rw [h3]; rfl
    have e0 : Hid (true = (decide (b.st = 1 ∨ b.st = 3) || (decide (b.st = 0) && decide (b.d.kind = 0)))) := Lib.hid (by rw [h3]; rfl)
    rw [← e0.out]
    clear h1 h3
    go_enter Try.func41, Try.ntmps41
    go_wp2
    go_ret
    exact ⟨rfl, Below.refl _ _⟩
  have d3 : (b.st == 3) = false := by simpa using h3
  by_cases h0 : b.st = 0
  · have d0 : (b.st == 0) = true := by rw [h0]; rfl
    have e0 : Hid ((b.d.kind == 0) = (decide (b.st = 1 ∨ b.st = 3) || (decide (b.st = 0) && decide (b.d.kind = 0)))) := Lib.hid (by rw [h0, Bool.eq_iff_iff]; simp)
    rw [← e0.out]
    clear h0 h1 h3
    go_enter Try.func41, Try.ntmps41
    go_wp2
    go_ret
    exact ⟨rfl, Below.refl _ _⟩
  · have d0 : (b.st == 0) = false := by simpa using h0
    have e0 : Hid (false = (decide (b.st = 1 ∨ b.st = 3) || (decide (b.st = 0) && decide (b.d.kind = 0)))) := Lib.hid (by simp [h0, h1, h3])
    rw [← e0.out]
    clear h0 h1 h3
    go_enter Try.func41, Try.ntmps41
    go_wp2
    go_ret
    exact ⟨rfl, Below.refl _ _⟩
theorem pay2_any (p p' g mb : Nat) (b : Bl) (s : ByteArray) (W : World) (hp' : Blk W p' 9 #[.string s]) (hp : Blk W p 29 #[(.pointer (some ⟨g, 0, none⟩))]) (hb : IsBill W g mb b) :
    Calls Try.prog 42 #[(.pointer (some ⟨p, 0, none⟩)), (.pointer (some ⟨p', 0, none⟩))] W fun e w' => e = .returned (.bool (whoV b 2 s)) ∧ Below W.heap.size W w' := by
  have k' : W.cell? ⟨p', 0, none⟩ = some (.string s) := hp'.cell 0
  have k : W.cell? ⟨p, 0, none⟩ = some ((.pointer (some ⟨g, 0, none⟩))) := hp.cell 0
  have k2 : W.cell? ⟨g, 2, none⟩ = some (.string b.d.dre) := hb.blk.cell 2
  have k9 : W.cell? ⟨g, 9, none⟩ = some (.int .i64 b.st) := hb.blk.cell 9
  have HI := Lib.hid hb
  have HP := Lib.hid hp
  have HP' := Lib.hid hp'
  clear hp hp' hb
  by_cases h3 : b.st = 3
  · have d3 : (b.st == 3) = true := by rw [h3]; rfl
    have hv : Hid (whoV b 2 s = memS (liaV b) s) := Lib.hid (by unfold whoV; rw [if_neg (by omega), if_pos ⟨rfl, h3⟩])
    rw [hv.out]
    clear h3
    go_enter Try.func42, Try.ntmps42
    go_wp2_with fail
    go_region_held3 (fun x => x.cell? ⟨p, 0, none⟩ = some ((.pointer (some ⟨g, 0, none⟩))) ∧ x.cell? ⟨p', 0, none⟩ = some (.string s)) (go_keep)
      (first | (go_at_call 19; (with_reducible refine Calls.mono (liable_any g mb b _ HI.out.drew) ?_); rintro e w1 ⟨v, rfl, A, c, rfl, hs1, hb1⟩; have q0 := (HP.out.drew.below hb1 HP.out.drew.lt).cell 0; have q1 := (HP'.out.drew.below hb1 HP'.out.drew.lt).cell 0; simp only [List.getElem?_toArray, List.getElem?_cons_zero] at q0 q1; have HS1 := Lib.hid hs1; have HB1 := Lib.hid hb1; clear hs1 hb1) | (go_at_call 43; (with_reducible refine Calls.mono (contains_any _ _ _ _ s _ HS1.out (by have := lia_len b; have := HI.out.len; unfold maxLen; omega)) ?_); rintro e w2 ⟨rfl, rfl⟩))
    all_goals
      go_wp2_with fail
      go_ret
      exact ⟨rfl, ⟨HB1.out.os, HB1.out.tape, HB1.out.output, HB1.out.size, HB1.out.block⟩⟩
  · have d3 : (b.st == 3) = false := by simpa using h3
    have hv : Hid (whoV b 2 s = decide (s = b.d.dre)) := Lib.hid (by unfold whoV; rw [if_neg (by omega), if_neg (fun h => h3 h.2)])
    rw [hv.out, ← eq_str]
    clear h3
    go_enter Try.func42, Try.ntmps42
    go_wp2_with fail
    go_quiet (fail)
    go_wp2_with fail
    go_ret
    exact ⟨rfl, below_drewN (Below.refl _ _) _⟩
set_option maxRecDepth 100000 in
set_option maxHeartbeats 3200000 in
theorem pay_any (g mb : Nat) (b : Bl) (s t : ByteArray) (on : Int) (w : World) (hb : IsBill w g mb b) (hs : s.size ≤ maxLen) :
    Calls Try.prog 20 #[(.pointer (some ⟨g, 0, none⟩)), .string s, .int .i64 on] w fun e w' => e = .returned (.int .i64 (codeV b 2 s t on)) ∧ IsBill w' g mb (nextV b 2 s t on) ∧ Turn g mb w w' := by
  have h3 : Blk ((w.alloc (.cells #[(.pointer (some ⟨g, 0, none⟩))] 29)).alloc (.cells #[.string s] 9)) w.heap.size 29 #[(.pointer (some ⟨g, 0, none⟩))] := (Blk.new _ _ _).alloc _
  have h4 : Blk ((w.alloc (.cells #[(.pointer (some ⟨g, 0, none⟩))] 29)).alloc (.cells #[.string s] 9)) (w.heap.size + 1) 9 #[.string s] := Blk.new_at _ _ _ _ (by simp)
  have hB : Below w.heap.size w ((w.alloc (.cells #[(.pointer (some ⟨g, 0, none⟩))] 29)).alloc (.cells #[.string s] 9)) := ((Below.refl _ _).alloc (Nat.le_refl _) _).alloc (by simp) _
  have hI : IsBill ((w.alloc (.cells #[(.pointer (some ⟨g, 0, none⟩))] 29)).alloc (.cells #[.string s] 9)) g mb b := hb.below hB
  have H3 := Lib.hid h3
  have H4 := Lib.hid h4
  have HBW := Lib.hid hB
  have HI := Lib.hid hI
  have hgw : g < w.heap.size := hb.blk.lt
  have hgm : mb < w.heap.size := hb.map.lt
  have HT0 := Lib.hid (Turn.of_below (g := g) (mb := mb) hB (by omega))
  have HS := Lib.hid (step_any g mb b s on 41 42 #[] #[(.pointer (some ⟨w.heap.size, 0, none⟩))] #[] #[(.pointer (some ⟨w.heap.size, 0, none⟩)), (.pointer (some ⟨w.heap.size + 1, 0, none⟩))] (canV b 2) (whoV b 2 s) ((w.alloc (.cells #[(.pointer (some ⟨g, 0, none⟩))] 29)).alloc (.cells #[.string s] 9)) hI hs (enters_fn Try.func41 (by kernel_rfl) rfl) (enters_fn Try.func42 (by kernel_rfl) rfl)
    (fun W hbW => pay1_any _ g mb b W (H3.out.below hbW H3.out.lt) (HI.out.below hbW)) (fun W hbW => pay2_any _ _ g mb b s W (H4.out.below hbW H4.out.lt) (H3.out.below hbW H3.out.lt) (HI.out.below hbW)))
  rw [code_eq b 2 s t on (by omega)] at HS
  have HN : Hid (nextV b 2 s t on = if codeV b 2 s t on = 0 then { b with st := 2, last := on } else b) := Lib.hid rfl
  obtain ⟨C, hC⟩ : ∃ C, codeV b 2 s t on = C := ⟨_, rfl⟩
  rw [hC] at HS HN ⊢
  clear hC h3 h4 hB hI hb
  by_cases hc : C = 0
  rotate_left
  · have d0 : (C != 0) = true := by simpa using hc
    have hn : Hid (nextV b 2 s t on = b) := Lib.hid (by rw [HN.out, if_neg hc])
    clear hc
    go_enter Try.func20, Try.ntmps20
    go_wp2_with fail
    refine HS.out.mono ?_
    rintro e w1 ⟨rfl, hb1⟩
    have HI1 := Lib.hid (HI.out.below hb1)
    have HT1 := Lib.hid (HT0.out.trans (Turn.of_below hb1 (by simp; omega)))
    clear hb1
    go_wp2_with fail
    go_ret
    exact ⟨rfl, by rw [hn.out]; exact HI1.out, HT1.out⟩
  · subst hc
    have hn : Hid (nextV b 2 s t on = { b with st := 2, last := on }) := Lib.hid (by rw [HN.out, if_pos rfl])
    go_enter Try.func20, Try.ntmps20
    go_wp2_with fail
    refine HS.out.mono ?_
    rintro e w1 ⟨rfl, hb1⟩
    have HI1 := Lib.hid (HI.out.below hb1)
    have HT1 := Lib.hid (HT0.out.trans (Turn.of_below hb1 (by simp; omega)))
    have k3 : w1.cell? ⟨w.heap.size, 0, none⟩ = some ((.pointer (some ⟨g, 0, none⟩))) := (H3.out.below hb1 H3.out.lt).cell 0
    clear hb1
    have z9 := (HI1.out).blk.cell 9; have z10 := (HI1.out).blk.cell 10; have z11 := (HI1.out).blk.cell 11; have z13 := (HI1.out).blk.cell 13; have y9 := (HI1.out).blk.frozen 9; have y10 := (HI1.out).blk.frozen 10; have y11 := (HI1.out).blk.frozen 11; have y13 := (HI1.out).blk.frozen 13; simp only [List.getElem?_toArray, List.getElem?_cons_zero, List.getElem?_cons_succ] at z9 z10 z11 z13
    go_wp2_with fail
    go_region
    all_goals
      go_wp2
      go_ret
      exact ⟨rfl, by rw [hn.out]; exact (HI1.out.set2 (b' := { b with st := 2, last := on }) rfl rfl rfl HI1.out.hol).drew, ((HT1.out.set_ 9 _).set_ 13 _).drew⟩
set_option maxRecDepth 100000 in
set_option maxHeartbeats 3200000 in
theorem protest_any (g mb : Nat) (b : Bl) (s t : ByteArray) (on : Int) (w : World) (hb : IsBill w g mb b) (hs : s.size ≤ maxLen) :
    Calls Try.prog 45 #[(.pointer (some ⟨g, 0, none⟩)), .string s, .int .i64 on] w fun e w' => e = .returned (.int .i64 (codeV b 3 s t on)) ∧ IsBill w' g mb (nextV b 3 s t on) ∧ Turn g mb w w' := by
  have h3 : Blk ((w.alloc (.cells #[(.pointer (some ⟨g, 0, none⟩))] 29)).alloc (.cells #[.string s] 9)) w.heap.size 29 #[(.pointer (some ⟨g, 0, none⟩))] := (Blk.new _ _ _).alloc _
  have h4 : Blk ((w.alloc (.cells #[(.pointer (some ⟨g, 0, none⟩))] 29)).alloc (.cells #[.string s] 9)) (w.heap.size + 1) 9 #[.string s] := Blk.new_at _ _ _ _ (by simp)
  have hB : Below w.heap.size w ((w.alloc (.cells #[(.pointer (some ⟨g, 0, none⟩))] 29)).alloc (.cells #[.string s] 9)) := ((Below.refl _ _).alloc (Nat.le_refl _) _).alloc (by simp) _
  have hI : IsBill ((w.alloc (.cells #[(.pointer (some ⟨g, 0, none⟩))] 29)).alloc (.cells #[.string s] 9)) g mb b := hb.below hB
  have H3 := Lib.hid h3
  have H4 := Lib.hid h4
  have HBW := Lib.hid hB
  have HI := Lib.hid hI
  have hgw : g < w.heap.size := hb.blk.lt
  have hgm : mb < w.heap.size := hb.map.lt
  have HT0 := Lib.hid (Turn.of_below (g := g) (mb := mb) hB (by omega))
  have HS := Lib.hid (step_any g mb b s on 36 62 #[(.pointer (some ⟨g, 0, none⟩))] #[] #[] #[(.pointer (some ⟨w.heap.size + 1, 0, none⟩)), (.pointer (some ⟨w.heap.size, 0, none⟩))] (canV b 3) (whoV b 3 s) ((w.alloc (.cells #[(.pointer (some ⟨g, 0, none⟩))] 29)).alloc (.cells #[.string s] 9)) hI hs (enters_fn Try.func36 (by kernel_rfl) rfl) (enters_fn Try.func62 (by kernel_rfl) rfl)
    (fun W hbW => (by rw [can13]; exact open_any g mb b W (HI.out.below hbW))) (fun W hbW => (by rw [who13]; exact hol3_any _ _ g mb b s W (H4.out.below hbW H4.out.lt) (H3.out.below hbW H3.out.lt) (HI.out.below hbW))))
  rw [code_eq b 3 s t on (by omega)] at HS
  have HN : Hid (nextV b 3 s t on = if codeV b 3 s t on = 0 then { b with st := 3, last := on } else b) := Lib.hid rfl
  obtain ⟨C, hC⟩ : ∃ C, codeV b 3 s t on = C := ⟨_, rfl⟩
  rw [hC] at HS HN ⊢
  clear hC h3 h4 hB hI hb
  by_cases hc : C = 0
  rotate_left
  · have d0 : (C != 0) = true := by simpa using hc
    have hn : Hid (nextV b 3 s t on = b) := Lib.hid (by rw [HN.out, if_neg hc])
    clear hc
    go_enter Try.func45, Try.ntmps45
    go_wp2_with fail
    refine HS.out.mono ?_
    rintro e w1 ⟨rfl, hb1⟩
    have HI1 := Lib.hid (HI.out.below hb1)
    have HT1 := Lib.hid (HT0.out.trans (Turn.of_below hb1 (by simp; omega)))
    clear hb1
    go_wp2_with fail
    go_ret
    exact ⟨rfl, by rw [hn.out]; exact HI1.out, HT1.out⟩
  · subst hc
    have hn : Hid (nextV b 3 s t on = { b with st := 3, last := on }) := Lib.hid (by rw [HN.out, if_pos rfl])
    go_enter Try.func45, Try.ntmps45
    go_wp2_with fail
    refine HS.out.mono ?_
    rintro e w1 ⟨rfl, hb1⟩
    have HI1 := Lib.hid (HI.out.below hb1)
    have HT1 := Lib.hid (HT0.out.trans (Turn.of_below hb1 (by simp; omega)))
    have k3 : w1.cell? ⟨w.heap.size, 0, none⟩ = some ((.pointer (some ⟨g, 0, none⟩))) := (H3.out.below hb1 H3.out.lt).cell 0
    clear hb1
    have z9 := (HI1.out).blk.cell 9; have z10 := (HI1.out).blk.cell 10; have z11 := (HI1.out).blk.cell 11; have z13 := (HI1.out).blk.cell 13; have y9 := (HI1.out).blk.frozen 9; have y10 := (HI1.out).blk.frozen 10; have y11 := (HI1.out).blk.frozen 11; have y13 := (HI1.out).blk.frozen 13; simp only [List.getElem?_toArray, List.getElem?_cons_zero, List.getElem?_cons_succ] at z9 z10 z11 z13
    go_wp2_with fail
    go_region
    all_goals
      go_wp2
      go_ret
      exact ⟨rfl, by rw [hn.out]; exact (HI1.out.set2 (b' := { b with st := 3, last := on }) rfl rfl rfl HI1.out.hol).drew, ((HT1.out.set_ 9 _).set_ 13 _).drew⟩
end Go.Proofs.Yteannbphaodadaa.kit
