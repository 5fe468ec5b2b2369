/- The row of checks that step asks, each a closure. No condition. -/
import Derived.Test.YtlaclkiedjhphaaGreatDoorDfB
namespace Go.Proofs.YtlaclkiedjhphaaGreatDoor.kit
open Go.RowKit Go.PlainAid Go.Maps
set_option linter.unusedVariables false

def firstV (v1 v2 v3 v4 : Bool) : Int := if v1 = true then 1 else if v2 = true then 6 else if v3 = true then 9 else if v4 = true then 8 else 0
set_option maxRecDepth 100000 in
set_option maxHeartbeats 3200000 in
theorem first_any (w : World) (q p5 p6 p7 p8 p9 : Nat) (v1 v2 v3 v4 : Bool) (hq : Blk w q 88 #[.int .i64 1, .func (.func 58) #[] #[(.pointer (some ⟨p6, 0, none⟩)), (.pointer (some ⟨p7, 0, none⟩))], .int .i64 6, .func (.func 59) #[] #[(.pointer (some ⟨p7, 0, none⟩)), (.pointer (some ⟨p5, 0, none⟩))], .int .i64 9, .func (.func 60) #[] #[(.pointer (some ⟨p8, 0, none⟩))], .int .i64 8, .func (.func 61) #[] #[(.pointer (some ⟨p9, 0, none⟩))]])
    (K1 : ∀ W, Below w.heap.size w W → Calls Tryz.prog 58 #[(.pointer (some ⟨p6, 0, none⟩)), (.pointer (some ⟨p7, 0, none⟩))] W fun e w' => e = .returned (.bool v1) ∧ Below W.heap.size W w')
    (K2 : ∀ W, Below w.heap.size w W → Calls Tryz.prog 59 #[(.pointer (some ⟨p7, 0, none⟩)), (.pointer (some ⟨p5, 0, none⟩))] W fun e w' => e = .returned (.bool v2) ∧ Below W.heap.size W w')
    (K3 : ∀ W, Below w.heap.size w W → Calls Tryz.prog 60 #[(.pointer (some ⟨p8, 0, none⟩))] W fun e w' => e = .returned (.bool v3) ∧ Below W.heap.size W w')
    (K4 : ∀ W, Below w.heap.size w W → Calls Tryz.prog 61 #[(.pointer (some ⟨p9, 0, none⟩))] W fun e w' => e = .returned (.bool v4) ∧ Below W.heap.size W w') :
    Calls Tryz.prog 57 #[.slice (some ⟨q, 0, none⟩) 4 4] w fun e w' => e = .returned (.int .i64 (firstV v1 v2 v3 v4)) ∧ Below w.heap.size w w' := by
  have H1 := Lib.hid K1; have H2 := Lib.hid K2; have H3 := Lib.hid K3; have H4 := Lib.hid K4
  have HQ0 := Lib.hid hq
  clear K1 K2 K3 K4 hq
  go_enter Tryz.func57, Tryz.ntmps57
  go_wp2_with fail
  go_loopw [7] (fun i wr => ∃ k : Nat, k ≤ 4 ∧ i = .int .i64 k ∧ Below w.heap.size w wr ∧ Hid ((1 ≤ k → v1 = false) ∧ (2 ≤ k → v2 = false) ∧ (3 ≤ k → v3 = false) ∧ (4 ≤ k → v4 = false))) (fun i _ => 4 - (intOf i).toNat)
  case atStart => exact ⟨0, by omega, rfl, Below.refl _ _, Lib.hid ⟨by omega, by omega, by omega, by omega⟩⟩
  case round =>
    obtain ⟨k, hk, rfl, hBw, hp⟩ := hrel
    have HQ := Lib.hid (HQ0.out.below hBw HQ0.out.lt)
    have hk' : k = 0 ∨ k = 1 ∨ k = 2 ∨ k = 3 ∨ k = 4 := by omega
    clear hk
    rcases hk' with rfl | rfl | rfl | rfl | rfl
    · have kE : wr.cell? ⟨q, 2 * 0, none⟩ = some (.int .i64 1) := HQ.out.cell (2 * 0)
      have kF : wr.cell? ⟨q, 2 * 0 + 1, none⟩ = some (.func (.func 58) #[] #[(.pointer (some ⟨p6, 0, none⟩)), (.pointer (some ⟨p7, 0, none⟩))]) := HQ.out.cell (2 * 0 + 1)
      simp only [Nat.reduceMul, Nat.reduceAdd] at kE kF
      have hb0 : Below w.heap.size w (wr.alloc (.cells #[.int .i64 1, .func (.func 58) #[] #[(.pointer (some ⟨p6, 0, none⟩)), (.pointer (some ⟨p7, 0, none⟩))]] 88)) := hBw.alloc hBw.size _
      have hn : Blk (wr.alloc (.cells #[.int .i64 1, .func (.func 58) #[] #[(.pointer (some ⟨p6, 0, none⟩)), (.pointer (some ⟨p7, 0, none⟩))]] 88)) wr.heap.size 88 #[.int .i64 1, .func (.func 58) #[] #[(.pointer (some ⟨p6, 0, none⟩)), (.pointer (some ⟨p7, 0, none⟩))]] := Blk.new _ _ _
      have HB0 := Lib.hid hb0
      clear hb0
      by_cases hv : v1 = true
      rotate_left
      · have HV : Hid (v1 = false) := Lib.hid (by simpa using hv)
        clear hv hn
        go_wp2_with fail
        refine (H1.out _ HB0.out).mono ?_
        rw [HV.out]
        rintro e w1 ⟨rfl, hb1⟩
        have HB1 := Lib.hid (HB0.out.trans (hb1.mono HB0.out.size))
        clear hb1
        go_wp2_with fail
        go_roundw
        case rel => exact ⟨0 + 1, by omega, by go_num, HB1.out, Lib.hid (by have := hp.out; exact ⟨fun _ => HV.out, by omega, by omega, by omega⟩)⟩
        case measure => simp [intOf]
      · have ev : Hid (firstV v1 v2 v3 v4 = 1) := Lib.hid (by have := hp.out; unfold firstV; first | (simp [hv]; done) | simp [hv, this])
        have HV := Lib.hid hv
        clear hv
        go_wp2_with fail
        refine (H1.out _ HB0.out).mono ?_
        rw [HV.out]
        rintro e w1 ⟨rfl, hb1⟩
        have kn : w1.cell? ⟨wr.heap.size, 0, none⟩ = some (.int .i64 1) := (hn.below hb1 hn.lt).cell 0
        have HB1 := Lib.hid (HB0.out.trans (hb1.mono HB0.out.size))
        clear hb1 hn
        go_wp2_with fail
        go_ret
        exact ⟨ret_int ev.out.symm, HB1.out⟩
    · have kE : wr.cell? ⟨q, 2 * 1, none⟩ = some (.int .i64 6) := HQ.out.cell (2 * 1)
      have kF : wr.cell? ⟨q, 2 * 1 + 1, none⟩ = some (.func (.func 59) #[] #[(.pointer (some ⟨p7, 0, none⟩)), (.pointer (some ⟨p5, 0, none⟩))]) := HQ.out.cell (2 * 1 + 1)
      simp only [Nat.reduceMul, Nat.reduceAdd] at kE kF
      have hb0 : Below w.heap.size w (wr.alloc (.cells #[.int .i64 6, .func (.func 59) #[] #[(.pointer (some ⟨p7, 0, none⟩)), (.pointer (some ⟨p5, 0, none⟩))]] 88)) := hBw.alloc hBw.size _
      have hn : Blk (wr.alloc (.cells #[.int .i64 6, .func (.func 59) #[] #[(.pointer (some ⟨p7, 0, none⟩)), (.pointer (some ⟨p5, 0, none⟩))]] 88)) wr.heap.size 88 #[.int .i64 6, .func (.func 59) #[] #[(.pointer (some ⟨p7, 0, none⟩)), (.pointer (some ⟨p5, 0, none⟩))]] := Blk.new _ _ _
      have HB0 := Lib.hid hb0
      clear hb0
      by_cases hv : v2 = true
      rotate_left
      · have HV : Hid (v2 = false) := Lib.hid (by simpa using hv)
        clear hv hn
        go_wp2_with fail
        refine (H2.out _ HB0.out).mono ?_
        rw [HV.out]
        rintro e w1 ⟨rfl, hb1⟩
        have HB1 := Lib.hid (HB0.out.trans (hb1.mono HB0.out.size))
        clear hb1
        go_wp2_with fail
        go_roundw
        case rel => exact ⟨1 + 1, by omega, by go_num, HB1.out, Lib.hid (by have := hp.out; exact ⟨fun _ => this.1 (by omega), fun _ => HV.out, by omega, by omega⟩)⟩
        case measure => simp [intOf]
      · have ev : Hid (firstV v1 v2 v3 v4 = 6) := Lib.hid (by have := hp.out; unfold firstV; first | (simp [hv]; done) | simp [hv, this])
        have HV := Lib.hid hv
        clear hv
        go_wp2_with fail
        refine (H2.out _ HB0.out).mono ?_
        rw [HV.out]
        rintro e w1 ⟨rfl, hb1⟩
        have kn : w1.cell? ⟨wr.heap.size, 0, none⟩ = some (.int .i64 6) := (hn.below hb1 hn.lt).cell 0
        have HB1 := Lib.hid (HB0.out.trans (hb1.mono HB0.out.size))
        clear hb1 hn
        go_wp2_with fail
        go_ret
        exact ⟨ret_int ev.out.symm, HB1.out⟩
    · have kE : wr.cell? ⟨q, 2 * 2, none⟩ = some (.int .i64 9) := HQ.out.cell (2 * 2)
      have kF : wr.cell? ⟨q, 2 * 2 + 1, none⟩ = some (.func (.func 60) #[] #[(.pointer (some ⟨p8, 0, none⟩))]) := HQ.out.cell (2 * 2 + 1)
      simp only [Nat.reduceMul, Nat.reduceAdd] at kE kF
      have hb0 : Below w.heap.size w (wr.alloc (.cells #[.int .i64 9, .func (.func 60) #[] #[(.pointer (some ⟨p8, 0, none⟩))]] 88)) := hBw.alloc hBw.size _
      have hn : Blk (wr.alloc (.cells #[.int .i64 9, .func (.func 60) #[] #[(.pointer (some ⟨p8, 0, none⟩))]] 88)) wr.heap.size 88 #[.int .i64 9, .func (.func 60) #[] #[(.pointer (some ⟨p8, 0, none⟩))]] := Blk.new _ _ _
      have HB0 := Lib.hid hb0
      clear hb0
      by_cases hv : v3 = true
      rotate_left
      · have HV : Hid (v3 = false) := Lib.hid (by simpa using hv)
        clear hv hn
        go_wp2_with fail
        refine (H3.out _ HB0.out).mono ?_
        rw [HV.out]
        rintro e w1 ⟨rfl, hb1⟩
        have HB1 := Lib.hid (HB0.out.trans (hb1.mono HB0.out.size))
        clear hb1
        go_wp2_with fail
        go_roundw
        case rel => exact ⟨2 + 1, by omega, by go_num, HB1.out, Lib.hid (by have := hp.out; exact ⟨fun _ => this.1 (by omega), fun _ => this.2.1 (by omega), fun _ => HV.out, by omega⟩)⟩
        case measure => simp [intOf]
      · have ev : Hid (firstV v1 v2 v3 v4 = 9) := Lib.hid (by have := hp.out; unfold firstV; first | (simp [hv]; done) | simp [hv, this])
        have HV := Lib.hid hv
        clear hv
        go_wp2_with fail
        refine (H3.out _ HB0.out).mono ?_
        rw [HV.out]
        rintro e w1 ⟨rfl, hb1⟩
        have kn : w1.cell? ⟨wr.heap.size, 0, none⟩ = some (.int .i64 9) := (hn.below hb1 hn.lt).cell 0
        have HB1 := Lib.hid (HB0.out.trans (hb1.mono HB0.out.size))
        clear hb1 hn
        go_wp2_with fail
        go_ret
        exact ⟨ret_int ev.out.symm, HB1.out⟩
    · have kE : wr.cell? ⟨q, 2 * 3, none⟩ = some (.int .i64 8) := HQ.out.cell (2 * 3)
      have kF : wr.cell? ⟨q, 2 * 3 + 1, none⟩ = some (.func (.func 61) #[] #[(.pointer (some ⟨p9, 0, none⟩))]) := HQ.out.cell (2 * 3 + 1)
      simp only [Nat.reduceMul, Nat.reduceAdd] at kE kF
      have hb0 : Below w.heap.size w (wr.alloc (.cells #[.int .i64 8, .func (.func 61) #[] #[(.pointer (some ⟨p9, 0, none⟩))]] 88)) := hBw.alloc hBw.size _
      have hn : Blk (wr.alloc (.cells #[.int .i64 8, .func (.func 61) #[] #[(.pointer (some ⟨p9, 0, none⟩))]] 88)) wr.heap.size 88 #[.int .i64 8, .func (.func 61) #[] #[(.pointer (some ⟨p9, 0, none⟩))]] := Blk.new _ _ _
      have HB0 := Lib.hid hb0
      clear hb0
      by_cases hv : v4 = true
      rotate_left
      · have HV : Hid (v4 = false) := Lib.hid (by simpa using hv)
        clear hv hn
        go_wp2_with fail
        refine (H4.out _ HB0.out).mono ?_
        rw [HV.out]
        rintro e w1 ⟨rfl, hb1⟩
        have HB1 := Lib.hid (HB0.out.trans (hb1.mono HB0.out.size))
        clear hb1
        go_wp2_with fail
        go_roundw
        case rel => exact ⟨3 + 1, by omega, by go_num, HB1.out, Lib.hid (by have := hp.out; exact ⟨fun _ => this.1 (by omega), fun _ => this.2.1 (by omega), fun _ => this.2.2.1 (by omega), fun _ => HV.out⟩)⟩
        case measure => simp [intOf]
      · have ev : Hid (firstV v1 v2 v3 v4 = 8) := Lib.hid (by have := hp.out; unfold firstV; first | (simp [hv]; done) | simp [hv, this])
        have HV := Lib.hid hv
        clear hv
        go_wp2_with fail
        refine (H4.out _ HB0.out).mono ?_
        rw [HV.out]
        rintro e w1 ⟨rfl, hb1⟩
        have kn : w1.cell? ⟨wr.heap.size, 0, none⟩ = some (.int .i64 8) := (hn.below hb1 hn.lt).cell 0
        have HB1 := Lib.hid (HB0.out.trans (hb1.mono HB0.out.size))
        clear hb1 hn
        go_wp2_with fail
        go_ret
        exact ⟨ret_int ev.out.symm, HB1.out⟩
    · have ev : Hid (firstV v1 v2 v3 v4 = 0) := Lib.hid (by have := hp.out; unfold firstV; simp [this])
      go_wp2_with fail
      go_ret
      exact ⟨ret_int ev.out.symm, hBw⟩
/-! the four closures -/
theorem step1_any (p6 p7 : Nat) (s : ByteArray) (on : Int) (W : World) (hs : s.size ≤ maxLen) (h6 : Blk W p6 9 #[.string s]) (h7 : Blk W p7 3 #[.int .i64 on]) :
    Calls Tryz.prog 58 #[(.pointer (some ⟨p6, 0, none⟩)), (.pointer (some ⟨p7, 0, none⟩))] W fun e w' => e = .returned (.bool (!(nmB s && isDay on))) ∧ Below W.heap.size W w' := by
  have k6 : W.cell? ⟨p6, 0, none⟩ = some (.string s) := h6.cell 0
  have k7 : W.cell? ⟨p7, 0, none⟩ = some (.int .i64 on) := h7.cell 0
  clear h6 h7
  cases e0 : nmB s
  · go_enter Tryz.func58, Tryz.ntmps58
    go_wp2_with (first | (go_at_call 23; (with_reducible refine (nm_any _ _ (by assumption)).mono ?_); rintro e w' ⟨rfl, rfl⟩))
    go_ret
    exact ⟨rfl, Below.refl _ _⟩
  · go_enter Tryz.func58, Tryz.ntmps58
    go_wp2_with (first | (go_at_call 23; (with_reducible refine (nm_any _ _ (by assumption)).mono ?_); rintro e w' ⟨rfl, rfl⟩) | (go_at_call 25; (with_reducible refine (isDay_any _ _).mono ?_); rintro e w' ⟨rfl, rfl⟩))
    go_ret
    exact ⟨by simp, Below.refl _ _⟩
theorem step2_any (p7 p5 g mb : Nat) (b : Bl) (on : Int) (W : World) (h7 : Blk W p7 3 #[.int .i64 on]) (h5 : Blk W p5 39 #[(.pointer (some ⟨g, 0, none⟩))]) (hb : IsBill W g mb b) :
    Calls Tryz.prog 59 #[(.pointer (some ⟨p7, 0, none⟩)), (.pointer (some ⟨p5, 0, none⟩))] W fun e w' => e = .returned (.bool (decide (on < b.last))) ∧ Below W.heap.size W w' := by
  have k5 := h5.cell 0; have k7 := h7.cell 0
  have k13 := hb.blk.cell 13
  simp only [List.getElem?_toArray, List.getElem?_cons_zero, List.getElem?_cons_succ] at k5 k7 k13
  clear h5 h7 hb
  go_enter Tryz.func59, Tryz.ntmps59
  go_wp2_with fail
  go_quiet (fail)
  go_wp2_with fail
  go_ret
  exact ⟨rfl, below_drewN (Below.refl _ _) _⟩
/-- What step$3 and step$4 ask: whether a question's answer is no. -/
theorem step3_any (p : Nat) (f0 : FuncId) (c1 c2 : Array Value) (v : Bool) (W : World) (hp : Blk W p 29 #[.func (.func f0) c1 c2]) (hf : ∀ args w, (callFunc f0 args).run Tryz.prog w = .ok (.enter f0 args) w)
    (hc : Calls Tryz.prog f0 (c1 ++ c2) W fun e w' => e = .returned (.bool v) ∧ Below W.heap.size W w') :
    Calls Tryz.prog 60 #[(.pointer (some ⟨p, 0, none⟩))] W fun e w' => e = .returned (.bool (!v)) ∧ Below W.heap.size W w' := by
  have k : W.cell? ⟨p, 0, none⟩ = some (.func (.func f0) c1 c2) := hp.cell 0
  have HC := Lib.hid hc
  clear hp hc
  go_enter Tryz.func60, Tryz.ntmps60
  go_wp2_with fail
  refine HC.out.mono ?_
  rintro e w1 ⟨rfl, hb1⟩
  have HB1 := Lib.hid hb1
  clear hb1
  go_wp2_with fail
  go_ret
  exact ⟨rfl, HB1.out⟩
theorem step4_any (p : Nat) (f0 : FuncId) (c1 c2 : Array Value) (v : Bool) (W : World) (hp : Blk W p 29 #[.func (.func f0) c1 c2]) (hf : ∀ args w, (callFunc f0 args).run Tryz.prog w = .ok (.enter f0 args) w)
    (hc : Calls Tryz.prog f0 (c1 ++ c2) W fun e w' => e = .returned (.bool v) ∧ Below W.heap.size W w') :
    Calls Tryz.prog 61 #[(.pointer (some ⟨p, 0, none⟩))] W fun e w' => e = .returned (.bool (!v)) ∧ Below W.heap.size W w' := by
  have k : W.cell? ⟨p, 0, none⟩ = some (.func (.func f0) c1 c2) := hp.cell 0
  have HC := Lib.hid hc
  clear hp hc
  go_enter Tryz.func61, Tryz.ntmps61
  go_wp2_with fail
  refine HC.out.mono ?_
  rintro e w1 ⟨rfl, hb1⟩
  have HB1 := Lib.hid hb1
  clear hb1
  go_wp2_with fail
  go_ret
  exact ⟨rfl, HB1.out⟩
theorem step_eq (b : Bl) (s : ByteArray) (on : Int) (v3 v4 : Bool) : firstV (!(nmB s && isDay on)) (decide (on < b.last)) (!v3) (!v4) = stepV b s on v3 v4 := by
  unfold firstV stepV
  cases nmB s && isDay on <;> cases v3 <;> cases v4 <;> simp
set_option maxRecDepth 100000 in
set_option maxHeartbeats 3200000 in
/-- What step tells, of any two questions. -/
theorem step_any (g mb : Nat) (b : Bl) (s : ByteArray) (on : Int) (f3 f4 : FuncId) (c3 d3 c4 d4 : Array Value) (v3 v4 : Bool) (w : World) (hb : IsBill w g mb b) (hs : s.size ≤ maxLen)
    (e3 : ∀ args w, (callFunc f3 args).run Tryz.prog w = .ok (.enter f3 args) w) (e4 : ∀ args w, (callFunc f4 args).run Tryz.prog w = .ok (.enter f4 args) w)
    (K3 : ∀ W, Below w.heap.size w W → Calls Tryz.prog f3 (c3 ++ d3) W fun e w' => e = .returned (.bool v3) ∧ Below W.heap.size W w')
    (K4 : ∀ W, Below w.heap.size w W → Calls Tryz.prog f4 (c4 ++ d4) W fun e w' => e = .returned (.bool v4) ∧ Below W.heap.size W w') :
    Calls Tryz.prog 35 #[(.pointer (some ⟨g, 0, none⟩)), .string s, .int .i64 on, .func (.func f3) c3 d3, .func (.func f4) c4 d4] w fun e w' => e = .returned (.int .i64 (stepV b s on v3 v4)) ∧ Below w.heap.size w w' := by
  have h5 : Blk (((((w.alloc (.cells #[(.pointer (some ⟨g, 0, none⟩))] 39)).alloc (.cells #[.string s] 9)).alloc (.cells #[.int .i64 on] 3)).alloc (.cells #[.func (.func f3) c3 d3] 29)).alloc (.cells #[.func (.func f4) c4 d4] 29)) w.heap.size 39 #[(.pointer (some ⟨g, 0, none⟩))] := ((((Blk.new _ _ _).alloc _).alloc _).alloc _).alloc _
  have h6 : Blk (((((w.alloc (.cells #[(.pointer (some ⟨g, 0, none⟩))] 39)).alloc (.cells #[.string s] 9)).alloc (.cells #[.int .i64 on] 3)).alloc (.cells #[.func (.func f3) c3 d3] 29)).alloc (.cells #[.func (.func f4) c4 d4] 29)) (w.heap.size + 1) 9 #[.string s] := (((Blk.new_at _ _ _ _ (by simp)).alloc _).alloc _).alloc _
  have h7 : Blk (((((w.alloc (.cells #[(.pointer (some ⟨g, 0, none⟩))] 39)).alloc (.cells #[.string s] 9)).alloc (.cells #[.int .i64 on] 3)).alloc (.cells #[.func (.func f3) c3 d3] 29)).alloc (.cells #[.func (.func f4) c4 d4] 29)) (w.heap.size + 1 + 1) 3 #[.int .i64 on] := ((Blk.new_at _ _ _ _ (by simp)).alloc _).alloc _
  have h8 : Blk (((((w.alloc (.cells #[(.pointer (some ⟨g, 0, none⟩))] 39)).alloc (.cells #[.string s] 9)).alloc (.cells #[.int .i64 on] 3)).alloc (.cells #[.func (.func f3) c3 d3] 29)).alloc (.cells #[.func (.func f4) c4 d4] 29)) (w.heap.size + 1 + 1 + 1) 29 #[.func (.func f3) c3 d3] := (Blk.new_at _ _ _ _ (by simp)).alloc _
  have h9 : Blk (((((w.alloc (.cells #[(.pointer (some ⟨g, 0, none⟩))] 39)).alloc (.cells #[.string s] 9)).alloc (.cells #[.int .i64 on] 3)).alloc (.cells #[.func (.func f3) c3 d3] 29)).alloc (.cells #[.func (.func f4) c4 d4] 29)) (w.heap.size + 1 + 1 + 1 + 1) 29 #[.func (.func f4) c4 d4] := Blk.new_at _ _ _ _ (by simp)
  have hB : Below w.heap.size w (((((w.alloc (.cells #[(.pointer (some ⟨g, 0, none⟩))] 39)).alloc (.cells #[.string s] 9)).alloc (.cells #[.int .i64 on] 3)).alloc (.cells #[.func (.func f3) c3 d3] 29)).alloc (.cells #[.func (.func f4) c4 d4] 29)) := (((((Below.refl _ _).alloc (Nat.le_refl _) _).alloc (by simp) _).alloc (by simp; omega) _).alloc (by simp; omega) _).alloc (by simp; omega) _
  have HB := Lib.hid hb
  have HS := Lib.hid hs
  have hW : Below w.heap.size w ((((((w.alloc (.cells #[(.pointer (some ⟨g, 0, none⟩))] 39)).alloc (.cells #[.string s] 9)).alloc (.cells #[.int .i64 on] 3)).alloc (.cells #[.func (.func f3) c3 d3] 29)).alloc (.cells #[.func (.func f4) c4 d4] 29)).alloc (.cells #[.int .i64 1, .func (.func 58) #[] #[(.pointer (some ⟨w.heap.size + 1, 0, none⟩)), (.pointer (some ⟨w.heap.size + 1 + 1, 0, none⟩))], .int .i64 6, .func (.func 59) #[] #[(.pointer (some ⟨w.heap.size + 1 + 1, 0, none⟩)), (.pointer (some ⟨w.heap.size, 0, none⟩))], .int .i64 9, .func (.func 60) #[] #[(.pointer (some ⟨w.heap.size + 1 + 1 + 1, 0, none⟩))], .int .i64 8, .func (.func 61) #[] #[(.pointer (some ⟨w.heap.size + 1 + 1 + 1 + 1, 0, none⟩))]] 88)) := hB.alloc hB.size _
  have hQ : Blk ((((((w.alloc (.cells #[(.pointer (some ⟨g, 0, none⟩))] 39)).alloc (.cells #[.string s] 9)).alloc (.cells #[.int .i64 on] 3)).alloc (.cells #[.func (.func f3) c3 d3] 29)).alloc (.cells #[.func (.func f4) c4 d4] 29)).alloc (.cells #[.int .i64 1, .func (.func 58) #[] #[(.pointer (some ⟨w.heap.size + 1, 0, none⟩)), (.pointer (some ⟨w.heap.size + 1 + 1, 0, none⟩))], .int .i64 6, .func (.func 59) #[] #[(.pointer (some ⟨w.heap.size + 1 + 1, 0, none⟩)), (.pointer (some ⟨w.heap.size, 0, none⟩))], .int .i64 9, .func (.func 60) #[] #[(.pointer (some ⟨w.heap.size + 1 + 1 + 1, 0, none⟩))], .int .i64 8, .func (.func 61) #[] #[(.pointer (some ⟨w.heap.size + 1 + 1 + 1 + 1, 0, none⟩))]] 88)) (w.heap.size + 1 + 1 + 1 + 1 + 1) 88 #[.int .i64 1, .func (.func 58) #[] #[(.pointer (some ⟨w.heap.size + 1, 0, none⟩)), (.pointer (some ⟨w.heap.size + 1 + 1, 0, none⟩))], .int .i64 6, .func (.func 59) #[] #[(.pointer (some ⟨w.heap.size + 1 + 1, 0, none⟩)), (.pointer (some ⟨w.heap.size, 0, none⟩))], .int .i64 9, .func (.func 60) #[] #[(.pointer (some ⟨w.heap.size + 1 + 1 + 1, 0, none⟩))], .int .i64 8, .func (.func 61) #[] #[(.pointer (some ⟨w.heap.size + 1 + 1 + 1 + 1, 0, none⟩))]] := Blk.new_at _ _ _ _ (by simp)
  have HBW := Lib.hid hW
  have H5 := Lib.hid (h5.alloc (.cells #[.int .i64 1, .func (.func 58) #[] #[(.pointer (some ⟨w.heap.size + 1, 0, none⟩)), (.pointer (some ⟨w.heap.size + 1 + 1, 0, none⟩))], .int .i64 6, .func (.func 59) #[] #[(.pointer (some ⟨w.heap.size + 1 + 1, 0, none⟩)), (.pointer (some ⟨w.heap.size, 0, none⟩))], .int .i64 9, .func (.func 60) #[] #[(.pointer (some ⟨w.heap.size + 1 + 1 + 1, 0, none⟩))], .int .i64 8, .func (.func 61) #[] #[(.pointer (some ⟨w.heap.size + 1 + 1 + 1 + 1, 0, none⟩))]] 88)); have H6 := Lib.hid (h6.alloc (.cells #[.int .i64 1, .func (.func 58) #[] #[(.pointer (some ⟨w.heap.size + 1, 0, none⟩)), (.pointer (some ⟨w.heap.size + 1 + 1, 0, none⟩))], .int .i64 6, .func (.func 59) #[] #[(.pointer (some ⟨w.heap.size + 1 + 1, 0, none⟩)), (.pointer (some ⟨w.heap.size, 0, none⟩))], .int .i64 9, .func (.func 60) #[] #[(.pointer (some ⟨w.heap.size + 1 + 1 + 1, 0, none⟩))], .int .i64 8, .func (.func 61) #[] #[(.pointer (some ⟨w.heap.size + 1 + 1 + 1 + 1, 0, none⟩))]] 88)); have H7 := Lib.hid (h7.alloc (.cells #[.int .i64 1, .func (.func 58) #[] #[(.pointer (some ⟨w.heap.size + 1, 0, none⟩)), (.pointer (some ⟨w.heap.size + 1 + 1, 0, none⟩))], .int .i64 6, .func (.func 59) #[] #[(.pointer (some ⟨w.heap.size + 1 + 1, 0, none⟩)), (.pointer (some ⟨w.heap.size, 0, none⟩))], .int .i64 9, .func (.func 60) #[] #[(.pointer (some ⟨w.heap.size + 1 + 1 + 1, 0, none⟩))], .int .i64 8, .func (.func 61) #[] #[(.pointer (some ⟨w.heap.size + 1 + 1 + 1 + 1, 0, none⟩))]] 88)); have H8 := Lib.hid (h8.alloc (.cells #[.int .i64 1, .func (.func 58) #[] #[(.pointer (some ⟨w.heap.size + 1, 0, none⟩)), (.pointer (some ⟨w.heap.size + 1 + 1, 0, none⟩))], .int .i64 6, .func (.func 59) #[] #[(.pointer (some ⟨w.heap.size + 1 + 1, 0, none⟩)), (.pointer (some ⟨w.heap.size, 0, none⟩))], .int .i64 9, .func (.func 60) #[] #[(.pointer (some ⟨w.heap.size + 1 + 1 + 1, 0, none⟩))], .int .i64 8, .func (.func 61) #[] #[(.pointer (some ⟨w.heap.size + 1 + 1 + 1 + 1, 0, none⟩))]] 88)); have H9 := Lib.hid (h9.alloc (.cells #[.int .i64 1, .func (.func 58) #[] #[(.pointer (some ⟨w.heap.size + 1, 0, none⟩)), (.pointer (some ⟨w.heap.size + 1 + 1, 0, none⟩))], .int .i64 6, .func (.func 59) #[] #[(.pointer (some ⟨w.heap.size + 1 + 1, 0, none⟩)), (.pointer (some ⟨w.heap.size, 0, none⟩))], .int .i64 9, .func (.func 60) #[] #[(.pointer (some ⟨w.heap.size + 1 + 1 + 1, 0, none⟩))], .int .i64 8, .func (.func 61) #[] #[(.pointer (some ⟨w.heap.size + 1 + 1 + 1 + 1, 0, none⟩))]] 88))
  have HK3 := Lib.hid K3; have HK4 := Lib.hid K4; have HE3 := Lib.hid e3; have HE4 := Lib.hid e4
  have HF := Lib.hid (first_any ((((((w.alloc (.cells #[(.pointer (some ⟨g, 0, none⟩))] 39)).alloc (.cells #[.string s] 9)).alloc (.cells #[.int .i64 on] 3)).alloc (.cells #[.func (.func f3) c3 d3] 29)).alloc (.cells #[.func (.func f4) c4 d4] 29)).alloc (.cells #[.int .i64 1, .func (.func 58) #[] #[(.pointer (some ⟨w.heap.size + 1, 0, none⟩)), (.pointer (some ⟨w.heap.size + 1 + 1, 0, none⟩))], .int .i64 6, .func (.func 59) #[] #[(.pointer (some ⟨w.heap.size + 1 + 1, 0, none⟩)), (.pointer (some ⟨w.heap.size, 0, none⟩))], .int .i64 9, .func (.func 60) #[] #[(.pointer (some ⟨w.heap.size + 1 + 1 + 1, 0, none⟩))], .int .i64 8, .func (.func 61) #[] #[(.pointer (some ⟨w.heap.size + 1 + 1 + 1 + 1, 0, none⟩))]] 88)) _ w.heap.size (w.heap.size + 1) (w.heap.size + 1 + 1) (w.heap.size + 1 + 1 + 1) (w.heap.size + 1 + 1 + 1 + 1) (!(nmB s && isDay on)) (decide (on < b.last)) (!v3) (!v4) hQ
    (fun W hw => step1_any _ _ s on W HS.out (H6.out.below hw H6.out.lt) (H7.out.below hw H7.out.lt))
    (fun W hw => step2_any _ _ g mb b on W (H7.out.below hw H7.out.lt) (H5.out.below hw H5.out.lt) (HB.out.below (HBW.out.trans (hw.mono HBW.out.size))))
    (fun W hw => step3_any _ f3 c3 d3 v3 W (H8.out.below hw H8.out.lt) HE3.out (HK3.out W (HBW.out.trans (hw.mono HBW.out.size))))
    (fun W hw => step4_any _ f4 c4 d4 v4 W (H9.out.below hw H9.out.lt) HE4.out (HK4.out W (HBW.out.trans (hw.mono HBW.out.size)))))
  rw [step_eq] at HF
  clear h5 h6 h7 h8 h9 hB hb hs K3 K4 e3 e4 H5 H6 H7 H8 H9 hW hQ
  go_enter Tryz.func35, Tryz.ntmps35
  go_wp2_with fail
  refine HF.out.mono ?_
  rintro e w6 ⟨rfl, hb6⟩
  have HB6 := Lib.hid (HBW.out.trans (hb6.mono HBW.out.size))
  clear hb6
  go_wp2_with fail
  go_ret
  exact ⟨rfl, HB6.out⟩
end Go.Proofs.YtlaclkiedjhphaaGreatDoor.kit
