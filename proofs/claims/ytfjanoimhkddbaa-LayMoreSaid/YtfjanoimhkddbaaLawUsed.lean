/- LayUsed: of any lay and stretches what is used, and the first wrong stretch, are what the chapter says. No condition. -/
import Derived.Test.YtfjanoimhkddbaaAwake
namespace Go.Proofs.Ytfjanoimhkddbaa
open Go.RowKit Go.Proofs.Ytfjanoimhkddbaa.kit
open Go.ChangeShapes Go.WideShapes Go.ChangeAt
set_option linter.unusedVariables false

/-! ### opening the arguments -/
theorem own : ownKnob Try.prog.godebug = none := by kernel_rfl
theorem laidOut : laidOutB Try.prog = true := by kernel_rfl
theorem leavesL : leavesAt Try.prog 4 23 = [(0, 3), (1, 2), (2, 2)] := by kernel_rfl
theorem leavesS : leavesAt Try.prog 4 47 = [(0, 3), (1, 3), (2, 3)] := by kernel_rfl
theorem cellsL : Try.prog.cellsOf 23 = 3 := by kernel_rfl
theorem cellsS : Try.prog.cellsOf 47 = 3 := by kernel_rfl

theorem three {cs : List Value} {a b c : Value} (h : cs.length = 3) (h0 : cs[0]? = some a) (h1 : cs[1]? = some b) (h2 : cs[2]? = some c) : cs = [a, b, c] := by
  match cs, h with
  | [x, y, z], _ => simp at h0 h1 h2; rw [h0, h1, h2]

section
variable {H : Type} {enc : TypeId × Value → H} {W : World} {base : Nat} {spare : Nat → Bool} {held : Bool}
theorem open_str (m : Nat) (cs : List Value) (x : DataW H × List MemPlace) (h : DataW.trod enc Try.prog W base spare held m 47 cs = some x) : ∃ a : Str, cs = a.cells ∧ a.wf := by
  obtain ⟨a, ha, wa⟩ := leaf_int (k := .i64) h 4 (by rw [leavesS]; exact List.mem_cons_self) Try.underlying3
  obtain ⟨b, hb, wb⟩ := leaf_int (o := 1) (u := 3) (k := .i64) h 4 (by rw [leavesS]; simp) Try.underlying3
  obtain ⟨c, hc, wc⟩ := leaf_int (o := 2) (u := 3) (k := .i64) h 4 (by rw [leavesS]; simp) Try.underlying3
  obtain ⟨_, _, _, _, hlen, _⟩ := DataW.trod_struct Try.underlying47 h
  exact ⟨⟨a, b, c⟩, three (hlen.trans cellsS) ha hb hc, i64_of_wf wa, i64_of_wf wb, i64_of_wf wc⟩
theorem open_lay (m : Nat) (cs : List Value) (x : DataW H × List MemPlace) (h : DataW.trod enc Try.prog W base spare held m 23 cs = some x) : ∃ a : Lay, cs = a.cells ∧ a.wf := by
  obtain ⟨a, ha, wa⟩ := leaf_int (o := 0) (u := 3) (k := .i64) h 4 (by rw [leavesL]; simp) Try.underlying3
  obtain ⟨b, hb, wb⟩ := leaf_int (o := 1) (u := 2) (k := .i64) h 4 (by rw [leavesL]; simp) Try.underlying2
  obtain ⟨c, hc, wc⟩ := leaf_int (o := 2) (u := 2) (k := .i64) h 4 (by rw [leavesL]; simp) Try.underlying2
  obtain ⟨_, _, _, _, hlen, _⟩ := DataW.trod_struct Try.underlying23 h
  exact ⟨⟨a, b, c⟩, three (hlen.trans cellsL) ha hb hc, i64_of_wf wa, i64_of_wf wb, i64_of_wf wc⟩
/-- The two arguments of every law of this chapter. -/
theorem open_lay_arg {v : Value} {d : DataW H} {p : List MemPlace} (hv : Value.okWide Try.prog W .any base 23 v) (h : DataW.Trod enc Try.prog W 0 spare held 23 v d p) :
    ∃ a : Lay, v = .agg #[.int .i64 a.free, .int .i64 a.late, .int .i64 a.soon] ∧ a.wf := by
  obtain ⟨cs, rfl, _⟩ := okWide_struct Try.underlying23 hv
  obtain ⟨m, hm⟩ := h
  obtain ⟨a, ha, wa⟩ := open_lay m _ _ hm
  refine ⟨a, ?_, wa⟩
  have : cs = #[.int .i64 a.free, .int .i64 a.late, .int .i64 a.soon] := by
    apply Array.toList_inj.1
    simpa [Value.cells, Lay.cells] using ha
  rw [this]
theorem open_strs_arg {v : Value} {d : DataW H} {p : List MemPlace} (hv : Value.okWide Try.prog W .any base 24 v) (h : DataW.Trod enc Try.prog W 0 spare held 24 v d p) :
    ∃ A n c xs, v = .slice A n c ∧ n ≤ maxLen ∧ SliceOf W 3 Str.cells A n xs ∧ ∀ y ∈ xs, y.wf := by
  obtain ⟨a, n, c, rfl⟩ := okWide_slice Try.underlying24 hv
  obtain ⟨m, hm⟩ := h
  obtain ⟨A, l, c', xs, he, hl, hc, hs, hw⟩ := open_sliceOf Str.cells Str.wf Try.underlying24 cellsS (by omega) open_str hm
  simp [Value.cells] at he
  obtain ⟨rfl, rfl, rfl⟩ := he
  exact ⟨_, _, _, xs, rfl, by omega, hs, hw⟩
end

/-! ### the walk -/
theorem used_plain {l : Lay} {xs : List Str} (h : wr l xs = 0) : rused (2 * l.free) 1048577 xs 0 = usesF (2 * l.free) xs := by
  obtain ⟨hl, hk⟩ := wr_ok h
  have hf : 0 ≤ l.free := by simp [Lay.may] at hl; omega
  have hr := (chk_ok xs 0 0 hk).1
  rw [rused_uses 1048577 xs (2 * l.free) 0 (fun x hx => ⟨hr x hx, by have := (hr x hx).2.2.1; omega⟩) (at_start (by omega))]
  omega

set_option maxHeartbeats 1000000 in
theorem layUsed_walk (l : Lay) (A : Option Addr) (n c : Nat) (xs : List Str) (w : World) (hx : SliceOf w 3 Str.cells A n xs) (hm : n ≤ maxLen) :
    Calls Try.prog 3 #[.agg #[.int .i64 l.free, .int .i64 l.late, .int .i64 l.soon], .slice A n c] w fun e w' => e = .returned (.bool true) ∧ Below w.heap.size w w' := by
  have HX := Lib.hid hx
  have hB0 : Below w.heap.size w (w.alloc (.cells #[.int .i64 l.free, .int .i64 l.late, .int .i64 l.soon] 23)) := (Below.refl _ _).alloc (Nat.le_refl _) _
  have hk0 : Blk (w.alloc (.cells #[.int .i64 l.free, .int .i64 l.late, .int .i64 l.soon] 23)) w.heap.size 23 #[.int .i64 l.free, .int .i64 l.late, .int .i64 l.soon] := Blk.new _ _ _
  go_enter Try.func3, Try.ntmps3
  go_wp2_with fail
  refine (awake_any _).mono ?_
  rintro e w1 ⟨rfl, hb1⟩
  have hB1 : Below w.heap.size w w1 := hB0.trans (hb1.mono (by simp))
  have hk1 := hk0.below hb1 hk0.lt
  clear hB0 hk0 hb1
  by_cases hn : 60 < n
  · have hn' : (60 : Int) < (n : Int) := by omega
    go_wp2_with fail
    go_ret
    exact ⟨rfl, hB1⟩
  have hn' : ¬ (60 : Int) < (n : Int) := by omega
  go_wp2_with fail
  refine (long_any 2000 (by omega) _ _ _ xs _ (HX.out.below hB1) hm).mono ?_
  rintro e w2 ⟨rfl, hb2⟩
  have hB2 : Below w.heap.size w w2 := hB1.trans (hb2.mono hB1.size)
  have hk2 := hk1.below hb2 hk1.lt
  clear hB1 hk1 hb2
  by_cases hlong : long xs 2000 = true
  · go_wp2_with fail
    go_ret
    exact ⟨rfl, hB2⟩
  have hlong' : long xs 2000 = false := by simpa using hlong
  clear hlong
  go_wp2_with fail
  refine (check_any _ _ _ xs _ (HX.out.below hB2) hm).mono ?_
  rintro e w3 ⟨rfl, hb3⟩
  have hB3 : Below w.heap.size w w3 := hB2.trans (hb3.mono hB2.size)
  have hk3 := hk2.below hb3 hk2.lt
  clear hB2 hk2 hb3
  go_wp2_with fail
  refine (rcheck_any _ _ _ xs _ (HX.out.below hB3) hm).mono ?_
  rintro e w4 ⟨rfl, hb4⟩
  have hB4 : Below w.heap.size w w4 := hB3.trans (hb4.mono hB3.size)
  have hk4 := hk3.below hb4 hk3.lt
  clear hB3 hk3 hb4
  have a0 : w4.cell? ⟨w.heap.size, 0, none⟩ = some (.int .i64 l.free) := hk4.cell 0
  have a1 : w4.cell? ⟨w.heap.size, 1, none⟩ = some (.int .i64 l.late) := hk4.cell 1
  have a2 : w4.cell? ⟨w.heap.size, 2, none⟩ = some (.int .i64 l.soon) := hk4.cell 2
  go_wp2_with fail
  refine (used_any l _ _ _ xs _ (HX.out.below hB4) hm).mono ?_
  rintro e w5 ⟨rfl, hb5⟩
  have hB5 : Below w.heap.size w w5 := hB4.trans (hb5.mono hB4.size)
  have hk5 := hk4.below hb5 hk4.lt
  clear hB4 hk4 hb5 a0 a1 a2
  have a0 : w5.cell? ⟨w.heap.size, 0, none⟩ = some (.int .i64 l.free) := hk5.cell 0
  have a1 : w5.cell? ⟨w.heap.size, 1, none⟩ = some (.int .i64 l.late) := hk5.cell 1
  have a2 : w5.cell? ⟨w.heap.size, 2, none⟩ = some (.int .i64 l.soon) := hk5.cell 2
  have p0 := wof_cell a0
  have p1 := wof_cell a1
  have p2 := wof_cell a2
  go_wp2_with fail
  refine wp_region_quiet_below (by kernel_rfl) (by kernel_rfl) ?_
  repeat (go_big_quiet_step ((first | (go_at_call 14; exact quiet_below (may_any l _)) | (go_at_call 15; exact quiet_below (rmay_any l _)))))
  refine wpQuiet_nil ?_
  intro w6 hb6
  have hB6 : Below w.heap.size w w6 := hB5.trans (hb6.mono hB5.size)
  have hk6 := hk5.below hb6 hk5.lt
  clear hB5 hk5 hb6 a0 a1 a2 p0 p1 p2
  have a0 : w6.cell? ⟨w.heap.size, 0, none⟩ = some (.int .i64 l.free) := hk6.cell 0
  have a1 : w6.cell? ⟨w.heap.size, 1, none⟩ = some (.int .i64 l.late) := hk6.cell 1
  have a2 : w6.cell? ⟨w.heap.size, 2, none⟩ = some (.int .i64 l.soon) := hk6.cell 2
  go_wp2_with fail
  refine (rmay_any l _).mono ?_
  rintro e w7 ⟨rfl, hb7⟩
  have hB7 : Below w.heap.size w w7 := hB6.trans (hb7.mono hB6.size)
  have hk7 := hk6.below hb7 hk6.lt
  clear hB6 hk6 hb7 a0 a1 a2
  by_cases hl : l.may = true
  · by_cases hk : (chk 0 0 xs).2 = 0
    · have hw : wr l xs = 0 := by unfold wr; rw [if_pos hl]; exact hk
      have e1 : usedV l xs = (usesF (2 * l.free) xs, 0) := by unfold usedV; rw [if_pos hw]
      have HP := Lib.hid (used_plain hw)
      have HR := Lib.hid (chk_ok xs 0 0 hk).1
      have hn4 : n ≤ 4096 := by rw [← hx.len]; exact chk_len hk
      have HL := Lib.hid hl
      have hk' : ((chk 0 0 xs).2 != 0) = false := by simp [hk]
      rw [e1]
      clear hw e1 hk hx
      have a0 : w7.cell? ⟨w.heap.size, 0, none⟩ = some (.int .i64 l.free) := hk7.cell 0
      have a1 : w7.cell? ⟨w.heap.size, 1, none⟩ = some (.int .i64 l.late) := hk7.cell 1
      have a2 : w7.cell? ⟨w.heap.size, 2, none⟩ = some (.int .i64 l.soon) := hk7.cell 2
      have p0 := wof_cell a0
      have p1 := wof_cell a1
      have p2 := wof_cell a2
      have HB : Hid (∀ x : BW w7, Below w.heap.size w (wof x)) := fun x => hB7.trans ((wof_below x).mono hB7.size)
      go_wp2_with fail
      refine wp_region_quiet_below (by kernel_rfl) (by kernel_rfl) ?_
      repeat (go_big_quiet_step ((first | (go_at_call 17; exact quiet_below ((all_any _).mono fun _ _ ⟨h1, h2⟩ => ⟨h1, by subst h2; exact Below.refl _ _⟩)) | (go_at_call 16; exact quiet_below ((rused_any l HL.out 1048577 ⟨by omega, by omega⟩ _ _ _ xs _ (HX.out.below (HB.out _)) hn4 HR.out).mono fun _ _ h => by rw [HP.out] at h; exact h)))))
      refine wpQuiet_nil ?_
      intro w8 hb8
      go_wp2_with fail
      go_ret
      exact ⟨rfl, hB7.trans (hb8.mono hB7.size)⟩
    · have e1 : usedV l xs = (0, (chk 0 0 xs).2) := by unfold usedV wr; rw [if_pos hl, if_neg hk]
      have hk' : ((chk 0 0 xs).2 != 0) = true := by simp [hk]
      rw [e1]
      clear e1 hk hx
      go_wp2_with fail
      go_ret
      exact ⟨rfl, hB7⟩
  · have hl' : l.may = false := by simpa using hl
    have e1 : usedV l xs = (0, 1) := by unfold usedV wr; rw [if_neg hl]; rfl
    rw [e1]
    clear hl e1 hx
    go_wp2_with fail
    go_ret
    exact ⟨rfl, hB7⟩
end Go.Proofs.Ytfjanoimhkddbaa
