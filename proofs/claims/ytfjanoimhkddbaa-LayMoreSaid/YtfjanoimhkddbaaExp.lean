/- When the lay expires, by the program; whether stretches are long. No condition. -/
import Derived.Test.YtfjanoimhkddbaaRead
namespace Go.Proofs.Ytfjanoimhkddbaa
open Go.RowKit Go.Proofs.Ytfjanoimhkddbaa.kit
set_option linter.unusedVariables false

theorem rused_any (l : Lay) (hl : l.may = true) (at_ : Int) (ha : I64 at_) (A : Option Addr) (n c : Nat) (xs : List Str) (w : World) (hx : SliceOf w 3 Str.cells A n xs) (hm : n ≤ 4096) (hr : ∀ x ∈ xs, x.right) :
    Calls Try.prog 16 #[.agg #[.int .i64 l.free, .int .i64 l.late, .int .i64 l.soon], .slice A n c, .int .i64 at_] w fun e w' => e = .returned (.int .i64 (rused (2 * l.free) at_ xs 0)) ∧ Below w.heap.size w w' := by
  rcases hx.cells with rfl | ⟨b, off, rfl, hb, hc⟩
  · obtain rfl : xs = [] := List.eq_nil_of_length_eq_zero hx.len
    have hB0 : Below w.heap.size w (w.alloc (.cells #[.int .i64 l.free, .int .i64 l.late, .int .i64 l.soon] 23)) := (Below.refl _ _).alloc (Nat.le_refl _) _
    go_enter Try.func16, Try.ntmps16
    go_wp2
    go_loop [7, 8] (fun s i => i = .int .i64 0 ∧ s = .int .i64 0) (fun _ i => 0)
    case atStart => exact ⟨rfl, rfl⟩
    case round =>
      obtain ⟨rfl, rfl⟩ := hrel
      go_wp2
      go_ret
      exact ⟨rfl, hB0⟩
  · exact rused_pos l hl at_ ha b off n c xs w hx.len hm hb hr hc

/-- The hour at which it expires. -/
def expF (F : Int) : Int → Int → List Str → Option Int
  | _, _, [] => none
  | left, used, x :: r =>
    if F ≤ used + (upto left (x.to - x.fr) x.ha * x.ha + 2 * ((x.to - x.fr) - upto left (x.to - x.fr) x.ha)) then some (x.fr + upto left (x.to - x.fr) x.ha)
    else expF F (left - upto left (x.to - x.fr) x.ha * x.ha) (used + (upto left (x.to - x.fr) x.ha * x.ha + 2 * ((x.to - x.fr) - upto left (x.to - x.fr) x.ha))) r
def optV : Option Int → Int × Bool
  | some h => (h, true)
  | none => (0, false)
def expV (l : Lay) (xs : List Str) : Int × Bool := if wr l xs = 0 then optV (expF (2 * l.free) (2 * l.free) 0 xs) else (0, false)

theorem exp_step {k : Nat} {xs : List Str} {F left used f t h : Int} {all : Option Int} (hx : xs[k]? = some ⟨f, t, h⟩) (hs : expF F left used (xs.drop k) = all) :
    (if F ≤ used + (upto left (t - f) h * h + 2 * ((t - f) - upto left (t - f) h)) then some (f + upto left (t - f) h)
    else expF F (left - upto left (t - f) h * h) (used + (upto left (t - f) h * h + 2 * ((t - f) - upto left (t - f) h))) (xs.drop (k + 1))) = all := by
  obtain ⟨hk, hx⟩ := List.getElem?_eq_some_iff.1 hx
  rw [List.drop_eq_getElem_cons hk, hx, expF] at hs
  exact hs

set_option maxHeartbeats 1000000 in
theorem exp_ok (l : Lay) (b off n c : Nat) (xs : List Str) (hw : wr l xs = 0) (w : World) (hxl : xs.length = n) (hn : 0 < n) (hm : n ≤ 4096) (hb : b < w.heap.size) (hx0 : SliceOf w 3 Str.cells (some ⟨b, off, none⟩) n xs)
    (hc : ∀ i x, xs[i]? = some x → ∀ j v, x.cells[j]? = some v → w.cell? ⟨b, off + (i * 3 + j), none⟩ = some v) :
    Calls Try.prog 22 #[.agg #[.int .i64 l.free, .int .i64 l.late, .int .i64 l.soon], .slice (some ⟨b, off, none⟩) n c] w fun e w' => e = .returned (.tuple #[.int .i64 (optV (expF (2 * l.free) (2 * l.free) 0 xs)).1, .bool (optV (expF (2 * l.free) (2 * l.free) 0 xs)).2]) ∧ Below w.heap.size w w' := by
  obtain ⟨hl, hk⟩ := wr_ok hw
  have hf : 0 ≤ l.free ∧ l.free ≤ 1048576 := by simp [Lay.may] at hl; omega
  obtain ⟨hf0, hf1⟩ := hf
  have HR := Lib.hid (chk_ok xs 0 0 hk).1
  have HX := Lib.hid hx0
  have HW := Lib.hid hw
  clear hl hk hx0 hw
  have hB0 : Below w.heap.size w (w.alloc (.cells #[.int .i64 l.free, .int .i64 l.late, .int .i64 l.soon] 23)) := (Below.refl _ _).alloc (Nat.le_refl _) _
  have hn0 : ((n : Int) == 0) = false := by simp; omega
  go_enter Try.func22, Try.ntmps22
  go_wp2_with (first
      | (go_at_call 26; refine (wrong_any l _ _ _ xs _ (HX.out.below hB0) (by unfold maxLen; omega)).mono ?_; rw [HW.out]; rintro e w1 ⟨rfl, hb1⟩; have hB1 : Below w.heap.size w w1 := hB0.trans (hb1.mono (by simp)); obtain ⟨q1, q2⟩ := bcell hb1; have hz1 : w.heap.size < w1.heap.size := by have := hb1.size; simp at this; omega)
      | (go_at_call 28; refine (along_any _ _ hf0 hf1).mono ?_; rintro e w' ⟨rfl, rfl⟩))
  have hblk1 : Blk w1 w.heap.size 23 #[.int .i64 l.free, .int .i64 l.late, .int .i64 l.soon] := (Blk.new w _ _).below hb1 (by simp)
  clear q1 q2
  obtain ⟨g, hg⟩ : ∃ g, g = w1.heap.size := ⟨_, rfl⟩
  have hbg : Blk (w1.alloc (.cells #[.int .i64 (2 * l.free)] 3)) g 3 #[.int .i64 (2 * l.free)] := by rw [hg]; exact Blk.new _ _ _
  have hB2 : Below w.heap.size w (w1.alloc (.cells #[.int .i64 (2 * l.free)] 3)) := hB1.alloc hB1.size _
  have hgw : w.heap.size < g := by rw [hg]; exact hz1
  have hb2 := hblk1.alloc (.cells #[.int .i64 (2 * l.free)] 3)
  rw [← hg]
  generalize w1.alloc (.cells #[.int .i64 (2 * l.free)] 3) = w2 at *
  clear hg hb1 hz1 hblk1 hB1 hB0
  go_loopw [7, 26] (fun s i wr => ∃ (k : Nat) (left sum : Int), k ≤ n ∧ i = .int .i64 k ∧ s = .int .i64 sum ∧ 0 ≤ sum ∧ sum ≤ k * 2097152 ∧ -2 ≤ left ∧ left ≤ 2097152 ∧ Below w.heap.size w wr ∧
      Blk wr g 3 #[.int .i64 left] ∧ Blk wr w.heap.size 23 #[.int .i64 l.free, .int .i64 l.late, .int .i64 l.soon] ∧ Hid (expF (2 * l.free) left sum (xs.drop k) = expF (2 * l.free) (2 * l.free) 0 xs)) (fun _ i _ => n - (intOf i).toNat)
  case atStart => exact ⟨0, 2 * l.free, 0, Nat.zero_le _, rfl, rfl, Int.le_refl _, by omega, by omega, by omega, hB2, hbg, hb2, rfl⟩
  case round =>
    obtain ⟨k, left, sum, hk, rfl, rfl, s0, s1, l0, l1, hbel, hblk, hbox, hsum⟩ := hrel
    have hsz := hblk.lt
    have hcl : wr.cell? ⟨g, 0, none⟩ = some (.int .i64 left) := hblk.cell 0
    have hfz := hblk.frozen 0
    by_cases hlt : k < n
    · obtain ⟨f, t, h, hx, hbr, c0, c1, c2⟩ := elem_at hxl hb hc hbel hlt
      obtain ⟨g0, g1, g2, g3, g4⟩ : Str.right ⟨f, t, h⟩ := HR.out _ (List.mem_of_getElem? hx)
      simp only at g0 g1 g2 g3 g4
      have hst := exp_step hx hsum.out
      clear hx hsum
      have ub := upto_bd left (t - f) h (by omega) g3 g4
      have ul := upto_left left (t - f) h l0 l1 (by omega) g3 g4
      have um := mul_half (upto left (t - f) h) h ub.1 (by omega) g3 g4
      have um2 : upto left (t - f) h * h ≤ 2 * upto left (t - f) h := by
        rcases (show h = 0 ∨ h = 1 ∨ h = 2 by omega) with rfl | rfl | rfl <;> omega
      obtain ⟨u0, u1⟩ := ub
      obtain ⟨u2, u3⟩ := ul
      obtain ⟨u4, u5⟩ := um
      have hk1 : (k : Int) < (n : Int) := by omega
      have v0 : 0 ≤ upto left (t - f) h * h + 2 * ((t - f) - upto left (t - f) h) := by omega
      have v1 : upto left (t - f) h * h + 2 * ((t - f) - upto left (t - f) h) ≤ 2097152 := by omega
      have d0 : wr.cell? ⟨w.heap.size, 0, none⟩ = some (.int .i64 l.free) := hbox.cell 0
      have hszb := hbox.lt
      have hne : w.heap.size ≠ g := by omega
      have d1 : (wr.setCell ⟨g, 0, none⟩ (.int .i64 (left - upto left (t - f) h * h))).cell? ⟨w.heap.size, 0, none⟩ = some (.int .i64 l.free) := (hbox.far (p := ⟨g, 0, none⟩) hne _).cell 0
      by_cases hF : 2 * l.free ≤ sum + (upto left (t - f) h * h + 2 * ((t - f) - upto left (t - f) h))
      · rw [if_pos hF] at hst
        have HS : Hid (_ = _) := hst.symm
        clear hst
        go_wp2_with (go_at_call 29; refine (next_any left _ _ _ _ ((World.cell?_alloc_past _ _ _ hsz).trans hcl) ((World.frozen?_alloc_past _ _ _ hsz).trans hfz) l0 l1 (by omega) (by omega) g3 g4).mono ?_; rintro e w' ⟨rfl, rfl⟩)
        go_ret2
        exact ⟨ret_pb (by rw [HS.out]; rfl), (hbel.setCell (by simp; omega) _).alloc (by simpa using hbel.size) _⟩
      · rw [if_neg hF] at hst
        have HS : Hid (_ = _) := hst
        clear hst
        go_wp2_with (go_at_call 29; refine (next_any left _ _ _ _ ((World.cell?_alloc_past _ _ _ hsz).trans hcl) ((World.frozen?_alloc_past _ _ _ hsz).trans hfz) l0 l1 (by omega) (by omega) g3 g4).mono ?_; rintro e w' ⟨rfl, rfl⟩)
        go_roundw
        case rel => exact ⟨k + 1, left - upto left (t - f) h * h, sum + (upto left (t - f) h * h + 2 * ((t - f) - upto left (t - f) h)), by omega, by go_num, rfl, by omega, by omega, u2, u3, (hbel.setCell (by simp; omega) _).alloc (by simpa using hbel.size) _, by simpa using (hblk.set_ 0 (.int .i64 (left - upto left (t - f) h * h))).alloc _, (hbox.far (p := ⟨g, 0, none⟩) hne _).alloc _, HS⟩
        case measure => simp [intOf]; omega
    · go_wp2
      go_ret2
      have hkn : k = n := by omega
      exact ⟨ret_pb (by rw [← hsum.out, List.drop_eq_nil_of_le (by omega)]; rfl), hbel⟩
end Go.Proofs.Ytfjanoimhkddbaa
