/- Contracts of the program's functions of chapter 46. No condition. -/
import Derived.Test.YtlicmhgpldmliaaPlain
namespace Go.Proofs.Ytlicmhgpldmliaa
open Go.RowKit Go.Proofs.Ytlicmhgpldmliaa.kit
set_option linter.unusedVariables false

theorem mul_half (x ha : Int) (h0 : 0 ≤ x) (h1 : x ≤ 1048576) (h2 : 0 ≤ ha) (h3 : ha ≤ 2) : 0 ≤ x * ha ∧ x * ha ≤ 2097152 := by
  rcases (show ha = 0 ∨ ha = 1 ∨ ha = 2 by omega) with rfl | rfl | rfl <;> omega

/-- The function that takes the free time along. -/
theorem next_any (left hours ha : Int) (g : Nat) (w : World) (hc : w.cell? ⟨g, 0, none⟩ = some (.int .i64 left)) (hf : w.frozen? ⟨g, 0, none⟩ = false)
    (l0 : -2 ≤ left) (l1 : left ≤ 2097152) (h0 : 0 ≤ hours) (h1 : hours ≤ 1048576) (a0 : 0 ≤ ha) (a1 : ha ≤ 2) :
    Calls Try.prog 84 #[.int .i64 hours, .int .i64 ha, .pointer (some ⟨g, 0, none⟩)] w fun e w' =>
      e = .returned (.tuple #[.int .i64 (upto left hours ha), .int .i64 (upto left hours ha * ha + 2 * (hours - upto left hours ha))]) ∧ w' = w.setCell ⟨g, 0, none⟩ (.int .i64 (left - upto left hours ha * ha)) := by
  by_cases hl : left ≤ 0
  · have e : upto left hours ha = 0 := by unfold upto; rw [if_pos hl]
    rw [e]
    go_enter Try.func84, Try.ntmps84
    go_wp2
    go_ret2
    exact ⟨by simp, by simp⟩
  · by_cases hp : 0 < ha
    · by_cases hm : hours ≤ (left + ha - 1) / ha
      · have e : upto left hours ha = hours := by unfold upto; rw [if_neg hl, if_pos hp, Int.min_eq_left hm]
        have mb := mul_half hours ha h0 h1 a0 a1
        obtain ⟨mb0, mb1⟩ := mb
        rw [e]
        go_enter Try.func84, Try.ntmps84
        go_wp2
        go_ret2
        exact ⟨rfl, rfl⟩
      · have e : upto left hours ha = (left + ha - 1) / ha := by unfold upto; rw [if_neg hl, if_pos hp, Int.min_eq_right (by omega)]
        have bd := upto_bd left hours ha h0 a0 a1
        rw [e] at bd
        have mb := mul_half _ ha bd.1 (by omega) a0 a1
        obtain ⟨bd0, bd1⟩ := bd
        obtain ⟨mb0, mb1⟩ := mb
        rw [e]
        go_enter Try.func84, Try.ntmps84
        go_wp2
        go_ret2
        exact ⟨rfl, rfl⟩
    · have e : upto left hours ha = hours := by unfold upto; rw [if_neg hl, if_neg hp]
      have mb := mul_half hours ha h0 h1 a0 a1
      obtain ⟨mb0, mb1⟩ := mb
      rw [e]
      go_enter Try.func84, Try.ntmps84
      go_wp2
      go_ret2
      exact ⟨rfl, rfl⟩

theorem along_any (free : Int) (w : World) (h0 : 0 ≤ free) (h1 : free ≤ 1048576) :
    Calls Try.prog 65 #[.int .i64 free] w fun e w' => e = .returned (.func (Fn.func 84) #[] #[.pointer (some ⟨w.heap.size, 0, none⟩)]) ∧ w' = w.alloc (.cells #[.int .i64 (2 * free)] 3) := by
  go_enter Try.func65, Try.ntmps65
  go_wp2
  go_ret
  exact ⟨rfl, rfl⟩

theorem upto_left (left hours ha : Int) (l0 : -2 ≤ left) (l1 : left ≤ 2097152) (h0 : 0 ≤ hours) (a0 : 0 ≤ ha) (a1 : ha ≤ 2) : -2 ≤ left - upto left hours ha * ha ∧ left - upto left hours ha * ha ≤ 2097152 := by
  unfold upto
  by_cases h : left ≤ 0
  · rw [if_pos h]; omega
  · rw [if_neg h]
    rcases (show ha = 0 ∨ ha = 1 ∨ ha = 2 by omega) with rfl | rfl | rfl
    · simp; omega
    · simp; omega
    · simp only [Int.reduceLT, if_true]; omega

theorem uses_step {k : Nat} {xs : List Str} {left sum all f t h : Int} (hx : xs[k]? = some ⟨f, t, h⟩) (hs : sum + usesF left (xs.drop k) = all) :
    sum + (upto left (t - f) h * h + 2 * ((t - f) - upto left (t - f) h)) + usesF (left - upto left (t - f) h * h) (xs.drop (k + 1)) = all := by
  obtain ⟨hk, hx⟩ := List.getElem?_eq_some_iff.1 hx
  rw [List.drop_eq_getElem_cons hk, hx, usesF] at hs
  simp only at hs
  omega

set_option maxHeartbeats 1000000 in
theorem uses_pos (l : Lay) (hl : l.may = true) (b off n c : Nat) (xs : List Str) (w : World) (hxl : xs.length = n) (hm : n ≤ 4096) (hb : b < w.heap.size) (hr : ∀ x ∈ xs, x.right)
    (hc : ∀ i x, xs[i]? = some x → ∀ j v, x.cells[j]? = some v → w.cell? ⟨b, off + (i * 3 + j), none⟩ = some v) :
    Calls Try.prog 46 #[.agg #[.int .i64 l.free, .int .i64 l.late, .int .i64 l.soon], .slice (some ⟨b, off, none⟩) n c] w fun e w' => e = .returned (.int .i64 (usesF (2 * l.free) xs)) ∧ Below w.heap.size w w' := by
  have hf : 0 ≤ l.free ∧ l.free ≤ 1048576 := by simp [Lay.may] at hl; omega
  obtain ⟨hf0, hf1⟩ := hf
  clear hl
  go_enter Try.func46, Try.ntmps46
  go_wp2_with (go_at_call 65; refine (along_any _ _ hf0 hf1).mono ?_; rintro e w' ⟨rfl, rfl⟩)
  go_loopw [6, 16] (fun s i wr => ∃ (k : Nat) (left sum : Int), k ≤ n ∧ i = .int .i64 k ∧ s = .int .i64 sum ∧ 0 ≤ sum ∧ sum ≤ k * 2097152 ∧ -2 ≤ left ∧ left ≤ 2097152 ∧ Below w.heap.size w wr ∧
      Blk wr (w.heap.size + 1) 3 #[.int .i64 left] ∧ Hid (sum + usesF left (xs.drop k) = usesF (2 * l.free) xs)) (fun _ i _ => n - (intOf i).toNat)
  case atStart => exact ⟨0, 2 * l.free, 0, Nat.zero_le _, rfl, rfl, Int.le_refl _, by omega, by omega, by omega, ((Below.refl _ _).alloc (Nat.le_refl _) _).alloc (by simp) _, by simpa using Blk.new (w.alloc _) _ _, by show _ = _; simp⟩
  case round =>
    obtain ⟨k, left, sum, hk, rfl, rfl, s0, s1, l0, l1, hbel, hblk, hsum⟩ := hrel
    have hsz := hblk.lt
    have hcl : wr.cell? ⟨w.heap.size + 1, 0, none⟩ = some (.int .i64 left) := hblk.cell 0
    have hfz := hblk.frozen 0
    by_cases hlt : k < n
    · obtain ⟨⟨f, t, h⟩, hx⟩ : ∃ x, xs[k]? = some x := ⟨_, List.getElem?_eq_getElem (by omega)⟩
      have hbr : b < wr.heap.size := Nat.lt_of_lt_of_le hb hbel.size
      have c0 : wr.cell? ⟨b, off + k * 3, none⟩ = some (.int .i64 f) := (hbel.cell hb).trans (hc k _ hx 0 _ rfl)
      have c1 : wr.cell? ⟨b, off + k * 3 + 1, none⟩ = some (.int .i64 t) := (hbel.cell hb).trans (hc k _ hx 1 _ rfl)
      have c2 : wr.cell? ⟨b, off + k * 3 + 2, none⟩ = some (.int .i64 h) := (hbel.cell hb).trans (hc k _ hx 2 _ rfl)
      obtain ⟨g0, g1, g2, g3, g4⟩ : Str.right ⟨f, t, h⟩ := hr _ (List.mem_of_getElem? hx)
      simp only at g0 g1 g2 g3 g4
      have HS : Hid (_ = _) := uses_step hx hsum.out
      clear hx hsum
      have ub := upto_bd left (t - f) h (by omega) g3 g4
      have ul := upto_left left (t - f) h l0 l1 (by omega) g3 g4
      have um := mul_half (upto left (t - f) h) h ub.1 (by omega) g3 g4
      have um2 : upto left (t - f) h * h ≤ 2 * upto left (t - f) h := by
        rcases (show h = 0 ∨ h = 1 ∨ h = 2 by omega) with rfl | rfl | rfl <;> omega
      obtain ⟨u0, u1⟩ := ub
      obtain ⟨u2, u3⟩ := ul
      obtain ⟨u4, u5⟩ := um
      have hk1 : (k : Int) < (n : Int) := by omega
      have v0 : 0 ≤ upto left (t - f) h * h + 2 * ((t - f) - upto left (t - f) h) := by omega
      have v1 : upto left (t - f) h * h + 2 * ((t - f) - upto left (t - f) h) ≤ 2097152 := by omega
      go_wp2_with (go_at_call 84; refine (next_any left _ _ _ _ ((World.cell?_alloc_past _ _ _ hsz).trans hcl) ((World.frozen?_alloc_past _ _ _ hsz).trans hfz) l0 l1 (by omega) (by omega) g3 g4).mono ?_; rintro e w' ⟨rfl, rfl⟩)
      go_roundw
      case rel => exact ⟨k + 1, left - upto left (t - f) h * h, sum + (upto left (t - f) h * h + 2 * ((t - f) - upto left (t - f) h)), by omega, by go_num, rfl, by omega, by omega, u2, u3, (hbel.setCell (by simp) _).alloc (by simpa using hbel.size) _, by simpa using (hblk.set_ 0 (.int .i64 (left - upto left (t - f) h * h))).alloc _, HS⟩
      case measure => simp [intOf]; omega
    · go_wp2
      go_ret
      have hkn : k = n := by omega
      exact ⟨ret_int (by rw [← hsum.out, List.drop_eq_nil_of_le (by omega)]; simp [usesF]), hbel⟩
end Go.Proofs.Ytlicmhgpldmliaa
