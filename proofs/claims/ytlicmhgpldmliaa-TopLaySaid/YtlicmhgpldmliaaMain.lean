/- Contracts of the program's exported functions of chapter 46. No condition. -/
import Derived.Test.YtlicmhgpldmliaaWalk
namespace Go.Proofs.Ytlicmhgpldmliaa
open Go.RowKit Go.Proofs.Ytlicmhgpldmliaa.kit
set_option linter.unusedVariables false

def Chain : Int → List Str → Prop
  | _, [] => True
  | p, x :: r => x.fr = p ∧ Chain x.to r
theorem chk_ok : ∀ (xs : List Str) (i : Nat) (p : Int), (chk i p xs).2 = 0 → (∀ x ∈ xs, x.right) ∧ (xs = [] ∨ i + xs.length ≤ 4096) ∧ (chk i p xs).1 = i + xs.length ∧ (match xs with | [] => True | x :: r => (0 < i → x.fr = p) ∧ Chain x.to r)
  | [], i, p, _ => by simp [chk]
  | x :: r, i, p, h => by
    rw [chk] at h ⊢
    by_cases h1 : 4096 ≤ i
    · rw [if_pos h1] at h; simp at h
    rw [if_neg h1] at h ⊢
    by_cases h2 : x.bad = true
    · rw [if_pos h2] at h; simp at h
    rw [if_neg h2] at h ⊢
    by_cases h3 : 0 < i ∧ x.fr ≠ p
    · rw [if_pos h3] at h; simp at h
    rw [if_neg h3] at h ⊢
    obtain ⟨k1, k2, k3, k4⟩ := chk_ok r (i + 1) x.to h
    refine ⟨fun y hy => ?_, ?_, ?_, ?_, ?_⟩
    · rcases List.mem_cons.1 hy with rfl | hy
      · simp [Str.bad] at h2
        exact ⟨by omega, by omega, by omega, by omega, by omega⟩
      · exact k1 y hy
    · right
      rcases k2 with rfl | k2
      · simp; omega
      · simp; omega
    · rw [k3]; simp; omega
    · intro h0
      by_cases e : x.fr = p
      · exact e
      · exact absurd ⟨h0, e⟩ h3
    · cases r with
      | nil => trivial
      | cons y r => exact ⟨k4.1 (by omega), k4.2⟩
theorem chk_len {xs : List Str} (h : (chk 0 0 xs).2 = 0) : xs.length ≤ 4096 := by
  rcases (chk_ok xs 0 0 h).2.1 with rfl | h
  · simp
  · omega

def wr (l : Lay) (xs : List Str) : Int := if l.may = true then (chk 0 0 xs).2 else 1
def usedV (l : Lay) (xs : List Str) : Int × Int := if wr l xs = 0 then (usesF (2 * l.free) xs, 0) else (0, wr l xs)
theorem wr_ok {l : Lay} {xs : List Str} (h : wr l xs = 0) : l.may = true ∧ (chk 0 0 xs).2 = 0 := by
  unfold wr at h
  by_cases hm : l.may = true
  · rw [if_pos hm] at h; exact ⟨hm, h⟩
  · rw [if_neg hm] at h; cases h

theorem uses_any (l : Lay) (hl : l.may = true) (A : Option Addr) (n c : Nat) (xs : List Str) (w : World) (hx : SliceOf w 3 Str.cells A n xs) (hm : n ≤ 4096) (hr : ∀ x ∈ xs, x.right) :
    Calls Try.prog 46 #[.agg #[.int .i64 l.free, .int .i64 l.late, .int .i64 l.soon], .slice A n c] w fun e w' => e = .returned (.int .i64 (usesF (2 * l.free) xs)) ∧ Below w.heap.size w w' := by
  rcases hx.cells with rfl | ⟨b, off, rfl, hb, hc⟩
  · obtain rfl : xs = [] := List.eq_nil_of_length_eq_zero hx.len
    have hf : 0 ≤ l.free ∧ l.free ≤ 1048576 := by simp [Lay.may] at hl; omega
    obtain ⟨hf0, hf1⟩ := hf
    clear hl
    go_enter Try.func46, Try.ntmps46
    go_wp2_with (go_at_call 65; refine (along_any _ _ hf0 hf1).mono ?_; rintro e w' ⟨rfl, rfl⟩)
    go_loopw [6, 16] (fun s i wr => i = .int .i64 0 ∧ s = .int .i64 0 ∧ Below w.heap.size w wr) (fun _ i _ => 0)
    case atStart => exact ⟨rfl, rfl, ((Below.refl _ _).alloc (Nat.le_refl _) _).alloc (by simp) _⟩
    case round =>
      obtain ⟨rfl, rfl, hbel⟩ := hrel
      go_wp2
      go_ret
      exact ⟨rfl, hbel⟩
  · exact uses_pos l hl b off n c xs w hx.len hm hb hr hc

theorem ret_one {k : IntKind} {a b : Int} (h : a = b) : Ending.returned (.int k a) = .returned (.int k b) := by rw [h]

theorem wrong_any (l : Lay) (A : Option Addr) (n c : Nat) (xs : List Str) (w : World) (hx : SliceOf w 3 Str.cells A n xs) (hm : n ≤ maxLen) :
    Calls Try.prog 47 #[.agg #[.int .i64 l.free, .int .i64 l.late, .int .i64 l.soon], .slice A n c] w fun e w' => e = .returned (.int .i64 (wr l xs)) ∧ Below w.heap.size w w' := by
  have hx1 : ∀ w', Below w.heap.size w w' → SliceOf w' 3 Str.cells A n xs := fun w' hb => hx.below hb
  have H1 := Lib.hid hx1
  clear hx1
  by_cases hl : l.may = true
  · have e : wr l xs = (chk 0 0 xs).2 := by unfold wr; rw [if_pos hl]
    rw [e]
    go_enter Try.func47, Try.ntmps47
    go_wp2_with (first
      | (go_at_call 66; refine (may_any l _).mono ?_; rintro e w1 ⟨rfl, hb1⟩; have hB1 : Below w.heap.size w w1 := ((Below.refl _ _).alloc (Nat.le_refl _) _).trans (hb1.mono (by simp)))
      | (go_at_call 67; refine (check_any _ _ _ xs _ (H1.out _ hB1) hm).mono ?_; rintro e w2 ⟨rfl, hb2⟩))
    go_ret
    exact ⟨rfl, hB1.trans (hb2.mono hB1.size)⟩
  · have hl' : l.may = false := by simpa using hl
    have e : wr l xs = 1 := by unfold wr; rw [if_neg hl]
    rw [e]
    clear hl e
    go_enter Try.func47, Try.ntmps47
    go_wp2_with (go_at_call 66; refine (may_any l _).mono ?_; rintro e w1 ⟨rfl, hb1⟩)
    go_ret
    exact ⟨rfl, ((Below.refl _ _).alloc (Nat.le_refl _) _).trans (hb1.mono (by simp))⟩

theorem used_any (l : Lay) (A : Option Addr) (n c : Nat) (xs : List Str) (w : World) (hx : SliceOf w 3 Str.cells A n xs) (hm : n ≤ maxLen) :
    Calls Try.prog 25 #[.agg #[.int .i64 l.free, .int .i64 l.late, .int .i64 l.soon], .slice A n c] w fun e w' => e = .returned (.tuple #[.int .i64 (usedV l xs).1, .int .i64 (usedV l xs).2]) ∧ Below w.heap.size w w' := by
  have hx1 : ∀ w', Below w.heap.size w w' → SliceOf w' 3 Str.cells A n xs := fun w' hb => hx.below hb
  have H1 := Lib.hid hx1
  clear hx1
  have hB0 : Below w.heap.size w (w.alloc (.cells #[.int .i64 l.free, .int .i64 l.late, .int .i64 l.soon] 73)) := (Below.refl _ _).alloc (Nat.le_refl _) _
  by_cases hw : wr l xs = 0
  · obtain ⟨hl, hk⟩ := wr_ok hw
    have e : usedV l xs = (usesF (2 * l.free) xs, 0) := by unfold usedV; rw [if_pos hw]
    have hlen := chk_len hk
    have hr := (chk_ok xs 0 0 hk).1
    have hn : n ≤ 4096 := by rw [← hx.len]; exact hlen
    have HL := Lib.hid hl
    have HR := Lib.hid hr
    have HW := Lib.hid hw
    rw [e]
    clear e hl hk hr hlen hw
    go_enter Try.func25, Try.ntmps25
    go_wp2_with (first
      | (go_at_call 47; refine (wrong_any l _ _ _ xs _ (H1.out _ hB0) hm).mono ?_; rw [HW.out]; rintro e w1 ⟨rfl, hb1⟩; have hB1 : Below w.heap.size w w1 := hB0.trans (hb1.mono (by simp)); obtain ⟨q1, q2⟩ := bcell hb1)
      | (go_at_call 46; refine (uses_any l HL.out _ _ _ xs _ (H1.out _ hB1) hn HR.out).mono ?_; rintro e w2 ⟨rfl, hb2⟩))
    go_ret2
    exact ⟨rfl, hB1.trans (hb2.mono hB1.size)⟩
  · have e : usedV l xs = (0, wr l xs) := by unfold usedV; rw [if_neg hw]
    have hw' : (wr l xs != 0) = true := by simp [hw]
    rw [e]
    clear e hw
    go_enter Try.func25, Try.ntmps25
    go_wp2_with (go_at_call 47; refine (wrong_any l _ _ _ xs _ (H1.out _ hB0) hm).mono ?_; rintro e w1 ⟨rfl, hb1⟩)
    go_ret2
    exact ⟨rfl, hB0.trans (hb1.mono (by simp))⟩
end Go.Proofs.Ytlicmhgpldmliaa
