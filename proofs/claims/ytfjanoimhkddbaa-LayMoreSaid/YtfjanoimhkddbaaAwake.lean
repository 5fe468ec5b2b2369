/- Whether stretches are long; when the lay expires, whatever the stretches; the chapter's example. No condition. -/
import Derived.Test.YtfjanoimhkddbaaExp
namespace Go.Proofs.Ytfjanoimhkddbaa
open Go.RowKit Go.Proofs.Ytfjanoimhkddbaa.kit
set_option linter.unusedVariables false

set_option maxHeartbeats 400000 in
theorem exp_any (l : Lay) (A : Option Addr) (n c : Nat) (xs : List Str) (w : World) (hx : SliceOf w 3 Str.cells A n xs) (hm : n ≤ maxLen) :
    Calls Try.prog 22 #[.agg #[.int .i64 l.free, .int .i64 l.late, .int .i64 l.soon], .slice A n c] w fun e w' => e = .returned (.tuple #[.int .i64 (expV l xs).1, .bool (expV l xs).2]) ∧ Below w.heap.size w w' := by
  have hB0 : Below w.heap.size w (w.alloc (.cells #[.int .i64 l.free, .int .i64 l.late, .int .i64 l.soon] 23)) := (Below.refl _ _).alloc (Nat.le_refl _) _
  by_cases hw : wr l xs = 0
  · rcases hx.cells with rfl | ⟨b, off, rfl, hb, hc⟩
    · obtain rfl : xs = [] := List.eq_nil_of_length_eq_zero hx.len
      have e : expV l [] = (0, false) := by unfold expV; rw [if_pos hw]; rfl
      have HX := Lib.hid hx
      have HW := Lib.hid hw
      rw [e]
      clear e hx hw
      go_enter Try.func22, Try.ntmps22
      go_wp2_with (go_at_call 26; refine (wrong_any l _ _ _ [] _ (HX.out.below hB0) hm).mono ?_; rw [HW.out]; rintro e w1 ⟨rfl, hb1⟩)
      go_ret2
      exact ⟨rfl, hB0.trans (hb1.mono (by simp))⟩
    · have hk := (wr_ok hw).2
      have hlen := chk_len hk
      have e : expV l xs = optV (expF (2 * l.free) (2 * l.free) 0 xs) := by unfold expV; rw [if_pos hw]
      rw [e]
      rcases Nat.eq_zero_or_pos n with rfl | hn
      · obtain rfl : xs = [] := List.eq_nil_of_length_eq_zero hx.len
        have HX := Lib.hid hx
        have HW := Lib.hid hw
        have e : optV (expF (2 * l.free) (2 * l.free) 0 []) = (0, false) := rfl
        rw [e]
        clear e hx hw hc
        go_enter Try.func22, Try.ntmps22
        go_wp2_with (go_at_call 26; refine (wrong_any l _ _ _ [] _ (HX.out.below hB0) hm).mono ?_; rw [HW.out]; rintro e w1 ⟨rfl, hb1⟩)
        go_ret2
        exact ⟨rfl, hB0.trans (hb1.mono (by simp))⟩
      · exact exp_ok l b off n c xs hw w hx.len hn (by rw [← hx.len]; exact hlen) hb hx hc
  · have e : expV l xs = (0, false) := by unfold expV; rw [if_neg hw]
    have hw' : (wr l xs != 0) = true := by simp [hw]
    have HX := Lib.hid hx
    rw [e]
    clear e hw hx
    go_enter Try.func22, Try.ntmps22
    go_wp2_with (go_at_call 26; refine (wrong_any l _ _ _ xs _ (HX.out.below hB0) hm).mono ?_; rintro e w1 ⟨rfl, hb1⟩)
    go_ret2
    exact ⟨rfl, hB0.trans (hb1.mono (by simp))⟩

/-- Do right stretches go over more hours than so many? -/
def firstFr (xs : List Str) : Int := (xs.head?.map Str.fr).getD 0
def lastTo (xs : List Str) : Int := (xs.getLast?.map Str.to).getD 0
def long (xs : List Str) (most : Int) : Bool := decide ((chk 0 0 xs).2 = 0 ∧ 0 < xs.length ∧ most < lastTo xs - firstFr xs)

set_option maxHeartbeats 400000 in
theorem long_any (most : Int) (hmost : 0 ≤ most ∧ most ≤ 1048576) (A : Option Addr) (n c : Nat) (xs : List Str) (w : World) (hx : SliceOf w 3 Str.cells A n xs) (hm : n ≤ maxLen) :
    Calls Try.prog 10 #[.slice A n c, .int .i64 most] w fun e w' => e = .returned (.bool (long xs most)) ∧ Below w.heap.size w w' := by
  obtain ⟨o0, o1⟩ := hmost
  have HX := Lib.hid hx
  by_cases hk : (chk 0 0 xs).2 = 0
  · have hk' : ((chk 0 0 xs).2 == 0) = true := by simp [hk]
    rcases Nat.eq_zero_or_pos n with rfl | hn
    · obtain rfl : xs = [] := List.eq_nil_of_length_eq_zero hx.len
      have e : long [] most = false := by simp [long]
      rw [e]
      clear e hk hx
      go_enter Try.func10, Try.ntmps10
      go_wp2_with (go_at_call 12; refine (rcheck_any _ _ _ [] _ HX.out hm).mono ?_; rintro e w1 ⟨rfl, hb1⟩)
      go_quiet (fail)
      go_wp2
      go_ret
      exact ⟨rfl, below_drewN hb1 _⟩
    · obtain ⟨b, off, rfl, hb, hc⟩ := hx.at_ hn
      have hl := hx.len
      obtain ⟨f, t, h, hx0, _, _, _, _⟩ := elem_at hl hb hc (Below.refl _ _) hn
      obtain ⟨f', t', h', hx1, _, _, _, _⟩ := elem_at (k := n - 1) hl hb hc (Below.refl _ _) (by omega)
      have hR := (chk_ok xs 0 0 hk).1
      have hlen := chk_len hk
      obtain ⟨g0, g1, g2, _, _⟩ : Str.right ⟨f, t, h⟩ := hR _ (List.mem_of_getElem? hx0)
      obtain ⟨g5, g6, g7, _, _⟩ : Str.right ⟨f', t', h'⟩ := hR _ (List.mem_of_getElem? hx1)
      simp only at g0 g1 g2 g5 g6 g7
      have e : long xs most = decide (most < t' - f) := by
        have e1 : firstFr xs = f := by unfold firstFr; rw [List.head?_eq_getElem?, hx0]; rfl
        have e2 : lastTo xs = t' := by unfold lastTo; rw [List.getLast?_eq_getElem?, hl, hx1]; rfl
        unfold long
        rw [e1, e2, Bool.eq_iff_iff]
        simp only [decide_eq_true_eq]
        omega
      have c0 : w.cell? ⟨b, off, none⟩ = some (.int .i64 f) := by simpa using hc 0 _ hx0 0 _ rfl
      have c1 : w.cell? ⟨b, off + (n - 1) * 3 + 1, none⟩ = some (.int .i64 t') := hc _ _ hx1 1 _ rfl
      have hn4 : n ≤ 4096 := by rw [← hl]; exact hlen
      have hn1 : (0 : Int) < (n : Int) := by omega
      have hn1' : decide ((0 : Int) < (n : Int)) = true := by simp; omega
      have hn2 : (0 : Int) ≤ (n : Int) - 1 := by omega
      have hn3 : (n : Int) - 1 < (n : Int) := by omega
      rw [e]
      clear e hk hx hc hx0 hx1 hR hlen hl
      go_enter Try.func10, Try.ntmps10
      go_wp2_with (go_at_call 12; refine (rcheck_any _ _ _ xs _ HX.out hm).mono ?_; rintro e w1 ⟨rfl, hb1⟩; have q0 := (hb1.cell hb).trans c0; have q1 := (hb1.cell hb).trans c1)
      go_quiet (fail)
      go_wp2
      go_ret
      exact ⟨rfl, below_drewN hb1 _⟩
  · have e : long xs most = false := by simp [long, hk]
    have hk' : ((chk 0 0 xs).2 == 0) = false := by simp [hk]
    rw [e]
    clear e hk hx
    go_enter Try.func10, Try.ntmps10
    go_wp2_with (go_at_call 12; refine (rcheck_any _ _ _ xs _ HX.out hm).mono ?_; rintro e w1 ⟨rfl, hb1⟩)
    go_quiet (fail)
    go_wp2
    go_ret
    exact ⟨rfl, below_drewN hb1 _⟩

def exl : Lay := ⟨2, 0, 0⟩
def exs : List Str := [⟨0, 3, 2⟩, ⟨3, 6, 0⟩]
theorem ex_used : usedV ⟨2, 0, 0⟩ [⟨0, 3, 2⟩, ⟨3, 6, 0⟩] = (12, 0) := by decide
theorem ex_exp : expV ⟨2, 0, 0⟩ [⟨0, 3, 2⟩, ⟨3, 6, 0⟩] = (2, true) := by decide

set_option maxHeartbeats 1000000 in
theorem awake_any (w : World) : Calls Try.prog 9 #[] w fun e w' => e = .returned (.bool true) ∧ Below w.heap.size w w' := by
  go_enter Try.func9, Try.ntmps9
  go_wp2_with fail
  refine (used_any ⟨2, 0, 0⟩ _ 2 2 [⟨0, 3, 2⟩, ⟨3, 6, 0⟩] _ (SliceOf.new _ _ _ _ (by simp) _ rfl (fun _ => rfl) rfl) (by unfold maxLen; omega)).mono ?_
  rw [ex_used]
  rintro e w1 ⟨rfl, hb1⟩
  have hB1 : Below w.heap.size w w1 := ((((((Below.refl _ _).alloc (Nat.le_refl _) _).alloc (by simp) _).alloc (by simp; omega) _).alloc (by simp; omega) _)).trans (hb1.mono (by simp; omega))
  have hz := hb1.size
  simp only [World.size_alloc] at hz
  obtain ⟨q1, q2⟩ := bcell hb1
  go_wp2_with fail
  refine (exp_any ⟨2, 0, 0⟩ _ 2 2 [⟨0, 3, 2⟩, ⟨3, 6, 0⟩] _ (SliceOf.new _ _ _ _ (by simp) _ rfl (fun _ => rfl) rfl) (by unfold maxLen; omega)).mono ?_
  rw [ex_exp]
  rintro e w2 ⟨rfl, hb2⟩
  go_wp2_with fail
  go_ret
  exact ⟨rfl, (hB1.alloc hB1.size _).trans (hb2.mono (by have := hB1.size; simp; omega))⟩
end Go.Proofs.Ytfjanoimhkddbaa
