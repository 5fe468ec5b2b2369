/- The reference's hour of expiry. No condition. -/
import Derived.Test.YtfjanoimhkddbaaMoney
namespace Go.Proofs.Ytfjanoimhkddbaa
open Go.RowKit Go.Proofs.Ytfjanoimhkddbaa.kit
set_option linter.unusedVariables false

theorem getLast_of : ∀ (x : Str) (r : List Str), ∃ y, (x :: r)[r.length]? = some y ∧ y.to = lastOf x r
  | x, [] => ⟨x, rfl, rfl⟩
  | x, y :: r => by
    obtain ⟨z, h1, h2⟩ := getLast_of y r
    exact ⟨z, by simpa using h1, h2⟩
theorem rexp_step {F h : Int} {xs : List Str} {c : Nat} {all : Option Int} (hs : rexp F xs (c + 1) h = all) : (if F ≤ rused F h xs 0 then some h else rexp F xs c (h + 1)) = all := hs

theorem hours_top (F ha : Int) (h2 : 0 ≤ ha) (h3 : ha ≤ 2) : ∀ (c : Nat) (n : Int), 0 ≤ n → 0 ≤ hours F ha c n ∧ hours F ha c n ≤ n + 2 * c
  | 0, n, h => by simp [hours]; omega
  | c + 1, n, h => by
    rw [hours]
    have := hours_top F ha h2 h3 c (if F ≤ n then n + 2 else n + ha) (by split <;> omega)
    split at this <;> split <;> omega

set_option maxRecDepth 100000 in
set_option maxHeartbeats 1000000 in
theorem rexp_ok (l : Lay) (A : Option Addr) (n c : Nat) (x : Str) (r : List Str) (hw : wr l (x :: r) = 0) (w : World) (hx : SliceOf w 3 Str.cells A n (x :: r)) :
    Calls Try.prog 24 #[.agg #[.int .i64 l.free, .int .i64 l.late, .int .i64 l.soon], .slice A n c] w fun e w' => e = .returned (.tuple #[.int .i64 (optV (expF (2 * l.free) (2 * l.free) 0 (x :: r))).1, .bool (optV (expF (2 * l.free) (2 * l.free) 0 (x :: r))).2]) ∧ Below w.heap.size w w' := by
  have HX := Lib.hid hx
  have hB0 : Below w.heap.size w (w.alloc (.cells #[.int .i64 l.free, .int .i64 l.late, .int .i64 l.soon] 23)) := (Below.refl _ _).alloc (Nat.le_refl _) _
  have hk0 : Blk (w.alloc (.cells #[.int .i64 l.free, .int .i64 l.late, .int .i64 l.soon] 23)) w.heap.size 23 #[.int .i64 l.free, .int .i64 l.late, .int .i64 l.soon] := Blk.new _ _ _
  obtain ⟨hl, hk⟩ := wr_ok hw
  have hf : 0 ≤ l.free ∧ l.free ≤ 1048576 := by simp [Lay.may] at hl; omega
  obtain ⟨f0, f1⟩ := hf
  have hlen := chk_len hk
  have hg := good_chk hk
  have hn4 : n ≤ 4096 := by rw [← hx.len]; exact hlen
  have hn : n = r.length + 1 := by rw [← hx.len]; rfl
  have HU : Hid (∀ (h : Int) w', I64 h → SliceOf w' 3 Str.cells A n (x :: r) → Calls Try.prog 16 #[.agg #[.int .i64 l.free, .int .i64 l.late, .int .i64 l.soon], .slice A n c, .int .i64 h] w' fun e w'' => e = .returned (.int .i64 (rused (2 * l.free) h (x :: r) 0)) ∧ Below w'.heap.size w' w'') :=
    fun h w' hi hs => rused_any l hl h hi A n c (x :: r) w' hs hn4 (chk_ok _ 0 0 hk).1
  have HE := Lib.hid (rexp_exp (F := 2 * l.free) (by omega) x r hg)
  obtain ⟨la0, la1⟩ := good_last x r hg
  obtain ⟨x0, x1, x2, _, _⟩ := hg.1
  obtain ⟨b, off, rfl, hb, hc⟩ := hx.at_ (by omega)
  obtain ⟨y, hy, hyl⟩ := getLast_of x r
  have c0 : w.cell? ⟨b, off, none⟩ = some (.int .i64 x.fr) := by simpa using hc 0 x rfl 0 _ rfl
  have c1 : w.cell? ⟨b, off + (n - 1) * 3 + 1, none⟩ = some (.int .i64 (lastOf x r)) := by
    have := hc _ _ hy 1 _ rfl
    rw [hyl] at this
    rw [hn]
    exact this
  have hn1 : ((n : Int) == 0) = false := by simp; omega
  have hn2 : (0 : Int) ≤ (n : Int) - 1 := by omega
  have hn3 : (n : Int) - 1 < (n : Int) := by omega
  have hn5 : (0 : Int) < (n : Int) := by omega
  have HC : Hid (∃ m : Nat, (lastOf x r - x.fr + 1).toNat = m ∧ (m : Int) = lastOf x r - x.fr + 1) := ⟨_, rfl, by omega⟩
  generalize hL : lastOf x r = L at *
  have HL := Lib.hid hL
  generalize hF : x.fr = f at *
  have HF := Lib.hid hF
  clear hl hw hk hx hlen hg hn hy hyl hc hL hF
  go_enter Try.func24, Try.ntmps24
  go_wp2_with fail
  go_loopw [7] (fun i wr => ∃ (h : Int) (m : Nat), i = .int .i64 h ∧ f ≤ h ∧ h + m = L + 1 ∧ Below w.heap.size w wr ∧ Blk wr w.heap.size 23 #[.int .i64 l.free, .int .i64 l.late, .int .i64 l.soon] ∧ Hid (rexp (2 * l.free) (x :: r) m h = expF (2 * l.free) (2 * l.free) 0 (x :: r))) (fun i _ => (L + 1 - intOf i).toNat)
  case atStart =>
    obtain ⟨m, hm, hm'⟩ := HC.out
    exact ⟨f, m, rfl, Int.le_refl _, by omega, hB0, hk0, by rw [← hm]; exact HE.out⟩
  case round =>
    obtain ⟨h, m, rfl, h0, h1, hbel, hblk, hs⟩ := hrel
    clear HE HC hB0 hk0
    by_cases hlt : h ≤ L
    · obtain ⟨m, rfl⟩ : ∃ k, m = k + 1 := ⟨m - 1, by omega⟩
      have hst := rexp_step hs.out
      clear hs
      have p0 := wof_cell (hblk.cell 0)
      have p1 := wof_cell (hblk.cell 1)
      have p2 := wof_cell (hblk.cell 2)
      have HB : Hid (∀ x : BW wr, Below w.heap.size w (wof x)) := fun x => hbel.trans ((wof_below x).mono hbel.size)
      by_cases hF : 2 * l.free ≤ rused (2 * l.free) h (x :: r) 0
      · rw [if_pos hF] at hst
        have HS := Lib.hid hst
        clear hst
        go_wp2_with fail
        refine wp_region_quiet_below (by kernel_rfl) (by kernel_rfl) ?_
        repeat (go_big_quiet_step ((go_at_call 16; exact quiet_below (HU.out _ _ ⟨by omega, by omega⟩ (HX.out.below (HB.out _))))))
        refine wpQuiet_nil ?_
        intro w1 hb1
        go_wp2_with fail
        go_ret2
        exact ⟨ret_pb (by rw [← HS.out]; rfl), hbel.trans (hb1.mono hbel.size)⟩
      · rw [if_neg hF] at hst
        have HS := Lib.hid hst
        clear hst
        go_wp2_with fail
        refine wp_region_quiet_below (by kernel_rfl) (by kernel_rfl) ?_
        repeat (go_big_quiet_step ((go_at_call 16; exact quiet_below (HU.out _ _ ⟨by omega, by omega⟩ (HX.out.below (HB.out _))))))
        refine wpQuiet_nil ?_
        intro w1 hb1
        go_wp2_with fail
        go_roundw
        case rel => exact ⟨h + 1, m, rfl, by omega, by omega, hbel.trans (hb1.mono hbel.size), hblk.below hb1 hblk.lt, HS.out⟩
        case measure => simp [intOf]; omega
    · have hm0 : m = 0 := by omega
      subst hm0
      go_wp2_with fail
      go_ret2
      exact ⟨ret_pb (by rw [← hs.out]; rfl), hbel⟩
end Go.Proofs.Ytfjanoimhkddbaa
