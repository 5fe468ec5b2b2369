/- Contracts of the reference's functions of chapter 46 that read alone. No condition. -/
import Derived.Test.YtfjanoimhkddbaaBase
namespace Go.Proofs.Ytfjanoimhkddbaa
open Go.RowKit Go.Proofs.Ytfjanoimhkddbaa.kit
set_option linter.unusedVariables false

set_option maxHeartbeats 400000 in
theorem rmay_any (l : Lay) (w : World) : Calls Try.prog 15 #[.agg #[.int .i64 l.free, .int .i64 l.late, .int .i64 l.soon]] w fun e w' => e = .returned (.bool l.may) ∧ Below w.heap.size w w' := by
  obtain ⟨a, b, c⟩ := l
  go_enter Try.func15, Try.ntmps15
  go_wp2
  all_goals go_ret
  all_goals exact ⟨ret_bool (by rw [Bool.eq_iff_iff]; simp [Lay.may] <;> omega), (Below.refl _ _).alloc (Nat.le_refl _) _⟩

set_option maxRecDepth 100000 in
set_option maxHeartbeats 1000000 in
theorem rcheck_pos (b off n c : Nat) (xs : List Str) (w : World) (hl : xs.length = n) (hm : n ≤ maxLen) (hb : b < w.heap.size)
    (hc : ∀ i x, xs[i]? = some x → ∀ j v, x.cells[j]? = some v → w.cell? ⟨b, off + (i * 3 + j), none⟩ = some v) :
    Calls Try.prog 12 #[.slice (some ⟨b, off, none⟩) n c] w fun e w' => e = .returned (.tuple #[.int .i64 (chk 0 0 xs).1, .int .i64 (chk 0 0 xs).2]) ∧ Below w.heap.size w w' := by
  unfold maxLen at hm
  go_enter Try.func12, Try.ntmps12
  go_wp2
  go_loopw [4] (fun i wr => ∃ (k : Nat) (p : Int), k ≤ n ∧ i = .int .i64 k ∧ Below w.heap.size w wr ∧ Hid (chk k p (xs.drop k) = chk 0 0 xs) ∧ Hid (0 < k → ∃ y, xs[k - 1]? = some y ∧ p = y.to)) (fun i _ => n - (intOf i).toNat)
  case atStart => exact ⟨0, 0, Nat.zero_le _, rfl, Below.refl _ _, rfl, fun h => absurd h (by omega)⟩
  case round =>
    obtain ⟨k, p, hk, rfl, hbel, hchk, hp⟩ := hrel
    by_cases hlt : k < n
    · obtain ⟨⟨f, t, h⟩, hx⟩ : ∃ x, xs[k]? = some x := ⟨_, List.getElem?_eq_getElem (by omega)⟩
      have hbr : b < wr.heap.size := Nat.lt_of_lt_of_le hb hbel.size
      have c0 : wr.cell? ⟨b, off + k * 3, none⟩ = some (.int .i64 f) := (hbel.cell hb).trans (hc k _ hx 0 _ rfl)
      have c1 : wr.cell? ⟨b, off + k * 3 + 1, none⟩ = some (.int .i64 t) := (hbel.cell hb).trans (hc k _ hx 1 _ rfl)
      have c2 : wr.cell? ⟨b, off + k * 3 + 2, none⟩ = some (.int .i64 h) := (hbel.cell hb).trans (hc k _ hx 2 _ rfl)
      have hs : Hid (chk 0 0 xs = _) := hchk.out.symm.trans (chk_step hx)
      have hX : Hid (xs[k]? = some ⟨f, t, h⟩) := hx
      clear hchk hx
      have hkn : (k : Int) < (n : Int) := by omega
      have hk0 : (0 : Int) ≤ (k : Int) := by omega
      by_cases hfull : 4096 ≤ k
      · go_wp2
        go_ret2
        exact ⟨ret_pair (by rw [hs.out, if_pos hfull]), hbel⟩
      go_wp2
      have hend : (Str.mk f t h).bad = true → Hid ((chk 0 0 xs) = (↑k, 1)) := fun hB => by
        show chk 0 0 xs = _
        rw [hs.out, if_neg hfull, if_pos hB]
      have HE := Lib.hid hend
      clear hend
      obtain ⟨b0, d0⟩ : ∃ b, decide (f < 0) = b := ⟨_, rfl⟩
      obtain ⟨b1, d1⟩ : ∃ b, decide (t ≤ f) = b := ⟨_, rfl⟩
      obtain ⟨b2, d2⟩ : ∃ b, decide (1048576 < t) = b := ⟨_, rfl⟩
      obtain ⟨b3, d3⟩ : ∃ b, decide (h < 0) = b := ⟨_, rfl⟩
      obtain ⟨b4, d4⟩ : ∃ b, decide (2 < h) = b := ⟨_, rfl⟩
      have HB : Hid ((Str.mk f t h).bad = (b0 || b1 || b2 || b3 || b4)) := by
        show _ = _
        rw [← d0, ← d1, ← d2, ← d3, ← d4, Bool.eq_iff_iff]
        simp [Str.bad, or_assoc]
      cases b0
      case true =>
        go_quiet (fail)
        go_wp2
        go_ret2
        exact ⟨ret_pair (HE.out (by rw [HB.out]; rfl)).out, below_drewN hbel _⟩
      cases b1
      case true =>
        go_quiet (fail)
        go_wp2
        go_ret2
        exact ⟨ret_pair (HE.out (by rw [HB.out]; rfl)).out, below_drewN hbel _⟩
      cases b2
      case true =>
        go_quiet (fail)
        go_wp2
        go_ret2
        exact ⟨ret_pair (HE.out (by rw [HB.out]; rfl)).out, below_drewN hbel _⟩
      cases b3
      case true =>
        go_quiet (fail)
        go_wp2
        go_ret2
        exact ⟨ret_pair (HE.out (by rw [HB.out]; rfl)).out, below_drewN hbel _⟩
      cases b4
      case true =>
        go_quiet (fail)
        go_wp2
        go_ret2
        exact ⟨ret_pair (HE.out (by rw [HB.out]; rfl)).out, below_drewN hbel _⟩
      go_quiet (fail)
      go_wp2
      have hB : Hid (¬ (Str.mk f t h).bad = true) := by
        show ¬ _
        rw [HB.out]; simp
      have hnext : ¬ (0 < k ∧ f ≠ p) → Hid (chk (k + 1) t (xs.drop (k + 1)) = chk 0 0 xs) := fun h => by
        have := hs.out
        rw [if_neg hfull, if_neg hB.out, if_neg h] at this
        exact this.symm
      have hpn : Hid (0 < k + 1 → ∃ y, xs[k + 1 - 1]? = some y ∧ t = y.to) := fun _ => ⟨_, hX.out, rfl⟩
      have HN := Lib.hid hnext
      clear hnext
      by_cases h0 : 0 < k
      · obtain ⟨⟨yf, yt, yh⟩, hy, hpy⟩ := hp.out h0
        have c3 : wr.cell? ⟨b, off + (k - 1) * 3 + 1, none⟩ = some (.int .i64 yt) := (hbel.cell hb).trans (hc (k - 1) _ hy 1 _ rfl)
        have hP : Hid (p = yt) := hpy
        have h0' : decide ((0 : Int) < (k : Int)) = true := by simp; omega
        clear hp hy hpy
        by_cases he : f = yt
        · have he' : (f != yt) = false := by simp [he]
          have hE : Hid (f = yt) := he
          clear he
          refine wp_region_quiet_lit (by kernel_rfl) (by kernel_rfl) ?_
          repeat (go_big_quiet_step (fail))
          refine wpQuiet_nil ?_
          intro _ hw'
          obtain ⟨nq', hw''⟩ := hw'
          subst hw''
          go_wp2
          go_roundw
          case rel => exact ⟨k + 1, t, by omega, by go_num, below_drewN hbel _, HN.out (fun h => h.2 (by rw [hP.out]; exact hE.out)), hpn⟩
          case measure => simp [intOf]; omega
        · have he' : (f != yt) = true := by simp [he]
          have hE : Hid (¬ f = yt) := he
          clear he
          go_quiet (fail)
          go_wp2
          go_ret2
          exact ⟨ret_pair (by rw [hs.out, if_neg hfull, if_neg hB.out, if_pos ⟨h0, by rw [hP.out]; exact hE.out⟩]), by first | exact below_drewN hbel _ | exact below_drewN (below_drewN hbel _) _⟩
      · have h0' : decide ((0 : Int) < (k : Int)) = false := by simp; omega
        go_quiet (fail)
        go_wp2
        go_roundw
        case rel => exact ⟨k + 1, t, by omega, by go_num, below_drewN hbel _, HN.out (fun h => h0 h.1), hpn⟩
        case measure => simp [intOf]; omega
    · go_wp2
      go_ret2
      have hkn : k = n := by omega
      exact ⟨ret_pair (by rw [← hchk.out, List.drop_eq_nil_of_le (by omega)]; rw [hkn]; rfl), hbel⟩

set_option maxHeartbeats 400000 in
theorem rcheck_any (A : Option Addr) (n c : Nat) (xs : List Str) (w : World) (hx : SliceOf w 3 Str.cells A n xs) (hm : n ≤ maxLen) :
    Calls Try.prog 12 #[.slice A n c] w fun e w' => e = .returned (.tuple #[.int .i64 (chk 0 0 xs).1, .int .i64 (chk 0 0 xs).2]) ∧ Below w.heap.size w w' := by
  rcases hx.cells with rfl | ⟨b, off, rfl, hb, hc⟩
  · obtain rfl : xs = [] := List.eq_nil_of_length_eq_zero hx.len
    go_enter Try.func12, Try.ntmps12
    go_wp2
    go_loopw [4] (fun i wr => i = .int .i64 0 ∧ Below w.heap.size w wr) (fun i _ => 0)
    case atStart => exact ⟨rfl, Below.refl _ _⟩
    case round =>
      obtain ⟨rfl, hbel⟩ := hrel
      go_wp2
      go_ret2
      exact ⟨rfl, hbel⟩
  · exact rcheck_pos b off n c xs w hx.len hm hb hc

theorem all_any (w : World) : Calls Try.prog 17 #[] w fun e w' => e = .returned (.int .i64 1048577) ∧ w' = w := by
  go_enter Try.func17, Try.ntmps17
  go_wp2
  go_ret
  exact ⟨rfl, rfl⟩
end Go.Proofs.Ytfjanoimhkddbaa
