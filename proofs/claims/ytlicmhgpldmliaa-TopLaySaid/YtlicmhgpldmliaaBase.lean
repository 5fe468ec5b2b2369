/- The plain words of chapter 46 and the contracts of the small functions. No condition. -/
import Derived.Test.YtlicmhgpldmliaaKit
namespace Go.Proofs.Ytlicmhgpldmliaa
open Go.RowKit Go.Proofs.Ytlicmhgpldmliaa.kit
set_option linter.unusedVariables false

structure Lay where
  free : Int
  late : Int
  soon : Int
structure Str where
  fr : Int
  to : Int
  ha : Int
def Lay.cells (l : Lay) : List Value := [.int .i64 l.free, .int .i64 l.late, .int .i64 l.soon]
def Str.cells (s : Str) : List Value := [.int .i64 s.fr, .int .i64 s.to, .int .i64 s.ha]
def Lay.wf (l : Lay) : Prop := I64 l.free ∧ I64 l.late ∧ I64 l.soon
def Str.wf (s : Str) : Prop := I64 s.fr ∧ I64 s.to ∧ I64 s.ha

def Lay.may (l : Lay) : Bool := decide (0 ≤ l.free ∧ l.free ≤ 1048576 ∧ 0 ≤ l.late ∧ l.late ≤ 1099511627776 ∧ 0 ≤ l.soon ∧ l.soon ≤ 1099511627776)

set_option maxHeartbeats 400000 in
theorem may_any (l : Lay) (w : World) : Calls Try.prog 66 #[.agg #[.int .i64 l.free, .int .i64 l.late, .int .i64 l.soon]] w fun e w' => e = .returned (.bool l.may) ∧ Below w.heap.size w w' := by
  obtain ⟨a, b, c⟩ := l
  go_enter Try.func66, Try.ntmps66
  go_wp2
  all_goals go_ret
  all_goals exact ⟨ret_bool (by rw [Bool.eq_iff_iff]; simp [Lay.may] <;> omega), (Below.refl _ _).alloc (Nat.le_refl _) _⟩

def Str.bad (x : Str) : Bool := decide (x.fr < 0 ∨ x.to ≤ x.fr ∨ 1048576 < x.to ∨ x.ha < 0 ∨ 2 < x.ha)
def chk : Nat → Int → List Str → Int × Int
  | i, _, [] => (i, 0)
  | i, p, x :: r => if 4096 ≤ i then (i, 7) else if x.bad = true then (i, 1) else if 0 < i ∧ x.fr ≠ p then (i, 6) else chk (i + 1) x.to r

theorem chk_step {k : Nat} {p : Int} {xs : List Str} {f t h : Int} (hx : xs[k]? = some ⟨f, t, h⟩) :
    chk k p (xs.drop k) = if 4096 ≤ k then ((k : Int), 7) else if (Str.mk f t h).bad = true then ((k : Int), 1) else if 0 < k ∧ f ≠ p then ((k : Int), 6) else chk (k + 1) t (xs.drop (k + 1)) := by
  obtain ⟨hk, hx⟩ := List.getElem?_eq_some_iff.1 hx
  rw [List.drop_eq_getElem_cons hk, hx]
  rfl

set_option maxRecDepth 100000 in
set_option maxHeartbeats 1000000 in
theorem check_pos (b off n c : Nat) (xs : List Str) (w : World) (hl : xs.length = n) (hm : n ≤ maxLen) (hb : b < w.heap.size)
    (hc : ∀ i x, xs[i]? = some x → ∀ j v, x.cells[j]? = some v → w.cell? ⟨b, off + (i * 3 + j), none⟩ = some v) :
    Calls Try.prog 67 #[.slice (some ⟨b, off, none⟩) n c] w fun e w' => e = .returned (.tuple #[.int .i64 (chk 0 0 xs).1, .int .i64 (chk 0 0 xs).2]) ∧ Below w.heap.size w w' := by
  unfold maxLen at hm
  go_enter Try.func67, Try.ntmps67
  go_wp2
  go_loopw [8] (fun i wr => ∃ (k : Nat) (p : Int), k ≤ n ∧ i = .int .i64 k ∧ Below w.heap.size w wr ∧ Hid (chk k p (xs.drop k) = chk 0 0 xs) ∧ Hid (0 < k → ∃ y, xs[k - 1]? = some y ∧ p = y.to)) (fun i _ => n - (intOf i).toNat)
  case atStart => exact ⟨0, 0, Nat.zero_le _, rfl, Below.refl _ _, rfl, fun h => absurd h (by omega)⟩
  case round =>
    obtain ⟨k, p, hk, rfl, hbel, hchk, hp⟩ := hrel
    by_cases hlt : k < n
    · obtain ⟨⟨f, t, h⟩, hx⟩ : ∃ x, xs[k]? = some x := ⟨_, List.getElem?_eq_getElem (by omega)⟩
      have hbr : b < wr.heap.size := Nat.lt_of_lt_of_le hb hbel.size
      have c0 : wr.cell? ⟨b, off + k * 3, none⟩ = some (.int .i64 f) := (hbel.cell hb).trans (hc k _ hx 0 _ rfl)
      have c1 : wr.cell? ⟨b, off + k * 3 + 1, none⟩ = some (.int .i64 t) := (hbel.cell hb).trans (hc k _ hx 1 _ rfl)
      have c2 : wr.cell? ⟨b, off + k * 3 + 2, none⟩ = some (.int .i64 h) := (hbel.cell hb).trans (hc k _ hx 2 _ rfl)
      have hs : Hid (chk 0 0 xs = _) := hchk.out.symm.trans (chk_step hx)
      have hX : Hid (xs[k]? = some ⟨f, t, h⟩) := hx
      clear hchk hx
      by_cases hfull : 4096 ≤ k
      · go_wp2
        go_ret2
        exact ⟨ret_pair (by rw [hs.out, if_pos hfull]), hbel.alloc hbel.size _⟩
      by_cases hbad : (Str.mk f t h).bad = true
      · have hbad' : f < 0 ∨ t ≤ f ∨ 1048576 < t ∨ h < 0 ∨ 2 < h := by simpa [Str.bad] using hbad
        have hB : Hid ((Str.mk f t h).bad = true) := hbad
        clear hbad
        go_wp2
        all_goals go_ret2
        all_goals exact ⟨ret_pair (by rw [hs.out, if_neg hfull, if_pos hB.out]), hbel.alloc hbel.size _⟩
      · have hg : 0 ≤ f ∧ f < t ∧ t ≤ 1048576 ∧ 0 ≤ h ∧ h ≤ 2 := by
          simp [Str.bad] at hbad; omega
        obtain ⟨g0, g1, g2, g3, g4⟩ := hg
        have hB : Hid (¬ (Str.mk f t h).bad = true) := hbad
        clear hbad
        have hnext : ¬ (0 < k ∧ f ≠ p) → Hid (chk (k + 1) t (xs.drop (k + 1)) = chk 0 0 xs) := fun h => by
          have := hs.out
          rw [if_neg hfull, if_neg hB.out, if_neg h] at this
          exact this.symm
        have hpn : Hid (0 < k + 1 → ∃ y, xs[k + 1 - 1]? = some y ∧ t = y.to) := fun _ => ⟨_, hX.out, rfl⟩
        have HN := Lib.hid hnext
        clear hnext
        go_wp2
        by_cases h0 : 0 < k
        · obtain ⟨⟨yf, yt, yh⟩, hy, hpy⟩ := hp.out h0
          have c3 : wr.cell? ⟨b, off + (k - 1) * 3 + 1, none⟩ = some (.int .i64 yt) := (hbel.cell hb).trans (hc (k - 1) _ hy 1 _ rfl)
          have hP : Hid (p = yt) := hpy
          have h0' : decide ((0 : Int) < (k : Int)) = true := by simp; omega
          clear hp hy hpy
          by_cases he : f = yt
          · have he' : (f != yt) = false := by simp [he]
            have hE : Hid (f = yt) := he
            clear he
            go_quiet (fail)
            go_wp2
            go_roundw
            case rel => exact ⟨k + 1, t, by omega, by go_num, below_drewN (hbel.alloc hbel.size _) _, HN.out (fun h => h.2 (by rw [hP.out]; exact hE.out)), hpn⟩
            case measure => simp [intOf]; omega
          · have he' : (f != yt) = true := by simp [he]
            have hE : Hid (¬ f = yt) := he
            clear he
            go_quiet (fail)
            go_wp2
            go_ret2
            exact ⟨ret_pair (by rw [hs.out, if_neg hfull, if_neg hB.out, if_pos ⟨h0, by rw [hP.out]; exact hE.out⟩]), below_drewN (hbel.alloc hbel.size _) _⟩
        · have h0' : decide ((0 : Int) < (k : Int)) = false := by simp; omega
          go_quiet (fail)
          go_wp2
          go_roundw
          case rel => exact ⟨k + 1, t, by omega, by go_num, below_drewN (hbel.alloc hbel.size _) _, HN.out (fun h => h0 h.1), hpn⟩
          case measure => simp [intOf]; omega
    · go_wp2
      go_ret2
      have hkn : k = n := by omega
      exact ⟨ret_pair (by rw [← hchk.out, List.drop_eq_nil_of_le (by omega)]; rw [hkn]; rfl), hbel⟩

set_option maxHeartbeats 400000 in
theorem check_any (A : Option Addr) (n c : Nat) (xs : List Str) (w : World) (hx : SliceOf w 3 Str.cells A n xs) (hm : n ≤ maxLen) :
    Calls Try.prog 67 #[.slice A n c] w fun e w' => e = .returned (.tuple #[.int .i64 (chk 0 0 xs).1, .int .i64 (chk 0 0 xs).2]) ∧ Below w.heap.size w w' := by
  rcases hx.cells with rfl | ⟨b, off, rfl, hb, hc⟩
  · obtain rfl : xs = [] := List.eq_nil_of_length_eq_zero hx.len
    go_enter Try.func67, Try.ntmps67
    go_wp2
    go_loopw [8] (fun i wr => i = .int .i64 0 ∧ Below w.heap.size w wr) (fun i _ => 0)
    case atStart => exact ⟨rfl, Below.refl _ _⟩
    case round =>
      obtain ⟨rfl, hbel⟩ := hrel
      go_wp2
      go_ret2
      exact ⟨rfl, hbel⟩
  · exact check_pos b off n c xs w hx.len hm hb hc
end Go.Proofs.Ytlicmhgpldmliaa
