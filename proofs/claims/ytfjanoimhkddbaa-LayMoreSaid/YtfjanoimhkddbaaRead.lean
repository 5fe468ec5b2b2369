/- The reference's count hour by hour, and whether stretches are long. No condition. -/
import Derived.Test.YtfjanoimhkddbaaMain
namespace Go.Proofs.Ytfjanoimhkddbaa
open Go.RowKit Go.Proofs.Ytfjanoimhkddbaa.kit
set_option linter.unusedVariables false

theorem elem_at {w wr : World} {b off n k : Nat} {xs : List Str} (hl : xs.length = n) (hb : b < w.heap.size)
    (hc : ∀ i x, xs[i]? = some x → ∀ j v, x.cells[j]? = some v → w.cell? ⟨b, off + (i * 3 + j), none⟩ = some v) (hbel : Below w.heap.size w wr) (hlt : k < n) :
    ∃ f t h, xs[k]? = some ⟨f, t, h⟩ ∧ b < wr.heap.size ∧ wr.cell? ⟨b, off + k * 3, none⟩ = some (.int .i64 f) ∧ wr.cell? ⟨b, off + k * 3 + 1, none⟩ = some (.int .i64 t) ∧ wr.cell? ⟨b, off + k * 3 + 2, none⟩ = some (.int .i64 h) := by
  obtain ⟨⟨f, t, h⟩, hx⟩ : ∃ x, xs[k]? = some x := ⟨_, List.getElem?_eq_getElem (by omega)⟩
  exact ⟨f, t, h, hx, Nat.lt_of_lt_of_le hb hbel.size, (hbel.cell hb).trans (hc k _ hx 0 _ rfl), (hbel.cell hb).trans (hc k _ hx 1 _ rfl), (hbel.cell hb).trans (hc k _ hx 2 _ rfl)⟩

theorem rused_step {k : Nat} {xs : List Str} {F at_ N all f t h : Int} (hx : xs[k]? = some ⟨f, t, h⟩) (hs : rused F at_ (xs.drop k) N = all) :
    rused F at_ (xs.drop (k + 1)) (hours F h ((min t at_ - f).toNat) N) = all := by
  obtain ⟨hk, hx⟩ := List.getElem?_eq_some_iff.1 hx
  rw [List.drop_eq_getElem_cons hk, hx, rused] at hs
  exact hs
theorem hours_step {F ha N all : Int} {c : Nat} (hc : 0 < c) (h : hours F ha c N = all) : hours F ha (c - 1) (if F ≤ N then N + 2 else N + ha) = all := by
  obtain ⟨d, rfl⟩ : ∃ d, c = d + 1 := ⟨c - 1, by omega⟩
  exact h

set_option maxRecDepth 100000 in
set_option maxHeartbeats 1000000 in
theorem rused_pos (l : Lay) (hl : l.may = true) (at_ : Int) (ha : I64 at_) (b off n c : Nat) (xs : List Str) (w : World) (hxl : xs.length = n) (hm : n ≤ 4096) (hb : b < w.heap.size) (hr : ∀ x ∈ xs, x.right)
    (hc : ∀ i x, xs[i]? = some x → ∀ j v, x.cells[j]? = some v → w.cell? ⟨b, off + (i * 3 + j), none⟩ = some v) :
    Calls Try.prog 16 #[.agg #[.int .i64 l.free, .int .i64 l.late, .int .i64 l.soon], .slice (some ⟨b, off, none⟩) n c, .int .i64 at_] w fun e w' => e = .returned (.int .i64 (rused (2 * l.free) at_ xs 0)) ∧ Below w.heap.size w w' := by
  have hf : 0 ≤ l.free ∧ l.free ≤ 1048576 := by simp [Lay.may] at hl; omega
  obtain ⟨hf0, hf1⟩ := hf
  obtain ⟨ha0, ha1⟩ := ha
  clear hl
  have hB0 : Below w.heap.size w (w.alloc (.cells #[.int .i64 l.free, .int .i64 l.late, .int .i64 l.soon] 23)) := (Below.refl _ _).alloc (Nat.le_refl _) _
  go_enter Try.func16, Try.ntmps16
  go_wp2
  go_loop [7, 8] (fun s i => ∃ (k : Nat) (N : Int), k ≤ n ∧ i = .int .i64 k ∧ s = .int .i64 N ∧ 0 ≤ N ∧ N ≤ k * 2097152 ∧ Hid (rused (2 * l.free) at_ (xs.drop k) N = rused (2 * l.free) at_ xs 0)) (fun _ i => n - (intOf i).toNat)
  case atStart => exact ⟨0, 0, Nat.zero_le _, rfl, rfl, Int.le_refl _, by omega, rfl⟩
  case round =>
    obtain ⟨k, N, hk, rfl, rfl, n0, n1, hs⟩ := hrel
    by_cases hlt : k < n
    · obtain ⟨f, t, h, hx, hbr, c0, c1, c2⟩ := elem_at hxl hb hc hB0 hlt
      obtain ⟨g0, g1, g2, g3, g4⟩ : Str.right ⟨f, t, h⟩ := hr _ (List.mem_of_getElem? hx)
      simp only at g0 g1 g2 g3 g4
      have HS : Hid (_ = _) := rused_step hx hs.out
      clear hx hs
      have hkn : (k : Int) < (n : Int) := by omega
      go_wp2
      go_loop [7, 9] (fun s i => ∃ (j : Nat) (M : Int), (j : Int) ≤ t - f ∧ i = .int .i64 (f + j) ∧ s = .int .i64 M ∧ 0 ≤ M ∧ M ≤ N + 2 * j ∧ Hid (j ≤ (min t at_ - f).toNat ∧ hours (2 * l.free) h ((min t at_ - f).toNat - j) M = hours (2 * l.free) h ((min t at_ - f).toNat) N)) (fun _ i => (t - intOf i).toNat)
      case atStart => exact ⟨0, N, by omega, by simp, rfl, n0, by omega, by omega, rfl⟩
      case round =>
        obtain ⟨j, M, hj, rfl, rfl, m0, m1, hh⟩ := hrel
        by_cases hgo : f + (j : Int) < t ∧ f + (j : Int) < at_
        · obtain ⟨e1, e2⟩ := hgo
          have hst := hours_step (by omega) hh.out.2
          by_cases hF : 2 * l.free ≤ M
          · rw [if_pos hF] at hst
            have HH : Hid (_ = _) := hst
            clear hst
            go_wp2
            go_round
            case rel => exact ⟨j + 1, M + 2, by omega, by go_num, rfl, by omega, by omega, by have := hh.out.1; omega, by have := HH.out; rw [Nat.sub_add_eq]; exact this⟩
            case measure => simp [intOf]; omega
          · rw [if_neg hF] at hst
            have HH : Hid (_ = _) := hst
            clear hst
            go_wp2
            go_round
            case rel => exact ⟨j + 1, M + h, by omega, by go_num, rfl, by omega, by omega, by have := hh.out.1; omega, by have := HH.out; rw [Nat.sub_add_eq]; exact this⟩
            case measure => simp [intOf]; omega
        · have HZ : Hid (M = hours (2 * l.free) h ((min t at_ - f).toNat) N) := by
            have h1 := hh.out.2
            have h2 : (min t at_ - f).toNat - j = 0 := by have := hh.out.1; omega
            rw [h2] at h1
            exact h1
          clear hh
          by_cases e1 : f + (j : Int) < t
          · have e2 : at_ ≤ f + (j : Int) := by omega
            clear hgo
            go_wp2
            go_round
            case rel => exact ⟨k + 1, M, by omega, by go_num, rfl, by omega, by omega, by rw [HZ.out]; exact HS⟩
            case measure => simp [intOf]; omega
          · clear hgo
            go_wp2
            go_round
            case rel => exact ⟨k + 1, M, by omega, by go_num, rfl, by omega, by omega, by rw [HZ.out]; exact HS⟩
            case measure => simp [intOf]; omega
    · go_wp2
      go_ret
      have hkn : k = n := by omega
      exact ⟨ret_int (by rw [← hs.out, List.drop_eq_nil_of_le (by omega)]; rfl), hB0⟩
end Go.Proofs.Ytfjanoimhkddbaa
