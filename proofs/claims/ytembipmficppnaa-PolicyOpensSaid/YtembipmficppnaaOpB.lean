/- Whether a draw lies outside a policy's days: the program's search. No condition. -/
import Derived.Test.YtembipmficppnaaOpP
import Derived.Test.YtembipmficppnaaPays
namespace Go.Proofs.Ytembipmficppnaa.kit
open Go.RowKit
set_option linter.unusedVariables false

theorem firstD_or (f : Dr → Bool) : ∀ xs : List Dr, (∀ x ∈ xs, f x = false) ∨ ∃ k x, xs[k]? = some x ∧ f x = true ∧ ∀ y ∈ xs.take k, f y = false
  | [] => .inl (by simp)
  | x :: xs => by
    cases h : f x
    · rcases firstD_or f xs with h' | ⟨k, y, hk, hy, hall⟩
      · exact .inl (fun z hz => by rcases List.mem_cons.1 hz with rfl | hz; exact h; exact h' z hz)
      · exact .inr ⟨k + 1, y, by simpa using hk, hy, fun z hz => by rw [List.take_succ_cons] at hz; rcases List.mem_cons.1 hz with rfl | hz; exact h; exact hall z hz⟩
    · exact .inr ⟨0, x, rfl, h, by simp⟩
set_option maxRecDepth 100000 in
theorem clo_l (p : Pol) (g : Nat) (x : Dr) (w : World) (hk : Blk w g 24 #[.string p.ins, .string p.fr, .string p.dst, .int .i64 p.sum, .int .i64 p.own, .slice p.cA p.cn p.cc, .int .i64 p.first, .int .i64 p.last, .int .i64 p.share]) : Calls Try.prog 37 #[.agg #[.int .i64 x.day, .int .i64 x.am], .pointer (some ⟨g, 0, none⟩)] w fun e w' => e = .returned (.bool (lateB p x)) ∧ Below w.heap.size w w' := by
  have hB0 : Below w.heap.size w (w.alloc (.cells #[.int .i64 x.day, .int .i64 x.am] 45)) := (Below.refl _ _).alloc (Nat.le_refl _) _
  have hk0 := hk
  have hlt := hk.lt
  have a0 := hk0.cell 0; have a1 := hk0.cell 1; have a2 := hk0.cell 2; have a3 := hk0.cell 3; have a4 := hk0.cell 4; have a5 := hk0.cell 5; have a6 := hk0.cell 6; have a7 := hk0.cell 7; have a8 := hk0.cell 8
  simp only [List.getElem?_toArray, List.getElem?_cons_zero, List.getElem?_cons_succ] at a0 a1 a2 a3 a4 a5 a6 a7 a8
  clear hk hk0
  cases q0 : decide (x.day < p.first)
  · have E : Hid (decide (p.last < x.day) = lateB p x) := Lib.hid (by unfold lateB; rw [q0]; rfl)
    go_enter Try.func37, Try.ntmps37
    go_wp2_with fail
    go_ret
    exact ⟨ret_bool E.out, hB0⟩
  · have E : Hid (true = lateB p x) := Lib.hid (by unfold lateB; rw [q0]; rfl)
    go_enter Try.func37, Try.ntmps37
    go_wp2_with fail
    go_ret
    exact ⟨ret_bool E.out, hB0⟩
set_option maxRecDepth 100000 in
set_option maxHeartbeats 1600000 in
theorem idx_l_none (p : Pol) (g : Nat) (A : Option Addr) (n c : Nat) (xs : List Dr) (w : World) (hk : Blk w g 24 #[.string p.ins, .string p.fr, .string p.dst, .int .i64 p.sum, .int .i64 p.own, .slice p.cA p.cn p.cc, .int .i64 p.first, .int .i64 p.last, .int .i64 p.share]) (hx : SliceOf w 2 drC A n xs) (hm : n ≤ maxLen) (hall : ∀ x ∈ xs, lateB p x = false) :
    Calls Try.prog 49 #[.slice A n c, .func (.func 37) #[] #[.pointer (some ⟨g, 0, none⟩)]] w fun e w' => e = .returned (.int .i64 (-1)) ∧ Below w.heap.size w w' := by
  have HX := Lib.hid hx
  have HK := Lib.hid hk
  have HA := Lib.hid hall
  have hxl := hx.len
  unfold maxLen at hm
  clear hx hk hall
  go_enter Try.func49, Try.ntmps49
  go_wp2_with fail
  go_loopw [8] (fun i wr => ∃ k : Nat, k ≤ n ∧ i = .int .i64 k ∧ Below w.heap.size w wr) (fun i _ => n - (intOf i).toNat)
  case atStart => exact ⟨0, Nat.zero_le _, rfl, Below.refl _ _⟩
  case round =>
    obtain ⟨k, hk, rfl, hbel⟩ := hrel
    by_cases hlt : k < n
    · obtain ⟨x, hxk⟩ : ∃ x, xs[k]? = some x := ⟨_, List.getElem?_eq_getElem (by omega)⟩
      obtain ⟨b, off, rfl, hb, hc⟩ := HX.out.at_ (by omega)
      have c0 : wr.cell? ⟨b, off + k * 2, none⟩ = some (.int .i64 x.day) := (hbel.cell hb).trans (hc k _ hxk 0 _ rfl)
      have c1 : wr.cell? ⟨b, off + k * 2 + 1, none⟩ = some (.int .i64 x.am) := (hbel.cell hb).trans (hc k _ hxk 1 _ rfl)
      have HXK := Lib.hid hxk
      have hkn : (k : Int) < (n : Int) := by omega
      clear hxk hc
      have HF := Lib.hid (HA.out x (List.mem_of_getElem? HXK.out))
      go_wp2_with fail
      refine (clo_l p g x wr (HK.out.below hbel HK.out.lt)).mono ?_
      rw [HF.out]
      rintro e w3 ⟨rfl, hb3⟩
      have hB3 := hbel.trans (hb3.mono hbel.size)
      clear c0 c1
      go_wp2_with fail
      go_roundw
      case rel => exact ⟨k + 1, by omega, by go_num, hB3⟩
      case measure => simp [intOf]; omega
    · go_wp2_with fail
      go_ret
      exact ⟨rfl, hbel⟩
set_option maxRecDepth 100000 in
set_option maxHeartbeats 1600000 in
theorem idx_l_some (p : Pol) (g : Nat) (A : Option Addr) (n c : Nat) (xs : List Dr) (w : World) (hk : Blk w g 24 #[.string p.ins, .string p.fr, .string p.dst, .int .i64 p.sum, .int .i64 p.own, .slice p.cA p.cn p.cc, .int .i64 p.first, .int .i64 p.last, .int .i64 p.share]) (hx : SliceOf w 2 drC A n xs) (hm : n ≤ maxLen) (K : Nat) (z : Dr) (hK : xs[K]? = some z) (hz : lateB p z = true) (hall : ∀ x ∈ xs.take K, lateB p x = false) :
    Calls Try.prog 49 #[.slice A n c, .func (.func 37) #[] #[.pointer (some ⟨g, 0, none⟩)]] w fun e w' => e = .returned (.int .i64 K) ∧ Below w.heap.size w w' := by
  have HX := Lib.hid hx
  have HK := Lib.hid hk
  have HA := Lib.hid hall
  have HZ := Lib.hid hz
  have HKK := Lib.hid hK
  have hxl := hx.len
  have hKn : K < n := by have := (List.getElem?_eq_some_iff.1 hK).1; omega
  unfold maxLen at hm
  clear hx hk hall hz hK
  go_enter Try.func49, Try.ntmps49
  go_wp2_with fail
  go_loopw [8] (fun i wr => ∃ k : Nat, k ≤ K ∧ i = .int .i64 k ∧ Below w.heap.size w wr) (fun i _ => K - (intOf i).toNat)
  case atStart => exact ⟨0, Nat.zero_le _, rfl, Below.refl _ _⟩
  case round =>
    obtain ⟨k, hk, rfl, hbel⟩ := hrel
    have hlt : k < n := by omega
    obtain ⟨x, hxk⟩ : ∃ x, xs[k]? = some x := ⟨_, List.getElem?_eq_getElem (by omega)⟩
    obtain ⟨b, off, rfl, hb, hc⟩ := HX.out.at_ (by omega)
    have c0 : wr.cell? ⟨b, off + k * 2, none⟩ = some (.int .i64 x.day) := (hbel.cell hb).trans (hc k _ hxk 0 _ rfl)
    have c1 : wr.cell? ⟨b, off + k * 2 + 1, none⟩ = some (.int .i64 x.am) := (hbel.cell hb).trans (hc k _ hxk 1 _ rfl)
    have HXK := Lib.hid hxk
    have hkn : (k : Int) < (n : Int) := by omega
    clear hxk hc
    by_cases hkK : k = K
    · have HF : Hid (lateB p x = true) := Lib.hid (by have h := HXK.out; rw [hkK, HKK.out] at h; injection h with h; rw [← h]; exact HZ.out)
      subst hkK
      go_wp2_with fail
      refine (clo_l p g x wr (HK.out.below hbel HK.out.lt)).mono ?_
      rw [HF.out]
      rintro e w3 ⟨rfl, hb3⟩
      have hB3 := hbel.trans (hb3.mono hbel.size)
      go_wp2_with fail
      go_ret
      exact ⟨rfl, hB3⟩
    · have HF : Hid (lateB p x = false) := Lib.hid (HA.out x (List.mem_of_getElem? (i := k) (by rw [List.getElem?_take, if_pos (by omega)]; exact HXK.out)))
      go_wp2_with fail
      refine (clo_l p g x wr (HK.out.below hbel HK.out.lt)).mono ?_
      rw [HF.out]
      rintro e w3 ⟨rfl, hb3⟩
      have hB3 := hbel.trans (hb3.mono hbel.size)
      clear c0 c1
      go_wp2_with fail
      go_roundw
      case rel => exact ⟨k + 1, by omega, by go_num, hB3⟩
      case measure => simp [intOf]; omega
set_option maxRecDepth 100000 in
theorem anyLate_any (p : Pol) (g : Nat) (A : Option Addr) (n c : Nat) (xs : List Dr) (w : World) (hk : Blk w g 24 #[.string p.ins, .string p.fr, .string p.dst, .int .i64 p.sum, .int .i64 p.own, .slice p.cA p.cn p.cc, .int .i64 p.first, .int .i64 p.last, .int .i64 p.share]) (hx : SliceOf w 2 drC A n xs) (hm : n ≤ maxLen) :
    Calls Try.prog 36 #[.slice A n c, .func (.func 37) #[] #[.pointer (some ⟨g, 0, none⟩)]] w fun e w' => e = .returned (.bool (xs.any (lateB p))) ∧ Below w.heap.size w w' := by
  rcases firstD_or (lateB p) xs with hall | ⟨k, x, hkx, hxl, hall⟩
  · have E : Hid (false = xs.any (lateB p)) := Lib.hid (List.any_eq_false.2 (fun x h => by rw [hall x h]; simp)).symm
    have H := Lib.hid (idx_l_none p g A n c xs w hk hx hm hall)
    clear hk hx hall
    go_enter Try.func36, Try.ntmps36
    go_wp2_with fail
    refine H.out.mono ?_
    rintro e w1 ⟨rfl, hb1⟩
    go_wp2_with fail
    go_ret
    exact ⟨ret_bool E.out, hb1⟩
  · have E : Hid (true = xs.any (lateB p)) := Lib.hid (List.any_eq_true.2 ⟨x, List.mem_of_getElem? hkx, hxl⟩).symm
    have H := Lib.hid (idx_l_some p g A n c xs w hk hx hm k x hkx hxl hall)
    clear hk hx hall hkx hxl
    have h0 : (0 : Int) ≤ (k : Int) := by omega
    go_enter Try.func36, Try.ntmps36
    go_wp2_with fail
    refine H.out.mono ?_
    rintro e w1 ⟨rfl, hb1⟩
    go_wp2_with fail
    go_ret
    exact ⟨ret_bool (by first | exact E.out | simpa using E.out), hb1⟩
end Go.Proofs.Ytembipmficppnaa.kit
