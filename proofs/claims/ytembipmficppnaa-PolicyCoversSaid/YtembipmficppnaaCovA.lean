/- The first hand at a place: the program's search, by closures. No condition. -/
import Derived.Test.YtembipmficppnaaCovP
import Derived.Test.YtembipmficppnaaPays
namespace Go.Proofs.Ytembipmficppnaa.kit
open Go.RowKit
set_option linter.unusedVariables false

set_option maxRecDepth 100000 in
theorem clo_a (p : Pol) (g : Nat) (x : Hd) (w : World) (hk : Blk w g 24 #[.string p.ins, .string p.fr, .string p.dst, .int .i64 p.sum, .int .i64 p.own, .slice p.cA p.cn p.cc, .int .i64 p.first, .int .i64 p.last, .int .i64 p.share]) : Calls Try.prog 47 #[.agg #[.string x.box, .string x.fr, .string x.dst, .string x.place, .int .i64 x.day], .pointer (some ⟨g, 0, none⟩)] w fun e w' => e = .returned (.bool (atP p.fr x)) ∧ Below w.heap.size w w' := by
  have hB0 : Below w.heap.size w (w.alloc (.cells #[.string x.box, .string x.fr, .string x.dst, .string x.place, .int .i64 x.day] 54)) := (Below.refl _ _).alloc (Nat.le_refl _) _
  have hk0 := hk
  have hlt := hk.lt
  have a0 := hk0.cell 0; have a1 := hk0.cell 1; have a2 := hk0.cell 2; have a3 := hk0.cell 3; have a4 := hk0.cell 4; have a5 := hk0.cell 5; have a6 := hk0.cell 6; have a7 := hk0.cell 7; have a8 := hk0.cell 8
  simp only [List.getElem?_toArray, List.getElem?_cons_zero, List.getElem?_cons_succ] at a0 a1 a2 a3 a4 a5 a6 a7 a8
  clear hk hk0
  go_enter Try.func47, Try.ntmps47
  go_wp2_with fail
  go_ret
  exact ⟨rfl, hB0⟩
set_option maxRecDepth 100000 in
set_option maxHeartbeats 1600000 in
theorem idx_a_none (p : Pol) (g : Nat) (A : Option Addr) (n c : Nat) (xs : List Hd) (w : World) (hk : Blk w g 24 #[.string p.ins, .string p.fr, .string p.dst, .int .i64 p.sum, .int .i64 p.own, .slice p.cA p.cn p.cc, .int .i64 p.first, .int .i64 p.last, .int .i64 p.share]) (hx : SliceOf w 5 hdC A n xs) (hm : n ≤ maxLen) (hall : ∀ x ∈ xs, atP p.fr x = false) :
    Calls Try.prog 46 #[.slice A n c, .func (.func 47) #[] #[.pointer (some ⟨g, 0, none⟩)]] w fun e w' => e = .returned (.int .i64 (-1)) ∧ Below w.heap.size w w' := by
  have HX := Lib.hid hx
  have HK := Lib.hid hk
  have HA := Lib.hid hall
  have hxl := hx.len
  unfold maxLen at hm
  clear hx hk hall
  go_enter Try.func46, Try.ntmps46
  go_wp2_with fail
  go_loopw [8] (fun i wr => ∃ k : Nat, k ≤ n ∧ i = .int .i64 k ∧ Below w.heap.size w wr) (fun i _ => n - (intOf i).toNat)
  case atStart => exact ⟨0, Nat.zero_le _, rfl, Below.refl _ _⟩
  case round =>
    obtain ⟨k, hk, rfl, hbel⟩ := hrel
    by_cases hlt : k < n
    · obtain ⟨x, hxk⟩ : ∃ x, xs[k]? = some x := ⟨_, List.getElem?_eq_getElem (by omega)⟩
      obtain ⟨b, off, rfl, hb, hc⟩ := HX.out.at_ (by omega)
      have c0 : wr.cell? ⟨b, off + k * 5, none⟩ = some (.string x.box) := (hbel.cell hb).trans (hc k _ hxk 0 _ rfl)
      have c1 : wr.cell? ⟨b, off + k * 5 + 1, none⟩ = some (.string x.fr) := (hbel.cell hb).trans (hc k _ hxk 1 _ rfl)
      have c2 : wr.cell? ⟨b, off + k * 5 + 2, none⟩ = some (.string x.dst) := (hbel.cell hb).trans (hc k _ hxk 2 _ rfl)
      have c3 : wr.cell? ⟨b, off + k * 5 + 3, none⟩ = some (.string x.place) := (hbel.cell hb).trans (hc k _ hxk 3 _ rfl)
      have c4 : wr.cell? ⟨b, off + k * 5 + 4, none⟩ = some (.int .i64 x.day) := (hbel.cell hb).trans (hc k _ hxk 4 _ rfl)
      have HXK := Lib.hid hxk
      have hkn : (k : Int) < (n : Int) := by omega
      clear hxk hc
      have HF := Lib.hid (HA.out x (List.mem_of_getElem? HXK.out))
      go_wp2_with fail
      refine (clo_a p g x wr (HK.out.below hbel HK.out.lt)).mono ?_
      rw [HF.out]
      rintro e w3 ⟨rfl, hb3⟩
      have hB3 := hbel.trans (hb3.mono hbel.size)
      clear c0 c1 c2 c3 c4
      go_wp2_with fail
      go_roundw
      case rel => exact ⟨k + 1, by omega, by go_num, hB3⟩
      case measure => simp [intOf]; omega
    · go_wp2_with fail
      go_ret
      exact ⟨rfl, hbel⟩
set_option maxRecDepth 100000 in
set_option maxHeartbeats 1600000 in
theorem idx_a_some (p : Pol) (g : Nat) (A : Option Addr) (n c : Nat) (xs : List Hd) (w : World) (hk : Blk w g 24 #[.string p.ins, .string p.fr, .string p.dst, .int .i64 p.sum, .int .i64 p.own, .slice p.cA p.cn p.cc, .int .i64 p.first, .int .i64 p.last, .int .i64 p.share]) (hx : SliceOf w 5 hdC A n xs) (hm : n ≤ maxLen) (K : Nat) (z : Hd) (hK : xs[K]? = some z) (hz : atP p.fr z = true) (hall : ∀ x ∈ xs.take K, atP p.fr x = false) :
    Calls Try.prog 46 #[.slice A n c, .func (.func 47) #[] #[.pointer (some ⟨g, 0, none⟩)]] w fun e w' => e = .returned (.int .i64 K) ∧ Below w.heap.size w w' := by
  have HX := Lib.hid hx
  have HK := Lib.hid hk
  have HA := Lib.hid hall
  have HZ := Lib.hid hz
  have HKK := Lib.hid hK
  have hxl := hx.len
  have hKn : K < n := by have := (List.getElem?_eq_some_iff.1 hK).1; omega
  unfold maxLen at hm
  clear hx hk hall hz hK
  go_enter Try.func46, Try.ntmps46
  go_wp2_with fail
  go_loopw [8] (fun i wr => ∃ k : Nat, k ≤ K ∧ i = .int .i64 k ∧ Below w.heap.size w wr) (fun i _ => K - (intOf i).toNat)
  case atStart => exact ⟨0, Nat.zero_le _, rfl, Below.refl _ _⟩
  case round =>
    obtain ⟨k, hk, rfl, hbel⟩ := hrel
    have hlt : k < n := by omega
    obtain ⟨x, hxk⟩ : ∃ x, xs[k]? = some x := ⟨_, List.getElem?_eq_getElem (by omega)⟩
    obtain ⟨b, off, rfl, hb, hc⟩ := HX.out.at_ (by omega)
    have c0 : wr.cell? ⟨b, off + k * 5, none⟩ = some (.string x.box) := (hbel.cell hb).trans (hc k _ hxk 0 _ rfl)
    have c1 : wr.cell? ⟨b, off + k * 5 + 1, none⟩ = some (.string x.fr) := (hbel.cell hb).trans (hc k _ hxk 1 _ rfl)
    have c2 : wr.cell? ⟨b, off + k * 5 + 2, none⟩ = some (.string x.dst) := (hbel.cell hb).trans (hc k _ hxk 2 _ rfl)
    have c3 : wr.cell? ⟨b, off + k * 5 + 3, none⟩ = some (.string x.place) := (hbel.cell hb).trans (hc k _ hxk 3 _ rfl)
    have c4 : wr.cell? ⟨b, off + k * 5 + 4, none⟩ = some (.int .i64 x.day) := (hbel.cell hb).trans (hc k _ hxk 4 _ rfl)
    have HXK := Lib.hid hxk
    have hkn : (k : Int) < (n : Int) := by omega
    clear hxk hc
    by_cases hkK : k = K
    · have HF : Hid (atP p.fr x = true) := Lib.hid (by have h := HXK.out; rw [hkK, HKK.out] at h; injection h with h; rw [← h]; exact HZ.out)
      subst hkK
      go_wp2_with fail
      refine (clo_a p g x wr (HK.out.below hbel HK.out.lt)).mono ?_
      rw [HF.out]
      rintro e w3 ⟨rfl, hb3⟩
      have hB3 := hbel.trans (hb3.mono hbel.size)
      go_wp2_with fail
      go_ret
      exact ⟨rfl, hB3⟩
    · have HF : Hid (atP p.fr x = false) := Lib.hid (HA.out x (List.mem_of_getElem? (i := k) (by rw [List.getElem?_take, if_pos (by omega)]; exact HXK.out)))
      go_wp2_with fail
      refine (clo_a p g x wr (HK.out.below hbel HK.out.lt)).mono ?_
      rw [HF.out]
      rintro e w3 ⟨rfl, hb3⟩
      have hB3 := hbel.trans (hb3.mono hbel.size)
      clear c0 c1 c2 c3 c4
      go_wp2_with fail
      go_roundw
      case rel => exact ⟨k + 1, by omega, by go_num, hB3⟩
      case measure => simp [intOf]; omega
set_option maxRecDepth 100000 in
theorem clo_b (p : Pol) (g : Nat) (x : Hd) (w : World) (hk : Blk w g 24 #[.string p.ins, .string p.fr, .string p.dst, .int .i64 p.sum, .int .i64 p.own, .slice p.cA p.cn p.cc, .int .i64 p.first, .int .i64 p.last, .int .i64 p.share]) : Calls Try.prog 48 #[.agg #[.string x.box, .string x.fr, .string x.dst, .string x.place, .int .i64 x.day], .pointer (some ⟨g, 0, none⟩)] w fun e w' => e = .returned (.bool (atP p.dst x)) ∧ Below w.heap.size w w' := by
  have hB0 : Below w.heap.size w (w.alloc (.cells #[.string x.box, .string x.fr, .string x.dst, .string x.place, .int .i64 x.day] 54)) := (Below.refl _ _).alloc (Nat.le_refl _) _
  have hk0 := hk
  have hlt := hk.lt
  have a0 := hk0.cell 0; have a1 := hk0.cell 1; have a2 := hk0.cell 2; have a3 := hk0.cell 3; have a4 := hk0.cell 4; have a5 := hk0.cell 5; have a6 := hk0.cell 6; have a7 := hk0.cell 7; have a8 := hk0.cell 8
  simp only [List.getElem?_toArray, List.getElem?_cons_zero, List.getElem?_cons_succ] at a0 a1 a2 a3 a4 a5 a6 a7 a8
  clear hk hk0
  go_enter Try.func48, Try.ntmps48
  go_wp2_with fail
  go_ret
  exact ⟨rfl, hB0⟩
set_option maxRecDepth 100000 in
set_option maxHeartbeats 1600000 in
theorem idx_b_none (p : Pol) (g : Nat) (A : Option Addr) (n c : Nat) (xs : List Hd) (w : World) (hk : Blk w g 24 #[.string p.ins, .string p.fr, .string p.dst, .int .i64 p.sum, .int .i64 p.own, .slice p.cA p.cn p.cc, .int .i64 p.first, .int .i64 p.last, .int .i64 p.share]) (hx : SliceOf w 5 hdC A n xs) (hm : n ≤ maxLen) (hall : ∀ x ∈ xs, atP p.dst x = false) :
    Calls Try.prog 46 #[.slice A n c, .func (.func 48) #[] #[.pointer (some ⟨g, 0, none⟩)]] w fun e w' => e = .returned (.int .i64 (-1)) ∧ Below w.heap.size w w' := by
  have HX := Lib.hid hx
  have HK := Lib.hid hk
  have HA := Lib.hid hall
  have hxl := hx.len
  unfold maxLen at hm
  clear hx hk hall
  go_enter Try.func46, Try.ntmps46
  go_wp2_with fail
  go_loopw [8] (fun i wr => ∃ k : Nat, k ≤ n ∧ i = .int .i64 k ∧ Below w.heap.size w wr) (fun i _ => n - (intOf i).toNat)
  case atStart => exact ⟨0, Nat.zero_le _, rfl, Below.refl _ _⟩
  case round =>
    obtain ⟨k, hk, rfl, hbel⟩ := hrel
    by_cases hlt : k < n
    · obtain ⟨x, hxk⟩ : ∃ x, xs[k]? = some x := ⟨_, List.getElem?_eq_getElem (by omega)⟩
      obtain ⟨b, off, rfl, hb, hc⟩ := HX.out.at_ (by omega)
      have c0 : wr.cell? ⟨b, off + k * 5, none⟩ = some (.string x.box) := (hbel.cell hb).trans (hc k _ hxk 0 _ rfl)
      have c1 : wr.cell? ⟨b, off + k * 5 + 1, none⟩ = some (.string x.fr) := (hbel.cell hb).trans (hc k _ hxk 1 _ rfl)
      have c2 : wr.cell? ⟨b, off + k * 5 + 2, none⟩ = some (.string x.dst) := (hbel.cell hb).trans (hc k _ hxk 2 _ rfl)
      have c3 : wr.cell? ⟨b, off + k * 5 + 3, none⟩ = some (.string x.place) := (hbel.cell hb).trans (hc k _ hxk 3 _ rfl)
      have c4 : wr.cell? ⟨b, off + k * 5 + 4, none⟩ = some (.int .i64 x.day) := (hbel.cell hb).trans (hc k _ hxk 4 _ rfl)
      have HXK := Lib.hid hxk
      have hkn : (k : Int) < (n : Int) := by omega
      clear hxk hc
      have HF := Lib.hid (HA.out x (List.mem_of_getElem? HXK.out))
      go_wp2_with fail
      refine (clo_b p g x wr (HK.out.below hbel HK.out.lt)).mono ?_
      rw [HF.out]
      rintro e w3 ⟨rfl, hb3⟩
      have hB3 := hbel.trans (hb3.mono hbel.size)
      clear c0 c1 c2 c3 c4
      go_wp2_with fail
      go_roundw
      case rel => exact ⟨k + 1, by omega, by go_num, hB3⟩
      case measure => simp [intOf]; omega
    · go_wp2_with fail
      go_ret
      exact ⟨rfl, hbel⟩
set_option maxRecDepth 100000 in
set_option maxHeartbeats 1600000 in
theorem idx_b_some (p : Pol) (g : Nat) (A : Option Addr) (n c : Nat) (xs : List Hd) (w : World) (hk : Blk w g 24 #[.string p.ins, .string p.fr, .string p.dst, .int .i64 p.sum, .int .i64 p.own, .slice p.cA p.cn p.cc, .int .i64 p.first, .int .i64 p.last, .int .i64 p.share]) (hx : SliceOf w 5 hdC A n xs) (hm : n ≤ maxLen) (K : Nat) (z : Hd) (hK : xs[K]? = some z) (hz : atP p.dst z = true) (hall : ∀ x ∈ xs.take K, atP p.dst x = false) :
    Calls Try.prog 46 #[.slice A n c, .func (.func 48) #[] #[.pointer (some ⟨g, 0, none⟩)]] w fun e w' => e = .returned (.int .i64 K) ∧ Below w.heap.size w w' := by
  have HX := Lib.hid hx
  have HK := Lib.hid hk
  have HA := Lib.hid hall
  have HZ := Lib.hid hz
  have HKK := Lib.hid hK
  have hxl := hx.len
  have hKn : K < n := by have := (List.getElem?_eq_some_iff.1 hK).1; omega
  unfold maxLen at hm
  clear hx hk hall hz hK
  go_enter Try.func46, Try.ntmps46
  go_wp2_with fail
  go_loopw [8] (fun i wr => ∃ k : Nat, k ≤ K ∧ i = .int .i64 k ∧ Below w.heap.size w wr) (fun i _ => K - (intOf i).toNat)
  case atStart => exact ⟨0, Nat.zero_le _, rfl, Below.refl _ _⟩
  case round =>
    obtain ⟨k, hk, rfl, hbel⟩ := hrel
    have hlt : k < n := by omega
    obtain ⟨x, hxk⟩ : ∃ x, xs[k]? = some x := ⟨_, List.getElem?_eq_getElem (by omega)⟩
    obtain ⟨b, off, rfl, hb, hc⟩ := HX.out.at_ (by omega)
    have c0 : wr.cell? ⟨b, off + k * 5, none⟩ = some (.string x.box) := (hbel.cell hb).trans (hc k _ hxk 0 _ rfl)
    have c1 : wr.cell? ⟨b, off + k * 5 + 1, none⟩ = some (.string x.fr) := (hbel.cell hb).trans (hc k _ hxk 1 _ rfl)
    have c2 : wr.cell? ⟨b, off + k * 5 + 2, none⟩ = some (.string x.dst) := (hbel.cell hb).trans (hc k _ hxk 2 _ rfl)
    have c3 : wr.cell? ⟨b, off + k * 5 + 3, none⟩ = some (.string x.place) := (hbel.cell hb).trans (hc k _ hxk 3 _ rfl)
    have c4 : wr.cell? ⟨b, off + k * 5 + 4, none⟩ = some (.int .i64 x.day) := (hbel.cell hb).trans (hc k _ hxk 4 _ rfl)
    have HXK := Lib.hid hxk
    have hkn : (k : Int) < (n : Int) := by omega
    clear hxk hc
    by_cases hkK : k = K
    · have HF : Hid (atP p.dst x = true) := Lib.hid (by have h := HXK.out; rw [hkK, HKK.out] at h; injection h with h; rw [← h]; exact HZ.out)
      subst hkK
      go_wp2_with fail
      refine (clo_b p g x wr (HK.out.below hbel HK.out.lt)).mono ?_
      rw [HF.out]
      rintro e w3 ⟨rfl, hb3⟩
      have hB3 := hbel.trans (hb3.mono hbel.size)
      go_wp2_with fail
      go_ret
      exact ⟨rfl, hB3⟩
    · have HF : Hid (atP p.dst x = false) := Lib.hid (HA.out x (List.mem_of_getElem? (i := k) (by rw [List.getElem?_take, if_pos (by omega)]; exact HXK.out)))
      go_wp2_with fail
      refine (clo_b p g x wr (HK.out.below hbel HK.out.lt)).mono ?_
      rw [HF.out]
      rintro e w3 ⟨rfl, hb3⟩
      have hB3 := hbel.trans (hb3.mono hbel.size)
      clear c0 c1 c2 c3 c4
      go_wp2_with fail
      go_roundw
      case rel => exact ⟨k + 1, by omega, by go_num, hB3⟩
      case measure => simp [intOf]; omega
end Go.Proofs.Ytembipmficppnaa.kit
