/- The sum that runs out: the program's search. No condition. -/
import Derived.Test.YtembipmficppnaaOpC
namespace Go.Proofs.Ytembipmficppnaa.kit
open Go.RowKit
set_option linter.unusedVariables false

set_option maxRecDepth 100000 in
set_option maxHeartbeats 3200000 in
theorem idx_s (g : Nat) (A : Option Addr) (n c : Nat) (xs : List Dr) (S : Int) (w0 w : World) (hbel0 : Below w0.heap.size w0 w) (hg : w0.heap.size ≤ g) (hk : Blk w g 2 #[.int .i64 S]) (hx : SliceOf w0 2 drC A n xs) (hm : n ≤ 1000)
    (hS : 0 ≤ S ∧ S ≤ 1099511627776) (ham : ∀ x ∈ xs, 1 ≤ x.am ∧ x.am ≤ 1099511627776) :
    Calls Try.prog 49 #[.slice A n c, .func (.func 39) #[] #[.pointer (some ⟨g, 0, none⟩)]] w fun e w' =>
      ((S < tot xs ∧ ∃ k : Nat, e = .returned (.int .i64 k)) ∨ (tot xs ≤ S ∧ e = .returned (.int .i64 (-1)) ∧ Blk w' g 2 #[.int .i64 (S - tot xs)])) ∧ Below w0.heap.size w0 w' ∧ KeptD g w w' := by
  have HX := Lib.hid hx
  have hxl := hx.len
  have HAM := Lib.hid ham
  have HK0 := Lib.hid hk
  have HB0 := Lib.hid hbel0
  have HTM := Lib.hid (fun k => tot_mono (xs := xs) k (fun x h => (ham x h).1))
  clear hx ham hk hbel0
  go_enter Try.func49, Try.ntmps49
  go_wp2_with fail
  go_loopw [8] (fun i wr => ∃ k : Nat, k ≤ n ∧ i = .int .i64 k ∧ Below w0.heap.size w0 wr ∧ Blk wr g 2 #[.int .i64 (S - tot (xs.take k))] ∧ Hid (0 ≤ S - tot (xs.take k) ∧ 0 ≤ tot (xs.take k)) ∧ KeptD g w wr) (fun i _ => n - (intOf i).toNat)
  case atStart => exact ⟨0, Nat.zero_le _, rfl, HB0.out, by have h := HK0.out; rwa [show S - tot (xs.take 0) = S by simp [tot]], Lib.hid ⟨by simp [tot]; omega, by simp [tot]⟩, KeptD.refl _ _⟩
  case round =>
    obtain ⟨k, hkn', rfl, hbel, hkb, hpos, hkept⟩ := hrel
    by_cases hlt : k < n
    · obtain ⟨x, hxk⟩ : ∃ x, xs[k]? = some x := ⟨_, List.getElem?_eq_getElem (by omega)⟩
      obtain ⟨b, off, rfl, hb, hc⟩ := HX.out.at_ (by omega)
      have c0 : wr.cell? ⟨b, off + k * 2, none⟩ = some (.int .i64 x.day) := (hbel.cell hb).trans (hc k _ hxk 0 _ rfl)
      have c1 : wr.cell? ⟨b, off + k * 2 + 1, none⟩ = some (.int .i64 x.am) := (hbel.cell hb).trans (hc k _ hxk 1 _ rfl)
      have HXK := Lib.hid hxk
      have hkn : (k : Int) < (n : Int) := by omega
      clear hxk hc
      have hT := tot_take HXK.out
      have hax := HAM.out x (List.mem_of_getElem? HXK.out)
      have hp := hpos.out
      have htm := (HTM.out (k + 1)).1
      obtain ⟨t, ht⟩ : ∃ t, tot (xs.take k) = t := ⟨_, rfl⟩
      rw [ht] at hkb hp hT
      have hw : wrap64 (S - t - x.am) = S - t - x.am := by unfold wrap64; omega
      have HC := Lib.hid (clo_s g x (S - t) w0 wr hbel hg hkb hw)
      have hbel' := hbel
      by_cases q : S - t - x.am < 0
      · have HO : Hid (S < tot xs) := Lib.hid (by omega)
        have HQ : Hid (decide (S - t - x.am < 0) = true) := Lib.hid (decide_eq_true q)
        clear hT hax hp htm hw q
        go_wp2_with fail
        refine HC.out.mono ?_
        rw [HQ.out]
        rintro e w3 ⟨rfl, hb3, hk3, hke3⟩
        go_wp2_with fail
        go_ret
        exact ⟨.inl ⟨HO.out, k, rfl⟩, hb3, hkept.trans hke3⟩
      · have HP' : Hid (0 ≤ S - tot (xs.take (k + 1)) ∧ 0 ≤ tot (xs.take (k + 1))) := Lib.hid (by rw [hT]; omega)
        have HE : Hid (S - t - x.am = S - tot (xs.take (k + 1))) := Lib.hid (by rw [hT]; omega)
        have HQ : Hid (decide (S - t - x.am < 0) = false) := Lib.hid (decide_eq_false q)
        clear hT hax hp htm hw q
        go_wp2_with fail
        refine HC.out.mono ?_
        rw [HQ.out]
        rintro e w3 ⟨rfl, hb3, hk3, hke3⟩
        have HK3 : Hid (Blk w3 g 2 #[.int .i64 (S - tot (xs.take (k + 1)))]) := Lib.hid (by rw [← HE.out]; exact hk3)
        clear c0 c1 hk3
        go_wp2_with fail
        go_roundw
        case rel => exact ⟨k + 1, by omega, by go_num, hb3, HK3.out, HP', hkept.trans hke3⟩
        case measure => simp [intOf]; omega
    · have hfull : xs.take k = xs := List.take_of_length_le (by omega)
      rw [hfull] at hkb hpos
      have HP' := hpos
      have HKB := Lib.hid hkb
      clear hkb hpos hfull
      go_wp2_with fail
      go_ret
      exact ⟨.inr ⟨by have := HP'.out; omega, rfl, HKB.out⟩, hbel, hkept⟩
end Go.Proofs.Ytembipmficppnaa.kit
