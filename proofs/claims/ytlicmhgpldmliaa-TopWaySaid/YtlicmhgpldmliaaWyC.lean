/- Voyages: whether one may be. No condition. -/
import Derived.Test.YtlicmhgpldmliaaWyB
import Derived.Deep.Cut
import Derived.Lib.Slices
namespace Go.Proofs.Ytlicmhgpldmliaa.kit
open Go.RowKit
set_option linter.unusedVariables false
set_option linter.unusedSimpArgs false
/-- What port.May tells. -/
def MayP (v : Vy) (w : World) (e : Ending) (w' : World) : Prop := ∃ b : Bool, e = .returned (.bool b) ∧ (b = true → VyOK v) ∧ (b = false → ¬ VyOK v) ∧ Below w.heap.size w w'
theorem mayP_no {v : Vy} {w w' : World} (h : Below w.heap.size w w') (hn : ¬ VyOK v) : MayP v w (.returned (.bool false)) w' := ⟨false, rfl, fun h => (by cases h), fun _ => hn, h⟩
theorem cl_at {w : World} {A : Option Addr} {n : Nat} {xs : List Cl} (h : SliceOf w 4 clC A n xs) {k : Nat} (hk : k < n) : ∃ b off x, A = some ⟨b, off, none⟩ ∧ xs[k]? = some x ∧ ∀ j v, (clC x)[j]? = some v → w.cell? ⟨b, off + k * 4 + j, none⟩ = some v := by
  have hl := h.len
  obtain ⟨x, hxk⟩ : ∃ x, xs[k]? = some x := ⟨_, List.getElem?_eq_getElem (by omega)⟩
  obtain ⟨b, off, rfl, hb, hc⟩ := h.at_ (by omega)
  exact ⟨b, off, x, rfl, hxk, fun j v hv => by have := hc k _ hxk j v hv; rwa [← Nat.add_assoc] at this⟩
/-- The calls up to k are fine. -/
def Fine (cs : List Cl) (k : Nat) : Prop := (∀ (i : Nat) (x : Cl), i < k → cs[i]? = some x → ClOK x) ∧ ∀ (i : Nat) (x y : Cl), i + 1 < k → cs[i]? = some x → cs[i + 1]? = some y → (y.port.toList == x.port.toList) = false ∧ x.dep ≤ y.arr
theorem Fine.up {cs : List Cl} {k : Nat} (h : Fine cs k) {x : Cl} (hx : cs[k]? = some x) (h1 : ClOK x) (h2 : ∀ y, 0 < k → cs[k - 1]? = some y → (x.port.toList == y.port.toList) = false ∧ y.dep ≤ x.arr) : Fine cs (k + 1) := by
  refine ⟨fun i z hi hz => ?_, fun i y z hi hy hz => ?_⟩
  · by_cases e : i = k
    · subst e
      rw [hx] at hz
      injection hz with hz
      exact hz ▸ h1
    · exact h.1 i z (by omega) hz
  · by_cases e : i + 1 = k
    · subst e
      rw [hx] at hz
      injection hz with hz
      exact hz ▸ h2 y (by omega) (by simpa using hy)
    · exact h.2 i y z (by omega) hy hz
set_option maxRecDepth 100000 in
set_option maxHeartbeats 6400000 in
theorem may_any (v : Vy) (w : World) (hs : v.ship.size ≤ 60) (hx : SliceOf w 4 clC v.A v.n v.cs) (hn : v.n ≤ 8) (hp : ∀ x ∈ v.cs, x.port.size ≤ 60) :
    Calls Try.prog 59 #[.agg #[.string v.ship, .slice v.A v.n v.c]] w (MayP v w) := by
  obtain ⟨ship, A, n, c, cs⟩ := v
  dsimp only at hs hx hn hp ⊢
  have HX := Lib.hid hx
  have HP := Lib.hid hp
  have hcl := hx.len
  have HB0 := Lib.hid (one_alloc w (.cells #[.string ship, .slice A n c] 48))
  have HK0 := Lib.hid (Blk.new w 48 #[.string ship, .slice A n c])
  have HN := Lib.hid (fun w => name_any ship w (by unfold maxLen; omega))
  clear hx hp
  go_enter Try.func59, Try.ntmps59
  go_upto_region 1 with (fail)
  obtain ⟨w0, hw0⟩ : ∃ W, (w.alloc (.cells #[.string ship, .slice A n c] 48)) = W := ⟨_, rfl⟩
  obtain ⟨g, hg⟩ : ∃ g, w.heap.size = g := ⟨_, rfl⟩
  rw [hw0] at HB0 HK0 ⊢
  rw [hg] at HK0
  simp only [hg]
  have HG := Lib.hid hg
  clear hw0 hg
  have e0 := HK0.out.cell 0; have e1 := HK0.out.cell 1
  simp only [List.getElem?_toArray, List.getElem?_cons_zero, List.getElem?_cons_succ] at e0 e1
  go_wp2_with fail
  refine (HN.out _).mono ?_
  rintro e w' ⟨rfl, rfl⟩
  by_cases hnm : nameB ship.data.toList = true
  rotate_left
  · have hnf : nameB ship.data.toList = false := by simpa using hnm
    rw [hnf]
    have HNO := Lib.hid (show ¬ VyOK _ from (fun h : VyOK ⟨ship, A, n, c, cs⟩ => by have h5 := h.1; dsimp only at h5; rw [hnf] at h5; cases h5))
    go_wp2_with fail
    go_ret
    exact mayP_no HB0.out HNO.out
  rw [hnm]
  have HNM := Lib.hid hnm
  clear hnm HN
  by_cases h1 : n < 1
  · have h1' : (n : Int) < 1 := by omega
    have HNO := Lib.hid (show ¬ VyOK _ from (fun h : VyOK ⟨ship, A, n, c, cs⟩ => by have h5 := h.2.2.2; dsimp only at h5; rw [hcl] at h5; omega))
    go_wp2_with fail
    go_ret
    exact mayP_no HB0.out HNO.out
  have h1' : ¬ (n : Int) < 1 := by omega
  have h2' : ¬ (64 : Int) < (n : Int) := by omega
  go_wp2_with fail
  go_loopw [24] (fun i wr => ∃ k : Nat, k ≤ n ∧ i = .int .i64 k ∧ Hid (Fine cs k) ∧ Hid (Below (g + 1) w0 wr)) (fun i _ => n - (intOf i).toNat)
  case atStart => exact ⟨0, by omega, rfl, Lib.hid ⟨fun i x hi => by omega, fun i x y hi => by omega⟩, Lib.hid (Below.refl _ _)⟩
  case round =>
    obtain ⟨k, hk, rfl, hfin, hbw⟩ := hrel
    have HSZ : Hid (g + 1 ≤ w0.heap.size) := Lib.hid (by have := HK0.out.lt; omega)
    have HBW : Hid (Below w.heap.size w wr) := Lib.hid (HB0.out.trans (hbw.out.mono (by have := HG.out; omega)))
    have HKr := Lib.hid (HK0.out.below hbw.out (Nat.lt_succ_self _))
    clear e0 e1
    by_cases hlt : k < n
    · obtain ⟨b, off, x, rfl, hxk, hc⟩ := cl_at (HX.out.below HBW.out) hlt
      have HXK := Lib.hid hxk
      have hpx := HP.out x (List.mem_of_getElem? hxk)
      have HXR := Lib.hid (HX.out.below HBW.out)
      obtain ⟨port, cut, arr, dep⟩ := x
      dsimp only at hpx
      have d0 := hc 0 _ rfl; have d1 := hc 1 _ rfl; have d2 := hc 2 _ rfl; have d3 := hc 3 _ rfl
      rw [Nat.add_zero] at d0
      dsimp only at d0 d1 d2 d3
      have HB1 := Lib.hid (HBW.out.trans ((one_alloc wr (.cells #[.string port, .int .i64 cut, .int .i64 arr, .int .i64 dep] 50)).mono HBW.out.size))
      have HBV : Hid (Below (g + 1) w0 (wr.alloc (.cells #[.string port, .int .i64 cut, .int .i64 arr, .int .i64 dep] 50))) := Lib.hid (hbw.out.trans ((one_alloc wr _).mono (Nat.le_trans HSZ.out hbw.out.size)))
      have HC1 := Lib.hid (Blk.new wr 50 #[.string port, .int .i64 cut, .int .i64 arr, .int .i64 dep])
      have HK1 := Lib.hid (HKr.out.alloc (.cells #[.string port, .int .i64 cut, .int .i64 arr, .int .i64 dep] 50))
      have HX1 := Lib.hid (HXR.out.below (one_alloc wr (.cells #[.string port, .int .i64 cut, .int .i64 arr, .int .i64 dep] 50)))
      have hkn : (k : Int) < (n : Int) := by omega
      have HN := Lib.hid (fun w => name_any port w (by unfold maxLen; omega))
      clear hc hxk HXR hbw HBW HKr
      go_upto_region 6 with ((refine stop_store 50 _ _ rfl ?_; refine wpList_store_new rfl 50 _ _ rfl _ rfl rfl (by kernel_rfl) rfl rfl ?_))
      obtain ⟨w1, hw1⟩ : ∃ W, wr.alloc (.cells #[.string port, .int .i64 cut, .int .i64 arr, .int .i64 dep] 50) = W := ⟨_, rfl⟩
      obtain ⟨gc, hgc⟩ : ∃ g, wr.heap.size = g := ⟨_, rfl⟩
      rw [hw1] at HB1 HBV HC1 HK1 HX1 ⊢
      rw [hgc] at HC1
      simp only [hgc]
      clear hw1 hgc d0 d1 d2 d3
      have e0 := HK1.out.cell 0; have e1 := HK1.out.cell 1
      have c0 := HC1.out.cell 0; have c1 := HC1.out.cell 1; have c2 := HC1.out.cell 2; have c3 := HC1.out.cell 3
      simp only [List.getElem?_toArray, List.getElem?_cons_zero, List.getElem?_cons_succ] at e0 e1 c0 c1 c2 c3
      go_wp2_with fail
      refine (HN.out _).mono ?_
      rintro e w' ⟨rfl, rfl⟩
      by_cases hnm : nameB port.data.toList = true
      rotate_left
      · have hnf : nameB port.data.toList = false := by simpa using hnm
        rw [hnf]
        have HNO := Lib.hid (show ¬ VyOK _ from (fun h : VyOK ⟨ship, some ⟨b, off, none⟩, n, c, cs⟩ => by have h5 := (h.2.1 k _ HXK.out).1; dsimp only at h5; rw [hnf] at h5; cases h5))
        go_wp2_with fail
        go_ret
        exact mayP_no HB1.out HNO.out
      rw [hnm]
      have HNP := Lib.hid hnm
      clear hnm HN
      go_wp2_with fail
      refine (pday_any _ _).mono ?_
      rintro e w' ⟨rfl, rfl⟩
      by_cases hd1 : dayB cut = true
      rotate_left
      · have hnf : dayB cut = false := by simpa using hd1
        rw [hnf]
        have HNO := Lib.hid (show ¬ VyOK _ from (fun h : VyOK ⟨ship, some ⟨b, off, none⟩, n, c, cs⟩ => dayB_no hnf (h.2.1 k _ HXK.out).2.1))
        go_wp2_with fail
        go_ret
        exact mayP_no HB1.out HNO.out
      rw [hd1]
      have HD1 := Lib.hid (dayB_ok hd1)
      clear hd1
      go_wp2_with fail
      refine (pday_any _ _).mono ?_
      rintro e w' ⟨rfl, rfl⟩
      by_cases hd1 : dayB arr = true
      rotate_left
      · have hnf : dayB arr = false := by simpa using hd1
        rw [hnf]
        have HNO := Lib.hid (show ¬ VyOK _ from (fun h : VyOK ⟨ship, some ⟨b, off, none⟩, n, c, cs⟩ => dayB_no hnf (h.2.1 k _ HXK.out).2.2.1))
        go_wp2_with fail
        go_ret
        exact mayP_no HB1.out HNO.out
      rw [hd1]
      have HD2 := Lib.hid (dayB_ok hd1)
      clear hd1
      go_wp2_with fail
      refine (pday_any _ _).mono ?_
      rintro e w' ⟨rfl, rfl⟩
      by_cases hd1 : dayB dep = true
      rotate_left
      · have hnf : dayB dep = false := by simpa using hd1
        rw [hnf]
        have HNO := Lib.hid (show ¬ VyOK _ from (fun h : VyOK ⟨ship, some ⟨b, off, none⟩, n, c, cs⟩ => dayB_no hnf (h.2.1 k _ HXK.out).2.2.2.1))
        go_wp2_with fail
        go_ret
        exact mayP_no HB1.out HNO.out
      rw [hd1]
      have HD3 := Lib.hid (dayB_ok hd1)
      clear hd1
      by_cases hda : dep < arr
      · have HNO := Lib.hid (show ¬ VyOK _ from (fun h : VyOK ⟨ship, some ⟨b, off, none⟩, n, c, cs⟩ => by have h5 := (h.2.1 k _ HXK.out).2.2.2.2.1; dsimp only at h5; omega))
        go_wp2_with fail
        go_ret
        exact mayP_no HB1.out HNO.out
      by_cases hdc : dep < cut
      · have HNO := Lib.hid (show ¬ VyOK _ from (fun h : VyOK ⟨ship, some ⟨b, off, none⟩, n, c, cs⟩ => by have h5 := (h.2.1 k _ HXK.out).2.2.2.2.2; dsimp only at h5; omega))
        go_wp2_with fail
        go_ret
        exact mayP_no HB1.out HNO.out
      have HCK : Hid (ClOK ⟨port, cut, arr, dep⟩) := Lib.hid ⟨HNP.out, HD1.out, HD2.out, HD3.out, by show arr ≤ dep; omega, by show cut ≤ dep; omega⟩
      go_upto_region 10 with (fail)
      rcases Nat.eq_zero_or_pos k with hk0 | hk0
      · subst hk0
        have HF := Lib.hid (hfin.out.up HXK.out HCK.out (fun y h => by omega))
        have g1 : decide ((0 : Int) < ((0 : Nat) : Int)) = false := rfl
        clear hfin
        go_quiet (fail)
        go_wp2_with fail
        go_roundw
        case rel => exact ⟨1, by omega, by go_num, HF, Lib.hid (below_drewN HBV.out _)⟩
        case measure => simp [intOf]; omega
      · obtain ⟨k', rfl⟩ : ∃ k', k = k' + 1 := ⟨k - 1, by omega⟩
        obtain ⟨b', off', y, hAA, hyk, hc⟩ := cl_at HX1.out (k := k') (by omega)
        injection hAA with hAA
        injection hAA with hb' ho' _
        subst hb' ho'
        have HYK := Lib.hid hyk
        obtain ⟨yport, ycut, yarr, ydep⟩ := y
        have d0 := hc 0 _ rfl; have d3 := hc 3 _ rfl
        rw [Nat.add_zero] at d0
        dsimp only at d0 d3
        have g1 : decide ((0 : Int) < ((k' + 1 : Nat) : Int)) = true := decide_eq_true (by omega)
        have km : IntKind.i64.wrap (((k' + 1 : Nat) : Int) - 1) = (k' : Int) := by rw [show ((k' + 1 : Nat) : Int) - 1 = (k' : Int) by omega]; exact IntWalk.i64_in _ (by omega)
        have kn : (k' : Int) < (n : Int) := by omega
        have HMN : Hid (n ≤ 8) := Lib.hid hn
        clear hc hyk
        by_cases hq : (port.toList == yport.toList) = true
        · have HNO : Hid (¬ VyOK ⟨ship, some ⟨b, off, none⟩, n, c, cs⟩) := Lib.hid (fun h => by have h5 := (h.2.2.1 k' _ _ HYK.out HXK.out).1; dsimp only at h5; rw [hq] at h5; cases h5)
          go_quiet (fail)
          go_wp2_with fail
          go_ret
          exact mayP_no (below_drewN HB1.out _) HNO.out
        have hq' : (port.toList == yport.toList) = false := by simpa using hq
        by_cases hz : arr < ydep
        · have hz' : decide (arr < ydep) = true := decide_eq_true hz
          have HNO : Hid (¬ VyOK ⟨ship, some ⟨b, off, none⟩, n, c, cs⟩) := Lib.hid (fun h => by have h5 := (h.2.2.1 k' _ _ HYK.out HXK.out).2; dsimp only at h5; omega)
          go_quiet (fail)
          go_wp2_with fail
          go_ret
          exact mayP_no (below_drewN HB1.out _) HNO.out
        have hz' : decide (arr < ydep) = false := decide_eq_false hz
        have HF := Lib.hid (hfin.out.up HXK.out HCK.out (fun y _ hy => by
          have h1 := HYK.out
          rw [show k' + 1 - 1 = k' by omega] at hy
          rw [hy] at h1
          injection h1 with h1
          rw [h1]
          exact ⟨hq', by show ydep ≤ arr; omega⟩))
        clear hfin
        go_quiet (fail)
        go_wp2_with fail
        go_roundw
        case rel => exact ⟨k' + 2, by omega, by go_num, HF, Lib.hid (below_drewN HBV.out _)⟩
        case measure => simp [intOf]; omega
    · have hkn : n = k := by omega
      subst hkn
      go_wp2_with fail
      go_ret
      have hcl2 := HX.out.len
      exact ⟨true, rfl, fun _ => ⟨HNM.out, fun i x hx => hfin.out.1 i x (by have h := (List.getElem?_eq_some_iff.1 hx).1; dsimp only at h; omega) hx, fun i x y hx hy => hfin.out.2 i x y (by have h := (List.getElem?_eq_some_iff.1 hy).1; dsimp only at h; omega) hx hy, by show 1 ≤ cs.length; omega⟩, fun h => (by cases h), HBW.out⟩
end Go.Proofs.Ytlicmhgpldmliaa.kit
