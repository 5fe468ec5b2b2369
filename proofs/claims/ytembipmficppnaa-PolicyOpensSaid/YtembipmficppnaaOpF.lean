/- The three checks of draws, each a closure. No condition. -/
import Derived.Test.YtembipmficppnaaOpE
import Derived.Test.YtembipmficppnaaOpA
import Derived.Test.YtembipmficppnaaMayA
namespace Go.Proofs.Ytembipmficppnaa.kit
open Go.RowKit
set_option linter.unusedVariables false

structure OMem (w0 : World) (p : Pol) (A : Option Addr) (n c : Nat) (g : Nat) (S : Int) (w : World) : Prop where
  bel : Below w0.heap.size w0 w
  le : w0.heap.size ≤ g
  pol : Blk w g 24 #[.string p.ins, .string p.fr, .string p.dst, .int .i64 p.sum, .int .i64 p.own, .slice p.cA p.cn p.cc, .int .i64 p.first, .int .i64 p.last, .int .i64 p.share]
  dl : Blk w (g + 1) 39 #[.slice A n c]
  left_ : Blk w (g + 2) 2 #[.int .i64 S]
theorem OMem.below {w0 w w' : World} {p : Pol} {A : Option Addr} {n c g : Nat} {S : Int} (h : OMem w0 p A n c g S w) (hb : Below w.heap.size w w') : OMem w0 p A n c g S w' :=
  ⟨h.bel.trans (hb.mono h.bel.size), h.le, h.pol.below hb h.pol.lt, h.dl.below hb h.dl.lt, h.left_.below hb h.left_.lt⟩
theorem KeptD.of (g : Nat) {w w' : World} (h : Below w.heap.size w w') : KeptD g w w' := fun _ _ _ _ hk => hk.below h hk.lt
section
variable (w0 : World) (p : Pol) (A : Option Addr) (n c : Nat) (xs : List Dr) (g : Nat) (S : Int) (w : World)
set_option maxRecDepth 100000 in
set_option maxHeartbeats 1600000 in
theorem open1 (hp : p.ok w0) (hx : SliceOf w0 2 drC A n xs) (hm : n ≤ 1000) (h : OMem w0 p A n c g S w) :
    Calls Try.prog 33 #[.pointer (some ⟨g, 0, none⟩), .pointer (some ⟨g + 1, 0, none⟩)] w fun e w' => e = .returned (.bool (!(mayP p && drawsF (-1) xs))) ∧ OMem w0 p A n c g S w' ∧ KeptD (g + 2) w w' := by
  have HM := Lib.hid h
  have HX := Lib.hid hx
  have HP := Lib.hid hp
  have hk0 := h.pol
  have a0 := hk0.cell 0; have a1 := hk0.cell 1; have a2 := hk0.cell 2; have a3 := hk0.cell 3; have a4 := hk0.cell 4; have a5 := hk0.cell 5; have a6 := hk0.cell 6; have a7 := hk0.cell 7; have a8 := hk0.cell 8
  simp only [List.getElem?_toArray, List.getElem?_cons_zero, List.getElem?_cons_succ] at a0 a1 a2 a3 a4 a5 a6 a7 a8
  clear hk0 h hx hp
  cases e0 : mayP p
  · have H1 := Lib.hid (may_any p w (HP.out.below HM.out.bel))
    rw [e0] at H1
    clear e0
    go_enter Try.func33, Try.ntmps33
    go_wp2_with fail
    refine H1.out.mono ?_
    rintro e w1 ⟨rfl, hb1⟩
    go_wp2_with fail
    go_ret
    exact ⟨rfl, HM.out.below hb1, .of _ hb1⟩
  · have H1 := Lib.hid (may_any p w (HP.out.below HM.out.bel))
    rw [e0] at H1
    clear e0
    go_enter Try.func33, Try.ntmps33
    go_wp2_with fail
    refine H1.out.mono ?_
    rintro e w1 ⟨rfl, hb1⟩
    have HM1 := Lib.hid (HM.out.below hb1)
    have b0 := HM1.out.dl.cell 0
    simp only [List.getElem?_toArray, List.getElem?_cons_zero] at b0
    clear a0 a1 a2 a3 a4 a5 a6 a7 a8
    go_wp2_with fail
    refine (drawsMay_any A n c xs w1 (HX.out.below HM1.out.bel) hm).mono ?_
    rintro e w2 ⟨rfl, hb2⟩
    go_wp2_with fail
    go_ret
    exact ⟨ret_bool (by simp), HM1.out.below hb2, (KeptD.of _ hb1).trans (.of _ hb2)⟩
set_option maxRecDepth 100000 in
set_option maxHeartbeats 1600000 in
theorem open2 (hx : SliceOf w0 2 drC A n xs) (hm : n ≤ 1000) (h : OMem w0 p A n c g S w) :
    Calls Try.prog 35 #[.pointer (some ⟨g + 1, 0, none⟩), .pointer (some ⟨g, 0, none⟩)] w fun e w' => e = .returned (.bool (xs.any (lateB p))) ∧ OMem w0 p A n c g S w' ∧ KeptD (g + 2) w w' := by
  have HM := Lib.hid h
  have HX := Lib.hid hx
  have b0 := h.dl.cell 0
  simp only [List.getElem?_toArray, List.getElem?_cons_zero] at b0
  clear h hx
  go_enter Try.func35, Try.ntmps35
  go_wp2_with fail
  refine (anyLate_any p g A n c xs w HM.out.pol (HX.out.below HM.out.bel) (by unfold maxLen; omega)).mono ?_
  rintro e w1 ⟨rfl, hb1⟩
  go_wp2_with fail
  go_ret
  exact ⟨rfl, HM.out.below hb1, .of _ hb1⟩
set_option maxRecDepth 100000 in
set_option maxHeartbeats 1600000 in
theorem open3 (hx : SliceOf w0 2 drC A n xs) (hm : n ≤ 1000) (hS : 0 ≤ S ∧ S ≤ 1099511627776) (ham : ∀ x ∈ xs, 1 ≤ x.am ∧ x.am ≤ 1099511627776) (h : OMem w0 p A n c g S w) :
    Calls Try.prog 38 #[.pointer (some ⟨g + 1, 0, none⟩), .pointer (some ⟨g + 2, 0, none⟩)] w fun e w' => e = .returned (.bool (decide (S < tot xs))) ∧ (tot xs ≤ S → OMem w0 p A n c g (S - tot xs) w') ∧ Below w0.heap.size w0 w' ∧ KeptD (g + 2) w w' := by
  have HM := Lib.hid h
  have HO := Lib.hid (over_yes (g + 2) A n c xs S w0 w h.bel (by have := h.le; omega) h.left_ hx hm hS ham)
  have b0 := h.dl.cell 0
  simp only [List.getElem?_toArray, List.getElem?_cons_zero] at b0
  clear h hx ham
  go_enter Try.func38, Try.ntmps38
  go_wp2_with fail
  refine HO.out.mono ?_
  rintro e w1 ⟨rfl, hl, hb1, hk1⟩
  have HL := Lib.hid hl
  clear hl
  go_wp2_with fail
  go_ret
  exact ⟨rfl, fun hle => ⟨hb1, HM.out.le, hk1 _ _ _ (by omega) HM.out.pol, hk1 _ _ _ (by omega) HM.out.dl, HL.out hle⟩, hb1, hk1⟩
end
end Go.Proofs.Ytembipmficppnaa.kit
