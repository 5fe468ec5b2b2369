/- Papers of a deal: a field's value, rules that are alike, marks and contents of no boxes. No condition. -/
import Derived.Test.YtlicmhgpldmliaaDoorPpA
import Derived.Maps.RangeWalk
namespace Go.Proofs.YtlicmhgpldmliaaDoor.kit
open Go.RowKit Go.PlainAid
set_option linter.unusedVariables false

set_option maxRecDepth 100000 in
theorem clo_place (nm : ByteArray) (g : Nat) (x : Fd) (w : World) (hk : w.cell? ⟨g, 0, none⟩ = some (.string nm)) : Calls Tryd.prog 50 #[.agg #[.string x.1, .string x.2], .pointer (some ⟨g, 0, none⟩)] w fun e w' => e = .returned (.bool (x.1.toList == nm.toList)) ∧ Below w.heap.size w w' := by
  have hB0 : Below w.heap.size w (w.alloc (.cells #[.string x.1, .string x.2] 88)) := one_alloc _ _
  have hlt := World.block_lt_of_cell? w _ hk
  have hk1 := (hB0.cell (p := ⟨g, 0, none⟩) hlt).trans hk
  go_enter Tryd.func50, Tryd.ntmps50
  go_wp2_with fail
  go_ret
  exact ⟨rfl, hB0⟩
set_option maxRecDepth 100000 in
set_option maxHeartbeats 1600000 in
theorem idx_place (nm : ByteArray) (g : Nat) (A : Option Addr) (n c : Nat) (xs : List Fd) (w : World) (hk : w.cell? ⟨g, 0, none⟩ = some (.string nm)) (hx : SliceOf w 2 fdC A n xs) (hm : n ≤ 100) :
    Calls Tryd.prog 49 #[.slice A n c, .func (.func 50) #[] #[.pointer (some ⟨g, 0, none⟩)]] w fun e w' => ∃ r : Int, e = .returned (.int .i64 r) ∧ (r = -1 ∨ 0 ≤ r ∧ r < n) ∧ Below w.heap.size w w' := by
  have HX := Lib.hid hx
  have HK := Lib.hid hk
  have hlt0 := World.block_lt_of_cell? w _ hk
  have hxl := hx.len
  clear hx hk
  go_enter Tryd.func49, Tryd.ntmps49
  go_wp2_with fail
  go_loopw [8] (fun i wr => ∃ k : Nat, k ≤ n ∧ i = .int .i64 k ∧ Hid (Below w.heap.size w wr)) (fun i _ => n - (intOf i).toNat)
  case atStart => exact ⟨0, Nat.zero_le _, rfl, Lib.hid (Below.refl _ _)⟩
  case round =>
    obtain ⟨k, hk, rfl, hbel⟩ := hrel
    by_cases hlt : k < n
    · obtain ⟨b, off, x, rfl, hx, c0, c1⟩ := get_fd (HX.out.below hbel.out) hlt
      have hkr := (hbel.out.cell (p := ⟨g, 0, none⟩) hlt0).trans HK.out
      have i0 : (k : Int) < (n : Int) := by omega
      have HC := Lib.hid (clo_place nm g x wr hkr)
      cases hq : (x.1.toList == nm.toList)
      · rw [hq] at HC
        clear hq hx hkr
        go_wp2_with fail
        refine HC.out.mono ?_
        rintro e w3 ⟨rfl, hb3⟩
        have hB3 := Lib.hid (hbel.out.trans (hb3.mono hbel.out.size))
        clear c0 c1 hb3
        go_wp2_with fail
        go_roundw
        case rel => exact ⟨k + 1, by omega, by go_num, hB3⟩
        case measure => simp [intOf]; omega
      · rw [hq] at HC
        clear hq hx hkr
        go_wp2_with fail
        refine HC.out.mono ?_
        rintro e w3 ⟨rfl, hb3⟩
        have hB3 := Lib.hid (hbel.out.trans (hb3.mono hbel.out.size))
        clear c0 c1 hb3
        go_wp2_with fail
        go_ret
        exact ⟨k, rfl, .inr ⟨by omega, by omega⟩, hB3.out⟩
    · go_wp2_with fail
      go_ret
      exact ⟨-1, rfl, .inl rfl, hbel.out⟩
set_option maxRecDepth 100000 in
theorem place_any (nm : ByteArray) (A : Option Addr) (n c : Nat) (xs : List Fd) (w : World) (hx : SliceOf w 2 fdC A n xs) (hm : n ≤ 100) :
    Calls Tryd.prog 38 #[.slice A n c, .string nm] w fun e w' => ∃ r : Int, e = .returned (.int .i64 r) ∧ (r = -1 ∨ 0 ≤ r ∧ r < n) ∧ Below w.heap.size w w' := by
  have hB0 := one_alloc w (.cells #[.string nm] 9)
  have hk0 := (Blk.new w 9 #[.string nm]).cell 0
  simp only [List.getElem?_toArray, List.getElem?_cons_zero] at hk0
  have HX := Lib.hid (hx.below hB0)
  have HB0 := Lib.hid hB0
  clear hx hB0
  go_enter Tryd.func38, Tryd.ntmps38
  go_wp2_with fail
  refine (idx_place nm _ A n c xs _ hk0 HX.out hm).mono ?_
  rintro e w3 ⟨r, rfl, hr, hb3⟩
  go_wp2_with fail
  go_ret
  exact ⟨r, rfl, hr, HB0.out.trans (hb3.mono HB0.out.size)⟩
set_option maxRecDepth 100000 in
theorem get_any (nm : ByteArray) (A : Option Addr) (n c : Nat) (xs : List Fd) (w : World) (hx : SliceOf w 2 fdC A n xs) (hm : n ≤ 100) :
    Calls Tryd.prog 30 #[.slice A n c, .string nm] w fun e w' => ∃ (s : ByteArray) (b : Bool), e = .returned (.tuple #[.string s, .bool b]) ∧ Below w.heap.size w w' := by
  have HX := Lib.hid hx
  clear hx
  go_enter Tryd.func30, Tryd.ntmps30
  go_wp2_with fail
  refine (place_any nm A n c xs _ HX.out hm).mono ?_
  rintro e w1 ⟨r, rfl, hr, hb1⟩
  have HB1 := Lib.hid hb1
  rcases hr with rfl | ⟨h0, h1⟩
  · clear hb1
    go_wp2_with fail
    go_ret2
    exact ⟨_, _, rfl, HB1.out⟩
  · obtain ⟨k, rfl⟩ : ∃ k : Nat, r = k := ⟨r.toNat, by omega⟩
    obtain ⟨b, off, x, rfl, hxk, c0, c1⟩ := get_fd (HX.out.below hb1) (k := k) (by omega)
    clear hb1 hxk
    go_wp2_with fail
    go_ret2
    exact ⟨_, _, rfl, HB1.out⟩
theorem infoNd : (Tryd.prog.info? 59).map (fun i => (i.zero, i.size, i.bytes)) = some (some (.agg #[.int .i64 0, .int .i64 0, .string ⟨#[]⟩, .string ⟨#[]⟩, .int .i64 0, .slice none 0 0]), 6, 80) := by kernel_rfl
abbrev Nd := ByteArray × ByteArray
def ndC (x : Nd) : List Value := [.int .i64 3, .int .i64 0, .string x.1, .string x.2, .int .i64 0, .slice none 0 0]
theorem nd_len (x : Nd) : (ndC x).length = 6 := rfl
set_option maxRecDepth 100000 in
set_option maxHeartbeats 3200000 in
theorem alike_any (k : Int) (nu is : ByteArray) (A : Option Addr) (n c : Nat) (fs : List Fd) (B : Option Addr) (m d : Nat) (xs : List ByteArray) (w : World) (hx : SliceOf w 2 fdC A n fs) (hm : n ≤ 100) (hy : SliceOf w 1 strC B m xs) (hm' : m ≤ 50) :
    Calls Tryd.prog 23 #[.agg #[.int .i64 k, .string nu, .string is, .slice A n c], .slice B m d] w fun e w' => ∃ (C : Option Addr) (e' : Nat), e = .returned (.slice C m e') ∧ Below w.heap.size w w' := by
  have hB0 := one_alloc w (.cells #[.int .i64 k, .string nu, .string is, .slice A n c] 66)
  have HB0 := Lib.hid hB0
  have HK0 := Lib.hid (Blk.new w 66 #[.int .i64 k, .string nu, .string is, .slice A n c])
  have HX := Lib.hid (hx.below hB0)
  have HY := Lib.hid (hy.below hB0)
  obtain ⟨i0, hi, hz0, hz1, hz2⟩ := info_parts infoNd
  clear hx hy hB0
  go_enter Tryd.func23, Tryd.ntmps23
  go_wp2_with fail
  go_loopw [5, 12] (fun v i wr => ∃ (q : Nat) (ns : List Nd), q ≤ m ∧ ns.length = q ∧ i = .int .i64 q ∧ Hid (wr.ownsRow (w.heap.size + 1) 59 6 v q (ns.flatMap ndC)) ∧ Hid (Below (w.heap.size + 1) (w.alloc (.cells #[.int .i64 k, .string nu, .string is, .slice A n c] 66)) wr)) (fun _ i _ => m - (intOf i).toNat)
  case atStart => exact ⟨0, [], by omega, rfl, rfl, Lib.hid (World.ownsRow_nil _ _ _ _), Lib.hid (Below.refl _ _)⟩
  case round =>
    obtain ⟨q, ns, hq, hns, rfl, hown, hbw⟩ := hrel
    have hsz : (w.alloc (.cells #[.int .i64 k, .string nu, .string is, .slice A n c] 66)).heap.size = w.heap.size + 1 := Array.size_push _
    have HSZ := Lib.hid hsz
    have hbw' : Below (w.alloc (.cells #[.int .i64 k, .string nu, .string is, .slice A n c] 66)).heap.size (w.alloc (.cells #[.int .i64 k, .string nu, .string is, .slice A n c] 66)) wr := by rw [hsz]; exact hbw.out
    have HWR : Hid (Below w.heap.size w wr) := Lib.hid (HB0.out.trans (hbw.out.mono (Nat.le_succ _)))
    by_cases hlt : q < m
    · obtain ⟨b, off, x, rfl, hxq, c0⟩ := get_str (HY.out.below hbw') hlt
      have hkr := HK0.out.below hbw' HK0.out.lt
      have a3 := hkr.cell 3
      simp only [List.getElem?_toArray, List.getElem?_cons_zero, List.getElem?_cons_succ] at a3
      have HXR := Lib.hid (HX.out.below hbw')
      have i0' : (q : Int) < (m : Int) := by omega
      clear hkr hxq hbw' hsz
      go_wp2_with fail
      refine (get_any x A n c fs _ HXR.out hm).mono ?_
      rintro e w1 ⟨s, bb, rfl, hb1⟩
      have HW1 := Lib.hid (hbw.out.trans (hb1.mono (by have := HK0.out.lt; have := hbw.out.size; omega)))
      have HO1 := Lib.hid (own_kept_below hown.out hb1)
      have HWW := Lib.hid (HWR.out.trans (hb1.mono HWR.out.size))
      clear hb1 c0 a3
      go_wp2_with fail
      refine (is_any x s _).mono ?_
      rintro e w2 ⟨rfl, hb2⟩
      have hq0 : 0 < 6 := by omega
      have hq3 : q + 1 ≤ maxLen := by unfold maxLen; omega
      have hq4 : (q + 1) * 80 ≤ 140737488355328 := by omega
      have hq5 : ∀ u ∈ ([.int .i64 3, .int .i64 0, .string x, .string s, .int .i64 0, .slice none 0 0] : List Value), u.oneCell' = true := by simp [Value.oneCell']
      have HO2 := Lib.hid ((own_kept_below HO1.out hb2).alloc (.cells #[.int .i64 3, .int .i64 0, .string x, .string s, .int .i64 0, .slice none 0 0] 59))
      have HB2 := Lib.hid ((HW1.out.trans (hb2.mono (by have := HW1.out.size; have := HK0.out.lt; have := hbw.out.size; omega))).alloc (by have := hb2.size; have := HW1.out.size; have := HSZ.out; omega) (.cells #[.int .i64 3, .int .i64 0, .string x, .string s, .int .i64 0, .slice none 0 0] 59))
      have HSX : Hid (w.heap.size + 1 ≤ (w2.alloc (.cells #[.int .i64 3, .int .i64 0, .string x, .string s, .int .i64 0, .slice none 0 0] 59)).heap.size) := Lib.hid (by rw [size_alloc]; have := hb2.size; have := HW1.out.size; have := HSZ.out; omega)
      have HNW := Lib.hid (news_at w2 #[.int .i64 3, .int .i64 0, .string x, .string s, .int .i64 0, .slice none 0 0] 59 w2.heap.size rfl)
      clear hb2
      go_wp2_with (go_loud (at_builtin; refine wpList_append_own_at _ rfl (.tmp 23) (.tmp 27) 57 rfl (w.heap.size + 1) 59 i0 _ 6 80 Tryd.underlying57 hi hz0 hz1 hz2 rfl hq0 _ q _ rfl HO2.out ⟨w2.heap.size, 0, none⟩ 1 1 [.int .i64 3, .int .i64 0, .string x, .string s, .int .i64 0, .slice none 0 0] rfl rfl HNW.out hq5 hq3 hq4 HSX.out ?_; intro v9 w9 hown9 hg9 hl0 hl1; have HB9 := Lib.hid (below_grown_own HB2.out HSX.out HO2.out hg9); have HO9 := Lib.hid hown9; clear hown9 hg9 hl0 hl1))
      go_roundw
      case rel => exact ⟨q + 1, ns ++ [(x, s)], by omega, by simp [hns], by go_num, Lib.hid (by rw [List.flatMap_append]; exact HO9.out), HB9⟩
      case measure => simp [intOf]; omega
    · have hqm : m = q := by omega
      subst hqm
      obtain ⟨C, e', rfl⟩ := own_slice hown.out
      go_wp2_with fail
      go_ret
      exact ⟨C, e', rfl, HWR.out⟩
end Go.Proofs.YtlicmhgpldmliaaDoor.kit
