/- slices.Grow and slices.Concat of two lists of numbers. No condition. -/
import Derived.Test.YtfiflmgjcmmomaaBoP
import Derived.Test.YtfiflmgjcmmomaaShelf
import Derived.Test.YtfiflmgjcmmomaaMore
import Derived.Lib.AppendZeros
namespace Go.Proofs.Ytfiflmgjcmmomaa.cal
open Go.RowKit Go.Proofs.Ytfiflmgjcmmomaa.kit
set_option linter.unusedVariables false

theorem infoInt : (Try.prog.info? 3).map (fun i => (i.zero, i.size, i.bytes)) = some (some (.int .i64 0), 1, 8) := by kernel_rfl
theorem own_zero {w : World} {n C : Nat} {z : Value} {e : TypeId} (hz : z.cells.size = 1) (hC : n ≤ C) (hm : C ≤ maxLen) (base : Nat) (hb : base ≤ w.heap.size) :
    ((w.drew.alloc (.cells (Builtin.zeroCells z.cells n ++ Builtin.zeroCells z.cells (C - n)) e))).ownsRow base e 1 (.slice (some ⟨w.heap.size, 0, none⟩) 0 C) 0 [] := by
  refine ⟨by simp, .inr ⟨w.heap.size, C, _, rfl, hb, heap_alloc_new w.drew _, by omega, hm, ?_, by simp⟩⟩
  simp only [Array.size_append, size_zeroCells, hz]
  omega
set_option maxHeartbeats 1600000 in
theorem grow_any (n : Nat) (hn : n ≤ 1000000) (w : World) :
    Calls Try.prog 54 #[.slice none 0 0, .int .i64 (n : Int)] w fun e w' => ∃ v, e = .returned v ∧ w'.ownsRow w.heap.size 3 1 v 0 [] ∧ Below w.heap.size w w' := by
  by_cases h0 : n = 0
  · subst h0
    have HO := Lib.hid (World.ownsRow_nil w w.heap.size 3 1)
    go_enter Try.func54, Try.ntmps54
    go_wp2_with fail
    go_ret
    exact ⟨_, rfl, HO.out, Below.refl _ _⟩
  · obtain ⟨i, hi, hz0, hz1, hz2⟩ := info_parts infoInt
    obtain ⟨z, hz⟩ : ∃ z, Value.int .i64 0 = z := ⟨_, rfl⟩
    have hz3 : z.cells.size = 1 := by rw [← hz]; rfl
    rw [hz] at hz0
    have hr := fun ty => Lib.run_append_nil_zeros (P := Try.prog) w 22 3 ty 3 i z .i64 .i64 Try.underlying22 Try.underlying3 hi hz0 n (by omega) (by rw [hz1]; omega) (by omega) (by rw [hz2]; omega)
    have hge := grownCap_ge w n 0 3
    have hcm : grownCap w n 0 3 ≤ maxLen := grownCap_le_maxLen w n 0 3 (by unfold maxLen; omega)
    have HO := Lib.hid (own_zero (w := w) (n := n) (C := grownCap w n 0 3) (z := z) (e := 3) hz3 hge hcm w.heap.size (Nat.le_refl _))
    have HB := Lib.hid (show Below w.heap.size w (w.drew.alloc (.cells (Builtin.zeroCells z.cells n ++ Builtin.zeroCells z.cells (grownCap w n 0 3 - n)) 3)) from (below_drewN (Below.refl _ _) 1).alloc (Nat.le_refl _) _)
    have HR := Lib.hid hr
    have d0 : decide ((0 : Int) < (n : Int)) = true := decide_eq_true (by omega)
    have d0n : decide (0 < n) = true := decide_eq_true (by omega)
    obtain ⟨C, hC⟩ : ∃ C, grownCap w n 0 3 = C := ⟨_, rfl⟩
    rw [hC] at HO HB HR hge hcm
    obtain ⟨W', hW'⟩ : ∃ W', w.drew.alloc (.cells (Builtin.zeroCells z.cells n ++ Builtin.zeroCells z.cells (C - n)) 3) = W' := ⟨_, rfl⟩
    rw [hW'] at HO HB HR
    clear hW'
    clear hr hC h0 hz0 hz1 hz2 hz3 hi hz
    go_enter Try.func54, Try.ntmps54
    go_wp2_with (at_builtin; refine Lib.wpList_append_run _ rfl (.tmp 20) (.tmp 21) _ _ rfl _ _ rfl rfl _ _ (HR.out _) ?_)
    all_goals
      go_ret
      exact ⟨_, rfl, HO.out, HB.out⟩
/-! two lists in one -/
theorem int_one (zs : List Int) : ∀ u ∈ zs.flatMap intC, u.oneCell' = true := by
  intro u hu
  obtain ⟨z, _, hz⟩ := List.mem_flatMap.1 hu
  simp [intC] at hz
  subst hz
  rfl
set_option maxRecDepth 100000 in
set_option maxHeartbeats 3200000 in
theorem concat_any (A : Option Addr) (n c : Nat) (xs : List Int) (A2 : Option Addr) (n2 c2 : Nat) (ys : List Int) (g : Nat) (w : World) (hg : Blk w g 22 #[.slice A n c, .slice A2 n2 c2])
    (h1 : SliceOf w 1 intC A n xs) (h2 : SliceOf w 1 intC A2 n2 ys) (m1 : n ≤ 10000) (m2 : n2 ≤ 10000) :
    Calls Try.prog 49 #[.slice (some ⟨g, 0, none⟩) 2 2] w fun e w' => ∃ A' c', e = .returned (.slice A' (n + n2) c') ∧ w'.ownsRow w.heap.size 3 1 (.slice A' (n + n2) c') (n + n2) ((xs ++ ys).flatMap intC) ∧ Below w.heap.size w w' := by
  obtain ⟨i0, hi, hz0, hz1, hz2⟩ := info_parts infoInt
  have g0 := hg.cell 0; have g1 := hg.cell 1
  simp only [List.getElem?_toArray, List.getElem?_cons_zero, List.getElem?_cons_succ] at g0 g1
  have HG := Lib.hid (grow_any (n + n2) (by omega) w)
  have H1 := Lib.hid h1
  have H2 := Lib.hid h2
  have HK := Lib.hid hg
  clear h1 h2 hg
  have hs1 : ((n + n2 : Nat) : Int) = (n : Int) + (n2 : Int) := by omega
  go_enter Try.func49, Try.ntmps49
  go_wp2_with fail
  go_loop [3, 11] (fun sz i => ∃ k : Nat, k ≤ 2 ∧ i = .int .i64 k ∧ sz = .int .i64 (if k = 0 then (0 : Int) else if k = 1 then (n : Int) else (n : Int) + (n2 : Int))) (fun _ i => 2 - (intOf i).toNat)
  case atStart => exact ⟨0, by omega, rfl, rfl⟩
  case round =>
    obtain ⟨k, hk, rfl, rfl⟩ := hrel
    have hk3 : k = 0 ∨ k = 1 ∨ k = 2 := by omega
    rcases hk3 with rfl | rfl | rfl
    · go_wp2_with fail
      go_round
      case rel => exact ⟨1, by omega, rfl, by simp⟩
      case measure => simp [intOf]
    · go_wp2_with fail
      go_round
      case rel => exact ⟨2, by omega, rfl, by simp⟩
      case measure => simp [intOf]
    · rw [hs1] at HG
      go_wp2_with fail
      refine HG.out.mono ?_
      rintro e w2 ⟨v, rfl, hown, hb2⟩
      obtain ⟨A0, c0, rfl⟩ : ∃ A0 c0, v = .slice A0 0 c0 := by
        rcases hown.2 with ⟨hv, _⟩ | ⟨g, cap, cur, hv, _⟩
        · exact ⟨none, 0, hv⟩
        · exact ⟨_, _, hv⟩
      have HO0 := Lib.hid hown
      clear hown HG g0 g1
      go_wp2_with fail
      go_loopw [6, 27] (fun vv i wr => ∃ (k m : Nat) (A' : Option Addr) (c' : Nat) (zs : List Int), k ≤ 2 ∧ i = .int .i64 k ∧ vv = .slice A' m c' ∧ Hid (m = zs.length ∧ zs = (if k = 0 then [] else if k = 1 then xs else xs ++ ys)) ∧ Below w.heap.size w wr ∧ Hid (wr.ownsRow w.heap.size 3 1 (.slice A' m c') m (zs.flatMap intC))) (fun _ i _ => 2 - (intOf i).toNat)
      case atStart => exact ⟨0, 0, A0, c0, [], by omega, rfl, rfl, Lib.hid ⟨rfl, rfl⟩, hb2, HO0⟩
      case round =>
        clear HO0 hb2
        obtain ⟨k, m, A', c', zs, hk, rfl, rfl, hz, hBw, hown⟩ := hrel
        have hkb := HK.out.below hBw HK.out.lt
        have g0 := hkb.cell 0; have g1 := hkb.cell 1
        simp only [List.getElem?_toArray, List.getElem?_cons_zero, List.getElem?_cons_succ] at g0 g1
        clear hkb
        have hk3 : k = 0 ∨ k = 1 ∨ k = 2 := by omega
        rcases hk3 with rfl | rfl | rfl
        · obtain ⟨hm, hzs⟩ := hz.out
          simp only [if_true] at hzs
          subst hzs
          simp only [List.length_nil] at hm
          subst hm
          have HX := Lib.hid (H1.out.below hBw)
          have HBW := Lib.hid hBw
          clear hz hBw
          go_wp2_with (at_builtin; refine wpList_append_any_s _ rfl (.tmp 31) (.tmp 32) _ rfl w.heap.size 3 i0 _ 1 8 Try.underlying22 hi hz0 hz1 hz2 rfl (by omega) (.slice A' 0 c') 0 _ rfl hown.out _ A n c (xs.flatMap intC) rfl (HX.out.reads (fun _ => rfl)) (int_one _) (by unfold maxLen; omega) (by omega) HBW.out.size ?_; intro A9 c9 w9 hown1 hg1 hloc1; have hB9 : Below w.heap.size w w9 := HBW.out.grown hg1 HBW.out.size (fun k hk => (hown.out.lt k hk).1); simp only [Nat.zero_add, List.flatMap_nil, List.nil_append] at hown1; have HO9 := Lib.hid hown1; clear hown1 hg1 hloc1)
          go_roundw
          case rel => exact ⟨1, n, A9, c9, xs, by omega, rfl, by simp, Lib.hid ⟨H1.out.len.symm, rfl⟩, hB9, HO9⟩
          case measure => simp [intOf]
        · obtain ⟨hm, hzs⟩ := hz.out
          simp only [if_true, Nat.one_ne_zero, if_false] at hzs
          subst hzs
          have hmn : m = n := hm.trans H1.out.len
          subst hmn
          have HX := Lib.hid (H2.out.below hBw)
          have HBW := Lib.hid hBw
          clear hz hBw hm
          go_wp2_with (at_builtin; refine wpList_append_any_s _ rfl (.tmp 31) (.tmp 32) _ rfl w.heap.size 3 i0 _ 1 8 Try.underlying22 hi hz0 hz1 hz2 rfl (by omega) (.slice A' m c') m _ rfl hown.out _ A2 n2 c2 (ys.flatMap intC) rfl (HX.out.reads (fun _ => rfl)) (int_one _) (by unfold maxLen; omega) (by omega) HBW.out.size ?_; intro A9 c9 w9 hown1 hg1 hloc1; have hB9 : Below w.heap.size w w9 := HBW.out.grown hg1 HBW.out.size (fun k hk => (hown.out.lt k hk).1); rw [← List.flatMap_append] at hown1; have HO9 := Lib.hid hown1; clear hown1 hg1 hloc1)
          go_roundw
          case rel => exact ⟨2, m + n2, A9, c9, zs ++ ys, by omega, rfl, rfl, Lib.hid ⟨by rw [List.length_append, H1.out.len, H2.out.len], rfl⟩, hB9, HO9⟩
          case measure => simp [intOf]
        · obtain ⟨hm, hzs⟩ := hz.out
          have hzs : zs = xs ++ ys := hzs
          subst hzs
          have hmn : m = n + n2 := by rw [hm, List.length_append, H1.out.len, H2.out.len]
          subst hmn
          clear hz hm
          have HBW := Lib.hid hBw
          go_wp2_with fail
          go_ret
          exact ⟨A', c', rfl, hown.out, HBW.out⟩
end Go.Proofs.Ytfiflmgjcmmomaa.cal
