/- LayCuts: any stretches, cut at any hour, are what the chapter says; right ones that are cut, put together again, are right, and use the same. No condition. -/
import Derived.Test.YtfjanoimhkddbaaSplit
namespace Go.Proofs.Ytfjanoimhkddbaa
open Go.RowKit Go.Proofs.Ytfjanoimhkddbaa.kit
set_option linter.unusedVariables false

theorem cells_one (u : List Str) : ∀ v ∈ u.flatMap Str.cells, v.oneCell' = true := by
  intro v hv
  obtain ⟨x, _, hx⟩ := List.mem_flatMap.1 hv
  simp [Str.cells] at hx
  rcases hx with rfl | rfl | rfl <;> rfl

set_option maxHeartbeats 1000000 in
theorem layCuts_walk (l : Lay) (A : Option Addr) (n c : Nat) (xs : List Str) (at_ : Int) (w : World) (hx : SliceOf w 3 Str.cells A n xs) (hm : n ≤ maxLen) :
    Calls Try.prog 4 #[.agg #[.int .i64 l.free, .int .i64 l.late, .int .i64 l.soon], .slice A n c, .int .i64 at_] w fun e w' => e = .returned (.bool true) ∧ Below w.heap.size w w' := by
  have HX := Lib.hid hx
  obtain ⟨i0, hi, hz0, hz1, hz2⟩ := info_parts infoS
  obtain ⟨hB0, hk0⟩ := boxed w l
  go_enter Try.func4, Try.ntmps4
  go_wp2_with fail
  refine (awake_any _).mono ?_
  rintro e w1 ⟨rfl, hb1⟩
  have hB1 : Below w.heap.size w w1 := hB0.trans (hb1.mono (by simp))
  have hk1 := hk0.below hb1 hk0.lt
  clear hB0 hk0 hb1
  by_cases hn : 30 < n
  · have hn' : (30 : Int) < (n : Int) := by omega
    go_wp2_with fail
    go_ret
    exact ⟨rfl, hB1⟩
  have hn' : ¬ (30 : Int) < (n : Int) := by omega
  go_wp2_with fail
  refine (long_any 2000 (by omega) _ _ _ xs _ (HX.out.below hB1) hm).mono ?_
  rintro e w2 ⟨rfl, hb2⟩
  have hB2 : Below w.heap.size w w2 := hB1.trans (hb2.mono hB1.size)
  have hk2 := hk1.below hb2 hk1.lt
  clear hB1 hk1 hb2
  by_cases hlong : long xs 2000 = true
  · go_wp2_with fail
    go_ret
    exact ⟨rfl, hB2⟩
  have hlong' : long xs 2000 = false := by simpa using hlong
  clear hlong
  have hn4 : n ≤ 30 := by omega
  have hxl := hx.len
  have hla := (cut_len at_ xs).1
  have hlb := (cut_len at_ xs).2
  rw [hxl] at hla hlb
  clear hx hn
  go_wp2_with fail
  refine (cut_any at_ _ _ _ xs _ (HX.out.below hB2) (by omega)).mono ?_
  rintro e w3 ⟨A1, a1, B1, b1, rfl, hs1, hs2, hb3⟩
  have hB3 : Below w.heap.size w w3 := hB2.trans (hb3.mono hB2.size)
  have hk3 := hk2.below hb3 hk2.lt
  clear hB2 hk2 hb3
  go_wp2_with fail
  refine (rcut_any at_ _ _ _ xs _ (HX.out.below hB3) (by omega)).mono ?_
  rintro e w4 ⟨A2, a2, B2, b2, rfl, hs3, hs4, hb4⟩
  have hB4 : Below w.heap.size w w4 := hB3.trans (hb4.mono hB3.size)
  have hk4 := hk3.below hb4 hk3.lt
  have S1 := Lib.hid (hs1.below hb4)
  have S2 := Lib.hid (hs2.below hb4)
  have S3 := Lib.hid hs3
  have S4 := Lib.hid hs4
  clear hB3 hk3 hb4 hs1 hs2 hs3 hs4
  go_wp2_with fail
  refine (same_any _ _ _ _ _ (cutA at_ xs) _ S1.out S3.out (by omega)).mono ?_
  rintro e w5 ⟨rfl, hb5⟩
  have hB5 : Below w.heap.size w w5 := hB4.trans (hb5.mono hB4.size)
  have hk5 := hk4.below hb5 hk4.lt
  have T1 := Lib.hid (S1.out.below hb5)
  have T2 := Lib.hid (S2.out.below hb5)
  have T4 := Lib.hid (S4.out.below hb5)
  clear hB4 hk4 hb5 S1 S2 S3 S4
  go_wp2_with fail
  refine (same_any _ _ _ _ _ (cutB at_ xs) _ T2.out T4.out (by omega)).mono ?_
  rintro e w6 ⟨rfl, hb6⟩
  have hB6 : Below w.heap.size w w6 := hB5.trans (hb6.mono hB5.size)
  have hk6 := hk5.below hb6 hk5.lt
  have S1 := Lib.hid (T1.out.below hb6)
  have S2 := Lib.hid (T2.out.below hb6)
  clear hB5 hk5 hb6 T1 T2 T4
  go_wp2_with fail
  refine (rcheck_any _ _ _ xs _ (HX.out.below hB6) hm).mono ?_
  rintro e w7 ⟨rfl, hb7⟩
  have hB7 : Below w.heap.size w w7 := hB6.trans (hb7.mono hB6.size)
  have hk7 := hk6.below hb7 hk6.lt
  have T1 := Lib.hid (S1.out.below hb7)
  have T2 := Lib.hid (S2.out.below hb7)
  clear hB6 hk6 hb7 S1 S2
  by_cases hk : (chk 0 0 xs).2 = 0
  · have hk' : ((chk 0 0 xs).2 != 0) = false := by simp [hk]
    have a0 := hk7.cell 0; have a1' := hk7.cell 1; have a2' := hk7.cell 2; simp at a0 a1' a2'
    have HK := Lib.hid hk
    clear hk
    go_wp2_with fail
    refine (rmay_any l _).mono ?_
    rintro e w8 ⟨rfl, hb8⟩
    have hB8 : Below w.heap.size w w8 := hB7.trans (hb8.mono hB7.size)
    have hk8 := hk7.below hb8 hk7.lt
    have S1 := Lib.hid (T1.out.below hb8)
    have S2 := Lib.hid (T2.out.below hb8)
    clear hB7 hk7 hb8 T1 T2 a0 a1' a2'
    by_cases hl : l.may = true
    · have hw : wr l xs = 0 := by unfold wr; rw [if_pos hl]; exact HK.out
      have hg := good_chk HK.out
      have hf : 0 ≤ l.free := by simp [Lay.may] at hl; omega
      obtain ⟨jg, _, jl⟩ := joined_good at_ xs hg
      have jc : chk 0 0 (joined at_ xs) = (((joined at_ xs).length : Int), 0) := by
        have := chk_good (joined at_ xs) 0 0 jg (fun h => absurd h (by omega)) (by omega)
        simpa using this
      have hwj : wr l (joined at_ xs) = 0 := by unfold wr; rw [if_pos hl, jc]
      have e1 : usedV l xs = (usesF (2 * l.free) xs, 0) := by unfold usedV; rw [if_pos hw]
      have e2 : usedV l (joined at_ xs) = (usesF (2 * l.free) xs, 0) := by unfold usedV; rw [if_pos hwj, usesF_joined (by omega) at_ xs hg]
      have HE1 := Lib.hid e1
      have HE2 := Lib.hid e2
      have HJ := Lib.hid jc
      have hjl : (joined at_ xs).length = (cutA at_ xs).length + (cutB at_ xs).length := by unfold joined; rw [List.length_append]
      have hjl' : (joined at_ xs).length ≤ 31 := by omega
      have HJL := Lib.hid hjl
      clear hw hg hf jg jl jc hwj e1 e2 hjl
      have HEM : Hid ((w8.alloc (.cells #[] 47)).ownsRow w8.heap.size 47 3 (.slice (some ⟨w8.heap.size, 0, none⟩) 0 0) 0 []) :=
        ⟨rfl, .inr ⟨w8.heap.size, 0, #[], rfl, Nat.le_refl _, Blk.new _ _ _, Nat.le_refl _, Nat.zero_le _, rfl, rfl⟩⟩
      have hA8 : Below w8.heap.size w8 (w8.alloc (.cells #[] 47)) := (Below.refl _ _).alloc (Nat.le_refl _) _
      go_wp2_with (first
        | (at_builtin; refine wpList_append_any_s _ rfl (.tmp 63) (.tmp 64) _ rfl w8.heap.size 47 i0 _ 3 24 Try.underlying24 hi hz0 hz1 hz2 rfl (by omega) (.slice (some ⟨w8.heap.size, 0, none⟩) 0 0) 0 [] rfl HEM.out _ A1 (cutA at_ xs).length a1 ((cutA at_ xs).flatMap Str.cells) rfl ((S1.out.below hA8).reads cells_len) (cells_one _) (by unfold maxLen; omega) (by omega) (by simp) ?_; intro A3 c3 w9 hown1 hg1 hloc1; have hb9 : Below w8.heap.size w8 w9 := hA8.grown hg1 (by simp) (by simp [Value.ownBlock]); simp only [Nat.zero_add, List.nil_append] at hown1; have HO1 := Lib.hid hown1; clear hown1 hg1 hloc1)
        | (at_builtin; refine wpList_append_any_s _ rfl (.tmp 65) (.tmp 66) _ rfl w8.heap.size 47 i0 _ 3 24 Try.underlying24 hi hz0 hz1 hz2 rfl (by omega) (.slice A3 (0 + (cutA at_ xs).length) c3) (cutA at_ xs).length ((cutA at_ xs).flatMap Str.cells) (by simp [go_sem]) (by simpa using HO1.out) _ B1 (cutB at_ xs).length b1 ((cutB at_ xs).flatMap Str.cells) rfl ((S2.out.below hb9).reads cells_len) (cells_one _) (by unfold maxLen; omega) (by omega) hb9.size ?_; intro A4 c4 w10 hown2 hg2 hloc2; have hb10 : Below w8.heap.size w8 w10 := hb9.grown hg2 hb9.size (fun k hk => (HO1.out.lt k (by simpa using hk)).1); have HS : Hid (SliceOf w10 3 Str.cells A4 ((cutA at_ xs).length + (cutB at_ xs).length) (joined at_ xs)) := SliceOf.of_own_s hown2 cells_len (by simp [joined]) HJL.out; have hB10 : Below w.heap.size w w10 := hB8.trans (hb10.mono hB8.size); have hk10 := hk8.below hb10 hk8.lt; have a0 := hk10.cell 0; have a1' := hk10.cell 1; have a2' := hk10.cell 2; simp at a0 a1' a2'; clear hown2 hg2 hloc2)
        | (go_at_call 13; fail))
      refine (used_any l _ _ _ xs _ (HX.out.below hB10) hm).mono ?_
      rw [HE1.out]
      rintro e w11 ⟨rfl, hb11⟩
      have hB11 := hB10.trans (hb11.mono hB10.size)
      have hk11 := hk10.below hb11 hk10.lt
      have HS1 := Lib.hid (HS.out.below hb11)
      clear a0 a1' a2' hk10
      have a0 := hk11.cell 0; have a1' := hk11.cell 1; have a2' := hk11.cell 2; simp at a0 a1' a2'
      go_wp2_with fail
      refine (used_any l _ _ _ (joined at_ xs) _ HS1.out (by unfold maxLen; omega)).mono ?_
      rw [HE2.out]
      rintro e w12 ⟨rfl, hb12⟩
      have hB12 := hB11.trans (hb12.mono hB11.size)
      have HS2 := Lib.hid (HS1.out.below hb12)
      go_wp2_with fail
      refine (check_any _ _ _ (joined at_ xs) _ HS2.out (by unfold maxLen; omega)).mono ?_
      rw [HJ.out, HJL.out]
      rintro e w13 ⟨rfl, hb13⟩
      have hfin : ((((cutA at_ xs).length + (cutB at_ xs).length : Nat) : Int) == ((cutA at_ xs).length : Int) + ((cutB at_ xs).length : Int)) = true := by simp
      go_wp2_with fail
      go_ret
      exact ⟨ret_bool (by simp), hB12.trans (hb13.mono hB12.size)⟩
    · have hl' : l.may = false := by simpa using hl
      clear hl
      go_wp2_with fail
      go_ret
      exact ⟨rfl, hB8⟩
  · have hk' : ((chk 0 0 xs).2 != 0) = true := by simp [hk]
    clear hk
    go_wp2_with fail
    go_ret
    exact ⟨rfl, hB7⟩
end Go.Proofs.Ytfjanoimhkddbaa
