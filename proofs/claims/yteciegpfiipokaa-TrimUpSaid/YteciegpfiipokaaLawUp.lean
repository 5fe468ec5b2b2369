/- TrimUp: a load set a tier higher changes the moment up by its weight, and nothing else. No condition. -/
import Derived.Test.YteciegpfiipokaaLawParts
import Derived.Test.YteciegpfiipokaaSafe
namespace Go.Proofs.Yteciegpfiipokaa
open Go.RowKit Go.Proofs.Yteciegpfiipokaa.kit
set_option linter.unusedVariables false

theorem sumBy_set (f : Load → Int) : ∀ (xs : List Load) (k : Nat) (x x' : Load), xs[k]? = some x → sumBy f (xs.set k x') = sumBy f xs + (f x' - f x)
  | [], k, x, x', h => by simp at h
  | y :: ys, 0, x, x', h => by
    simp at h; subst h
    rw [List.set_cons_zero, sumBy_cons, sumBy_cons]; omega
  | y :: ys, k + 1, x, x', h => by
    rw [List.set_cons_succ, sumBy_cons, sumBy_cons, sumBy_set f ys k x x' (by simpa using h)]; omega

set_option maxRecDepth 100000 in
set_option maxHeartbeats 3200000 in
theorem trimUp_walk (s : Ship) (hs : s.wf) (A : Option Addr) (n c : Nat) (xs : List Load) (at_ : Int) (w : World) (hx : SliceOf w 7 Load.cells A n xs) (hnc : n ≤ c) (hcm : c ≤ maxLen) :
    Calls Try.prog 5 #[.agg #[.string s.nm, .int .i64 s.ba, .int .i64 s.ro, .int .i64 s.ti, .int .i64 s.st, .int .i64 s.tr, .int .i64 s.li, .int .i64 s.up, .int .i64 s.mo], .slice A n c, .int .i64 at_] w fun e w' => e = .returned (.bool true) ∧ Below w.heap.size w w' := by
  obtain ⟨hn, _⟩ := hs
  have hm : n ≤ maxLen := by omega
  have HX := Lib.hid hx
  have hxl := hx.len
  have hB0 : Below w.heap.size w (w.alloc (.cells #[.string s.nm, .int .i64 s.ba, .int .i64 s.ro, .int .i64 s.ti, .int .i64 s.st, .int .i64 s.tr, .int .i64 s.li, .int .i64 s.up, .int .i64 s.mo] 23)) := (Below.refl _ _).alloc (Nat.le_refl _) _
  have hk0 : Blk (w.alloc (.cells #[.string s.nm, .int .i64 s.ba, .int .i64 s.ro, .int .i64 s.ti, .int .i64 s.st, .int .i64 s.tr, .int .i64 s.li, .int .i64 s.up, .int .i64 s.mo] 23)) w.heap.size 23 #[.string s.nm, .int .i64 s.ba, .int .i64 s.ro, .int .i64 s.ti, .int .i64 s.st, .int .i64 s.tr, .int .i64 s.li, .int .i64 s.up, .int .i64 s.mo] := Blk.new _ _ _
  clear hx
  go_enter Try.func5, Try.ntmps5
  go_wp2_with fail
  refine (awake_any _).mono ?_
  rintro e w1 ⟨rfl, hb1⟩
  have hB1 := hB0.trans (hb1.mono hB0.size)
  have hk1 := hk0.below hb1 hk0.lt
  clear hB0 hk0 hb1
  have a0 := hk1.cell 0; have a1 := hk1.cell 1; have a2 := hk1.cell 2; have a3 := hk1.cell 3; have a4 := hk1.cell 4; have a5 := hk1.cell 5; have a6 := hk1.cell 6; have a7 := hk1.cell 7; have a8 := hk1.cell 8; simp only [List.getElem?_toArray, List.getElem?_cons_zero, List.getElem?_cons_succ] at a0 a1 a2 a3 a4 a5 a6 a7 a8
  by_cases h1 : 60 < n
  · have h1' : (60 : Int) < (n : Int) := by omega
    go_wp2_with fail
    go_ret
    exact ⟨rfl, hB1⟩
  have h1' : ¬ (60 : Int) < (n : Int) := by omega
  by_cases h2 : 100 < s.nm.size
  · have h2' : (100 : Int) < (s.nm.size : Int) := by omega
    go_wp2_with fail
    go_ret
    exact ⟨rfl, hB1⟩
  have h2' : ¬ (100 : Int) < (s.nm.size : Int) := by omega
  by_cases h3 : at_ < 0
  · go_wp2_with fail
    go_ret
    exact ⟨rfl, hB1⟩
  by_cases h4 : (n : Int) ≤ at_
  · go_wp2_with fail
    go_ret
    exact ⟨rfl, hB1⟩
  obtain ⟨k, rfl⟩ : ∃ k : Nat, at_ = k := ⟨at_.toNat, by omega⟩
  have hkn : k < n := by omega
  have hk0' : (0 : Int) ≤ (k : Int) := by omega
  have hkn' : (k : Int) < (n : Int) := by omega
  cases hf : fitB s xs
  · have F := Lib.hid hf
    clear hf
    go_wp2_with fail
    refine (rfit_any s hn _ _ _ xs _ (HX.out.below hB1) hm).mono ?_
    rw [F.out]
    rintro e w2 ⟨rfl, hb2⟩
    clear a0 a1 a2 a3 a4 a5 a6 a7 a8
    have hB2 := hB1.trans (hb2.mono hB1.size)
    have hk2 := hk1.below hb2 hk1.lt
    clear hB1 hk1 hb2
    have a0 := hk2.cell 0; have a1 := hk2.cell 1; have a2 := hk2.cell 2; have a3 := hk2.cell 3; have a4 := hk2.cell 4; have a5 := hk2.cell 5; have a6 := hk2.cell 6; have a7 := hk2.cell 7; have a8 := hk2.cell 8; simp only [List.getElem?_toArray, List.getElem?_cons_zero, List.getElem?_cons_succ] at a0 a1 a2 a3 a4 a5 a6 a7 a8
    go_wp2_with fail
    go_ret
    exact ⟨rfl, hB2⟩
  have F := Lib.hid hf
  obtain ⟨⟨xb, xr, xt, xbox, xwe, xcl, xpo⟩, hxk⟩ : ∃ x, xs[k]? = some x := ⟨_, List.getElem?_eq_getElem (by omega)⟩
  obtain ⟨b, off, rfl, hb, hc⟩ := HX.out.at_ (by omega)
  obtain ⟨o0, o1, o2, o3, o4, o5, o6, o7⟩ : inB s _ := pre_in (fit_may hf).1 (fit_may hf).2.2 _ (List.mem_of_getElem? hxk)
  simp only at o0 o1 o2 o3 o4 o5 o6 o7
  have bd := mom_bd hf
  have dd := dims_of (fit_may hf).1
  have c4 : w.cell? ⟨b, off + k * 7 + 4, none⟩ = some (.int .i64 xwe) := by
    have := hc k _ hxk 4 _ rfl
    rwa [← Nat.add_assoc] at this
  have ht2 : ((xs.flatMap Load.cells))[k * 7 + 2]? = some (.int .i64 xt) := flat_get load_len xs k _ hxk 2 _ rfl
  have hset := flat_set load_len xs k 2 _ ⟨xb, xr, xt + 1, xbox, xwe, xcl, xpo⟩ (.int .i64 (xt + 1)) hxk rfl (by omega)
  have hsum : ∀ f, sumBy f (xs.set k ⟨xb, xr, xt + 1, xbox, xwe, xcl, xpo⟩) = sumBy f xs + (f ⟨xb, xr, xt + 1, xbox, xwe, xcl, xpo⟩ - f ⟨xb, xr, xt, xbox, xwe, xcl, xpo⟩) := fun f => sumBy_set f xs k _ _ hxk
  have E1 := Lib.hid (sum_fit hf)
  have E2 : Hid (fitB s (xs.set k ⟨xb, xr, xt + 1, xbox, xwe, xcl, xpo⟩) = true → sumV s (xs.set k ⟨xb, xr, xt + 1, xbox, xwe, xcl, xpo⟩) = ((sumBy (fL s) xs, sumBy (fC s) xs, sumBy fU xs + xwe, sumBy Load.we xs), true)) := Lib.hid (fun h => by
    rw [sum_fit h, hsum, hsum, hsum, hsum]
    have e : xwe * (xt + 1) = xwe * xt + xwe := by rw [Int.mul_add]; simp
    simp only [fL, fC, fU, e, Int.sub_self, Int.add_zero]
    congr 3
    congr 1
    congr 1
    omega)
  have hlen' : (xs.set k ⟨xb, xr, xt + 1, xbox, xwe, xcl, xpo⟩).length = n := by rw [List.length_set, hxl]
  have HSET := Lib.hid hset
  have HT := Lib.hid ht2
  have HL := Lib.hid hlen'
  clear hf hxk hc hset hsum ht2 hlen'
  generalize xs.set k ⟨xb, xr, xt + 1, xbox, xwe, xcl, xpo⟩ = ys at *
  generalize sumBy (fL s) xs = L at *
  generalize sumBy (fC s) xs = C at *
  generalize sumBy fU xs = U at *
  generalize sumBy Load.we xs = M at *
  obtain ⟨d0, d1, d2, d3, d4, d5⟩ := dd
  obtain ⟨g0, g1, g2, g3, g4, g5, g6, g7⟩ := bd
  have u1 : U ≤ 2000000000 := by omega
  clear g0 g1 g2 g3 g5 g6 g7
  have hkn0 : 0 < n := by omega
  obtain ⟨i0, hi, hz0, hz1, hz2⟩ := info_parts infoLoad
  go_wp2_with fail
  refine (rfit_any s hn _ _ _ xs _ (HX.out.below hB1) hm).mono ?_
  rw [F.out]
  rintro e w2 ⟨rfl, hb2⟩
  clear a0 a1 a2 a3 a4 a5 a6 a7 a8
  have hB2 := hB1.trans (hb2.mono hB1.size)
  have hk2 := hk1.below hb2 hk1.lt
  clear hB1 hk1 hb2
  have a0 := hk2.cell 0; have a1 := hk2.cell 1; have a2 := hk2.cell 2; have a3 := hk2.cell 3; have a4 := hk2.cell 4; have a5 := hk2.cell 5; have a6 := hk2.cell 6; have a7 := hk2.cell 7; have a8 := hk2.cell 8; simp only [List.getElem?_toArray, List.getElem?_cons_zero, List.getElem?_cons_succ] at a0 a1 a2 a3 a4 a5 a6 a7 a8
  have hA2 : Below w2.heap.size w2 (w2.alloc (.cells #[] 40)) := (Below.refl _ _).alloc (Nat.le_refl _) _
  have HS2 := Lib.hid (HX.out.below hB2)
  have HW2 := Lib.hid hk2.lt
  go_wp2_with (at_builtin; refine wpList_append_any_s _ rfl (.tmp 43) (.tmp 44) _ rfl w2.heap.size 40 i0 _ 7 64 Try.underlying24 hi hz0 hz1 hz2 rfl (by omega) (.slice (some ⟨w2.heap.size, 0, none⟩) 0 0) 0 [] rfl (own_first0 _) _ (some ⟨b, off, none⟩) n c (xs.flatMap Load.cells) rfl ((HS2.out.below hA2).reads load_len) (loads_one _) (by unfold maxLen; omega) (by omega) (by simp) ?_; intro A3 c3 w3 hown1 hg1 hloc1; have hb3 : Below w2.heap.size w2 w3 := hA2.grown hg1 (by simp) (by simp [Value.ownBlock]); simp only [Nat.zero_add, List.nil_append] at hown1; obtain ⟨g, cap, hv, hgB, hgl⟩ := hown1.form hkn0; obtain rfl : A3 = some ⟨g, 0, none⟩ := (by injection hv); have d2 := (hown1.cellAt (k * 7 + 2) (by omega)).trans HT.out; have z2 := hown1.frozenAt (k * 7 + 2); have ST := hown1.stored (k * 7 + 2) (.int .i64 (xt + 1)); have HO1 := Lib.hid ST.1; clear a0 a1 a2 a3 a4 a5 a6 a7 a8; have hB3 := hB2.trans (hb3.mono hB2.size); have hk3 := hk2.below hb3 hk2.lt; clear hB2 hk2 hb3; have hgw : w.heap.size < g := Nat.lt_of_lt_of_le HW2.out hgB; have hB4 := hB3.setCell (p := ⟨g, k * 7 + 2, none⟩) (Nat.le_of_lt hgw) (.int .i64 (xt + 1)); have hk4 := hk3.far (p := ⟨g, k * 7 + 2, none⟩) (Nat.ne_of_lt hgw) (.int .i64 (xt + 1)); have a0 := hk4.cell 0; have a1 := hk4.cell 1; have a2 := hk4.cell 2; have a3 := hk4.cell 3; have a4 := hk4.cell 4; have a5 := hk4.cell 5; have a6 := hk4.cell 6; have a7 := hk4.cell 7; have a8 := hk4.cell 8; simp only [List.getElem?_toArray, List.getElem?_cons_zero, List.getElem?_cons_succ] at a0 a1 a2 a3 a4 a5 a6 a7 a8; clear hown1 hg1 hloc1 ST hv)
  have HS4 : Hid (SliceOf (w3.setCell ⟨g, k * 7 + 2, none⟩ (.int .i64 (xt + 1))) 7 Load.cells (some ⟨g, 0, none⟩) n ys) := Lib.hid (SliceOf.of_own_s HO1.out load_len HSET.out HL.out)
  generalize w3.setCell ⟨g, k * 7 + 2, none⟩ (.int .i64 (xt + 1)) = w4 at *
  clear HO1 d2 z2 hB3 hk3
  cases hf : fitB s ys
  · have F2 := Lib.hid hf
    have E3 := Lib.hid (show safeV s ys = 1 by unfold safeV; rw [hf]; rfl)
    clear hf
    go_wp2_with fail
    refine (rfit_any s hn _ _ _ ys _ HS4.out hm).mono ?_
    rw [F2.out]
    rintro e w5 ⟨rfl, hb5⟩
    have HS5 := Lib.hid (HS4.out.below hb5)
    clear a0 a1 a2 a3 a4 a5 a6 a7 a8
    have hB5 := hB4.trans (hb5.mono hB4.size)
    have hk5 := hk4.below hb5 hk4.lt
    clear hB4 hk4 hb5
    have a0 := hk5.cell 0; have a1 := hk5.cell 1; have a2 := hk5.cell 2; have a3 := hk5.cell 3; have a4 := hk5.cell 4; have a5 := hk5.cell 5; have a6 := hk5.cell 6; have a7 := hk5.cell 7; have a8 := hk5.cell 8; simp only [List.getElem?_toArray, List.getElem?_cons_zero, List.getElem?_cons_succ] at a0 a1 a2 a3 a4 a5 a6 a7 a8
    go_wp2_with fail
    refine (safe_any s hn _ _ _ ys _ HS5.out hm).mono ?_
    rw [E3.out]
    rintro e w6 ⟨rfl, hb6⟩
    clear a0 a1 a2 a3 a4 a5 a6 a7 a8
    have hB6 := hB5.trans (hb6.mono hB5.size)
    have hk6 := hk5.below hb6 hk5.lt
    clear hB5 hk5 hb6
    go_wp2_with fail
    go_ret
    exact ⟨rfl, hB6⟩
  have F2 := Lib.hid hf
  have E3 := Lib.hid (E2.out hf)
  clear hf E2
  go_wp2_with fail
  refine (rfit_any s hn _ _ _ ys _ HS4.out hm).mono ?_
  rw [F2.out]
  rintro e w5 ⟨rfl, hb5⟩
  have HS5 := Lib.hid (HS4.out.below hb5)
  clear a0 a1 a2 a3 a4 a5 a6 a7 a8
  have hB5 := hB4.trans (hb5.mono hB4.size)
  have hk5 := hk4.below hb5 hk4.lt
  clear hB4 hk4 hb5
  have a0 := hk5.cell 0; have a1 := hk5.cell 1; have a2 := hk5.cell 2; have a3 := hk5.cell 3; have a4 := hk5.cell 4; have a5 := hk5.cell 5; have a6 := hk5.cell 6; have a7 := hk5.cell 7; have a8 := hk5.cell 8; simp only [List.getElem?_toArray, List.getElem?_cons_zero, List.getElem?_cons_succ] at a0 a1 a2 a3 a4 a5 a6 a7 a8
  go_wp2_with fail
  refine (moments_any s hn _ _ _ xs _ (HX.out.below hB5) hm).mono ?_
  rw [E1.out]
  rintro e w6 ⟨rfl, hb6⟩
  have HS6 := Lib.hid (HS5.out.below hb6)
  clear a0 a1 a2 a3 a4 a5 a6 a7 a8
  have hB6 := hB5.trans (hb6.mono hB5.size)
  have hk6 := hk5.below hb6 hk5.lt
  clear hB5 hk5 hb6
  have a0 := hk6.cell 0; have a1 := hk6.cell 1; have a2 := hk6.cell 2; have a3 := hk6.cell 3; have a4 := hk6.cell 4; have a5 := hk6.cell 5; have a6 := hk6.cell 6; have a7 := hk6.cell 7; have a8 := hk6.cell 8; simp only [List.getElem?_toArray, List.getElem?_cons_zero, List.getElem?_cons_succ] at a0 a1 a2 a3 a4 a5 a6 a7 a8
  go_wp2_with fail
  refine (moments_any s hn _ _ _ ys _ HS6.out hm).mono ?_
  rw [E3.out]
  rintro e w7 ⟨rfl, hb7⟩
  clear a0 a1 a2 a3 a4 a5 a6 a7 a8
  have hB7 := hB6.trans (hb7.mono hB6.size)
  have hk7 := hk6.below hb7 hk6.lt
  clear hB6 hk6 hb7
  have q4 := (hB7.cell hb).trans c4
  go_wp2_with fail
  go_ret
  exact ⟨ret_bool (by simp), hB7⟩
end Go.Proofs.Yteciegpfiipokaa
