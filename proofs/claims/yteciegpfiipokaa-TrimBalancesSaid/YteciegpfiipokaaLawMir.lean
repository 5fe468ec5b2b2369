/- TrimMirrors: of loads that fit, each at the other end, or on the other side, that moment has another sign; it lies as safe. No condition. -/
import Derived.Test.YteciegpfiipokaaLawParts
import Derived.Test.YteciegpfiipokaaMir
namespace Go.Proofs.Yteciegpfiipokaa
open Go.RowKit Go.Proofs.Yteciegpfiipokaa.kit
set_option linter.unusedVariables false

theorem own_next {w : World} {B g H W n c : Nat} {e : TypeId} {C : Nat} {A3 : Option Addr} {ys : List Value} {v : Value} (hown : w.ownsRow B e C (.slice A3 n c) n ys) (hn : 0 < n) (hv : v.ownBlock = some g)
    (hloc : (Value.slice A3 n c).ownBlock = v.ownBlock ∨ (Value.slice A3 n c).ownBlock = some H) (hg : W < g) (hH : W < H) : ∃ g', A3 = some ⟨g', 0, none⟩ ∧ W < g' := by
  obtain ⟨g', cap, he, h1, h2⟩ := hown.form hn
  injection he with hA _ _
  subst hA
  refine ⟨g', rfl, ?_⟩
  rw [hv] at hloc
  simp [Value.ownBlock] at hloc
  omega
set_option maxRecDepth 100000 in
set_option maxHeartbeats 1600000 in
theorem trimMirrors_walk (s : Ship) (hs : s.wf) (A : Option Addr) (n c : Nat) (xs : List Load) (ac : Bool) (w : World) (hx : SliceOf w 7 Load.cells A n xs) (hnc : n ≤ c) (hcm : c ≤ maxLen) :
    Calls Try.prog 8 #[.agg #[.string s.nm, .int .i64 s.ba, .int .i64 s.ro, .int .i64 s.ti, .int .i64 s.st, .int .i64 s.tr, .int .i64 s.li, .int .i64 s.up, .int .i64 s.mo], .slice A n c, .bool ac] w fun e w' => e = .returned (.bool true) ∧ Below w.heap.size w w' := by
  obtain ⟨hn, _⟩ := hs
  have hm : n ≤ maxLen := by omega
  have HX := Lib.hid hx
  have hxl := hx.len
  have hB0 : Below w.heap.size w (w.alloc (.cells #[.string s.nm, .int .i64 s.ba, .int .i64 s.ro, .int .i64 s.ti, .int .i64 s.st, .int .i64 s.tr, .int .i64 s.li, .int .i64 s.up, .int .i64 s.mo] 23)) := (Below.refl _ _).alloc (Nat.le_refl _) _
  have hk0 : Blk (w.alloc (.cells #[.string s.nm, .int .i64 s.ba, .int .i64 s.ro, .int .i64 s.ti, .int .i64 s.st, .int .i64 s.tr, .int .i64 s.li, .int .i64 s.up, .int .i64 s.mo] 23)) w.heap.size 23 #[.string s.nm, .int .i64 s.ba, .int .i64 s.ro, .int .i64 s.ti, .int .i64 s.st, .int .i64 s.tr, .int .i64 s.li, .int .i64 s.up, .int .i64 s.mo] := Blk.new _ _ _
  clear hx
  go_enter Try.func8, Try.ntmps8
  go_wp2_with fail
  refine (awake_any _).mono ?_
  rintro e w1 ⟨rfl, hb1⟩
  have hB1 := hB0.trans (hb1.mono hB0.size)
  have hk1 := hk0.below hb1 hk0.lt
  clear hB0 hk0 hb1
  have a0 := hk1.cell 0; have a1 := hk1.cell 1; have a2 := hk1.cell 2; have a3 := hk1.cell 3; have a4 := hk1.cell 4; have a5 := hk1.cell 5; have a6 := hk1.cell 6; have a7 := hk1.cell 7; have a8 := hk1.cell 8; simp only [List.getElem?_toArray, List.getElem?_cons_zero, List.getElem?_cons_succ] at a0 a1 a2 a3 a4 a5 a6 a7 a8
  by_cases h1 : 60 < n
  · have h1' : (60 : Int) < (n : Int) := by omega
    go_wp2_with fail
    go_ret
    exact ⟨rfl, hB1⟩
  have h1' : ¬ (60 : Int) < (n : Int) := by omega
  by_cases h2 : 100 < s.nm.size
  · have h2' : (100 : Int) < (s.nm.size : Int) := by omega
    go_wp2_with fail
    go_ret
    exact ⟨rfl, hB1⟩
  have h2' : ¬ (100 : Int) < (s.nm.size : Int) := by omega
  cases hf : fitB s xs
  · have F := Lib.hid hf
    clear hf
    go_wp2_with fail
    refine (rfit_any s hn _ _ _ xs _ (HX.out.below hB1) hm).mono ?_
    rw [F.out]
    rintro e w2 ⟨rfl, hb2⟩
    clear a0 a1 a2 a3 a4 a5 a6 a7 a8
    have hB2 := hB1.trans (hb2.mono hB1.size)
    have hk2 := hk1.below hb2 hk1.lt
    clear hB1 hk1 hb2
    have a0 := hk2.cell 0; have a1 := hk2.cell 1; have a2 := hk2.cell 2; have a3 := hk2.cell 3; have a4 := hk2.cell 4; have a5 := hk2.cell 5; have a6 := hk2.cell 6; have a7 := hk2.cell 7; have a8 := hk2.cell 8; simp only [List.getElem?_toArray, List.getElem?_cons_zero, List.getElem?_cons_succ] at a0 a1 a2 a3 a4 a5 a6 a7 a8
    go_wp2_with fail
    go_ret
    exact ⟨rfl, hB2⟩
  have F := Lib.hid hf
  have HI := Lib.hid (pre_in (fit_may hf).1 (fit_may hf).2.2)
  have bd := mom_bd hf
  obtain ⟨d0, d1, d2, d3, d4, d5⟩ := dims_of (fit_may hf).1
  obtain ⟨g0, g1, g2, g3, g4, g5, g6, g7⟩ := bd
  have E1 := Lib.hid (sum_fit hf)
  have E2 := Lib.hid (sum_fit (fit_mir hf ac))
  have E3 := Lib.hid (show worstV s xs = bestAt (margF s xs) 4 by unfold worstV; rw [hf]; rfl)
  have E4 := Lib.hid (show worstV s (xs.map (mirX s ac)) = bestAt (margF s xs) 4 by unfold worstV; rw [fit_mir hf ac, mir_margs]; rfl)
  have E5 := Lib.hid (show safeV s xs = safeOf (margF s xs) by unfold safeV; rw [hf]; rfl)
  have E6 := Lib.hid (show safeV s (xs.map (mirX s ac)) = safeOf (margF s xs) by unfold safeV; rw [fit_mir hf ac, mir_margs]; rfl)
  have hms := mir_sums s ac xs
  have HMS := Lib.hid hms
  obtain ⟨i0, hi, hz0, hz1, hz2⟩ := info_parts infoLoad
  clear hf hms
  go_wp2_with fail
  refine (rfit_any s hn _ _ _ xs _ (HX.out.below hB1) hm).mono ?_
  rw [F.out]
  rintro e w2 ⟨rfl, hb2⟩
  clear a0 a1 a2 a3 a4 a5 a6 a7 a8
  have hB2 := hB1.trans (hb2.mono hB1.size)
  have hk2 := hk1.below hb2 hk1.lt
  clear hB1 hk1 hb2
  have a0 := hk2.cell 0; have a1 := hk2.cell 1; have a2 := hk2.cell 2; have a3 := hk2.cell 3; have a4 := hk2.cell 4; have a5 := hk2.cell 5; have a6 := hk2.cell 6; have a7 := hk2.cell 7; have a8 := hk2.cell 8; simp only [List.getElem?_toArray, List.getElem?_cons_zero, List.getElem?_cons_succ] at a0 a1 a2 a3 a4 a5 a6 a7 a8
  have hB3 : Below w.heap.size w (w2.alloc (.cells #[] 40)) := hB2.alloc hB2.size _
  have hk3 := hk2.alloc (.cells #[] 40)
  have hO3 : (w2.alloc (.cells #[] 40)).ownsRow w.heap.size 40 7 (.slice (some ⟨w2.heap.size, 0, none⟩) 0 0) 0 [] := own_empty (Blk.new _ _ _) hB2.size
  have hl3 := hk2.lt
  clear a0 a1 a2 a3 a4 a5 a6 a7 a8
  clear hB2 hk2
  go_wp2_with fail
  go_loopw [7, 8] (fun v i wr => ∃ (k : Nat) (g cap : Nat), k ≤ n ∧ i = .int .i64 k ∧ v = .slice (some ⟨g, 0, none⟩) k cap ∧ w.heap.size < g ∧ Below w.heap.size w wr ∧ Blk wr w.heap.size 23 #[.string s.nm, .int .i64 s.ba, .int .i64 s.ro, .int .i64 s.ti, .int .i64 s.st, .int .i64 s.tr, .int .i64 s.li, .int .i64 s.up, .int .i64 s.mo] ∧ Hid (wr.ownsRow w.heap.size 40 7 (.slice (some ⟨g, 0, none⟩) k cap) k (((xs.take k).map (mirX s ac)).flatMap Load.cells))) (fun _ i _ => n - (intOf i).toNat)
  case atStart => exact ⟨0, _, _, by omega, rfl, rfl, hl3, hB3, hk3, Lib.hid (by simpa using hO3)⟩
  case round =>
    obtain ⟨k, g, cap, hk, rfl, rfl, hgw, hbel, hks, hown⟩ := hrel
    clear hB3 hk3 hO3
    by_cases hlt : k < n
    · obtain ⟨⟨xb, xr, xt, xbox, xwe, xcl, xpo⟩, hxk⟩ : ∃ x, xs[k]? = some x := ⟨_, List.getElem?_eq_getElem (by omega)⟩
      obtain ⟨b, off, rfl, hb, hc⟩ := HX.out.at_ (by omega)
      obtain ⟨o0, o1, o2, o3, o4, o5, o6, o7⟩ : inB s _ := HI.out _ (List.mem_of_getElem? hxk)
      simp only at o0 o1 o2 o3 o4 o5 o6 o7
      have c0 : wr.cell? ⟨b, off + k * 7, none⟩ = some (.int .i64 xb) := (hbel.cell hb).trans (hc k _ hxk 0 _ rfl)
      have c1 : wr.cell? ⟨b, off + k * 7 + 1, none⟩ = some (.int .i64 xr) := (hbel.cell hb).trans (hc k _ hxk 1 _ rfl)
      have c2 : wr.cell? ⟨b, off + k * 7 + 2, none⟩ = some (.int .i64 xt) := (hbel.cell hb).trans (hc k _ hxk 2 _ rfl)
      have c3 : wr.cell? ⟨b, off + k * 7 + 3, none⟩ = some (.string xbox) := (hbel.cell hb).trans (hc k _ hxk 3 _ rfl)
      have c4 : wr.cell? ⟨b, off + k * 7 + 4, none⟩ = some (.int .i64 xwe) := (hbel.cell hb).trans (hc k _ hxk 4 _ rfl)
      have c5 : wr.cell? ⟨b, off + k * 7 + 5, none⟩ = some (.int .i64 xcl) := (hbel.cell hb).trans (hc k _ hxk 5 _ rfl)
      have c6 : wr.cell? ⟨b, off + k * 7 + 6, none⟩ = some (.int .i64 xpo) := (hbel.cell hb).trans (hc k _ hxk 6 _ rfl)
      have HTK : Hid ((xs.take (k + 1)).map (mirX s ac) = (xs.take k).map (mirX s ac) ++ [mirX s ac ⟨xb, xr, xt, xbox, xwe, xcl, xpo⟩]) := Lib.hid (by rw [List.take_add_one, hxk]; simp)
      have hkn : (k : Int) < (n : Int) := by omega
      have a1 := hks.cell 1; have a2 := hks.cell 2
      simp only [List.getElem?_toArray, List.getElem?_cons_zero, List.getElem?_cons_succ] at a1 a2
      have hwl := hks.lt
      clear hxk hc
      cases ac
      · go_wp2_with (at_builtin; refine wpList_append_any_s _ rfl (.tmp 69) (.tmp 71) _ rfl w.heap.size 40 i0 _ 7 64 Try.underlying24 hi hz0 hz1 hz2 rfl (by omega) (.slice (some ⟨g, 0, none⟩) k cap) k _ rfl ((hown.out.alloc _).alloc _) _ (some ⟨wr.heap.size + 1, 0, none⟩) 1 1 #[.int .i64 (s.ba - 1 - xb), .int .i64 xr, .int .i64 xt, .string xbox, .int .i64 xwe, .int .i64 xcl, .int .i64 xpo].toList rfl ((SliceOf.blk (en := Load.cells) (Blk.new_at _ 40 #[.int .i64 (s.ba - 1 - xb), .int .i64 xr, .int .i64 xt, .string xbox, .int .i64 xwe, .int .i64 xcl, .int .i64 xpo] _ (by simp)) [⟨(s.ba - 1 - xb), xr, xt, xbox, xwe, xcl, xpo⟩] rfl load_len rfl).reads load_len) (by simp [Value.oneCell']) (by unfold maxLen; omega) (by omega) (by have := hbel.size; simp; omega) ?_; intro A3 c3' w3 hown1 hg1 hloc1; obtain ⟨g', rfl, hgw'⟩ := own_next hown1 (by omega) (by simp [Value.ownBlock]) hloc1 hgw (by have := hbel.size; simp; omega); have hB4 : Below w.heap.size w w3 := ((hbel.alloc hbel.size _).alloc (hbel.alloc hbel.size _).size _).grown hg1 (by have := hbel.size; simp; omega) (fun j hj => (hown.out.lt j hj).1); have hk4 := ((hks.alloc _).alloc _).grown hg1 (by simp [Value.ownBlock]; omega); have HO4 := Lib.hid hown1; clear hown1 hg1 hloc1)
        go_roundw
        case rel => exact ⟨k + 1, g', c3', by omega, by go_num, rfl, hgw', hB4, hk4, Lib.hid (by rw [HTK.out, List.flatMap_append]; exact HO4.out)⟩
        case measure => simp [intOf]; omega
      · go_wp2_with (at_builtin; refine wpList_append_any_s _ rfl (.tmp 69) (.tmp 71) _ rfl w.heap.size 40 i0 _ 7 64 Try.underlying24 hi hz0 hz1 hz2 rfl (by omega) (.slice (some ⟨g, 0, none⟩) k cap) k _ rfl ((hown.out.alloc _).alloc _) _ (some ⟨wr.heap.size + 1, 0, none⟩) 1 1 #[.int .i64 xb, .int .i64 (s.ro - 1 - xr), .int .i64 xt, .string xbox, .int .i64 xwe, .int .i64 xcl, .int .i64 xpo].toList rfl ((SliceOf.blk (en := Load.cells) (Blk.new_at _ 40 #[.int .i64 xb, .int .i64 (s.ro - 1 - xr), .int .i64 xt, .string xbox, .int .i64 xwe, .int .i64 xcl, .int .i64 xpo] _ (by simp)) [⟨xb, (s.ro - 1 - xr), xt, xbox, xwe, xcl, xpo⟩] rfl load_len rfl).reads load_len) (by simp [Value.oneCell']) (by unfold maxLen; omega) (by omega) (by have := hbel.size; simp; omega) ?_; intro A3 c3' w3 hown1 hg1 hloc1; obtain ⟨g', rfl, hgw'⟩ := own_next hown1 (by omega) (by simp [Value.ownBlock]) hloc1 hgw (by have := hbel.size; simp; omega); have hB4 : Below w.heap.size w w3 := ((hbel.alloc hbel.size _).alloc (hbel.alloc hbel.size _).size _).grown hg1 (by have := hbel.size; simp; omega) (fun j hj => (hown.out.lt j hj).1); have hk4 := ((hks.alloc _).alloc _).grown hg1 (by simp [Value.ownBlock]; omega); have HO4 := Lib.hid hown1; clear hown1 hg1 hloc1)
        go_roundw
        case rel => exact ⟨k + 1, g', c3', by omega, by go_num, rfl, hgw', hB4, hk4, Lib.hid (by rw [HTK.out, List.flatMap_append]; exact HO4.out)⟩
        case measure => simp [intOf]; omega
    · obtain rfl : k = n := by omega
      have HS : Hid (SliceOf wr 7 Load.cells (some ⟨g, 0, none⟩) k (xs.map (mirX s ac))) := Lib.hid (SliceOf.of_own_s hown.out load_len (by rw [List.take_of_length_le (by omega)]) (by simpa using hxl))
      have hk4 := hks
      have hB4 := hbel
      clear hown hks hbel
      generalize xs.map (mirX s ac) = ys at *
      rw [HMS.out.1, HMS.out.2.1, HMS.out.2.2.1, HMS.out.2.2.2] at E2
      clear HMS
      generalize bestAt (margF s xs) 4 = R at *
      obtain ⟨R1, R2⟩ := R
      generalize safeOf (margF s xs) = e0 at *
      generalize sumBy (fL s) xs = L at *
      generalize sumBy (fC s) xs = C at *
      generalize sumBy fU xs = U at *
      generalize sumBy Load.we xs = M at *
      have l0 : -2000000000 ≤ L := by omega
      have l1 : L ≤ 2000000000 := by omega
      have c0 : -2000000000 ≤ C := by omega
      have c1 : C ≤ 2000000000 := by omega
      clear g0 g1 g2 g3 g4 g5 g6 g7
      cases ac
      all_goals
        simp only [Bool.false_eq_true, if_false, if_true] at E2
        have a0 := hk4.cell 0; have a1 := hk4.cell 1; have a2 := hk4.cell 2; have a3 := hk4.cell 3; have a4 := hk4.cell 4; have a5 := hk4.cell 5; have a6 := hk4.cell 6; have a7 := hk4.cell 7; have a8 := hk4.cell 8; simp only [List.getElem?_toArray, List.getElem?_cons_zero, List.getElem?_cons_succ] at a0 a1 a2 a3 a4 a5 a6 a7 a8
        go_wp2_with fail
        refine (moments_any s hn _ _ _ xs _ (HX.out.below hB4) hm).mono ?_
        rw [E1.out]
        rintro e w5 ⟨rfl, hb5⟩
        have HS5 := Lib.hid (HS.out.below hb5)
        clear a0 a1 a2 a3 a4 a5 a6 a7 a8
        have hB5 := hB4.trans (hb5.mono hB4.size)
        have hk5 := hk4.below hb5 hk4.lt
        clear hB4 hk4 hb5
        have a0 := hk5.cell 0; have a1 := hk5.cell 1; have a2 := hk5.cell 2; have a3 := hk5.cell 3; have a4 := hk5.cell 4; have a5 := hk5.cell 5; have a6 := hk5.cell 6; have a7 := hk5.cell 7; have a8 := hk5.cell 8; simp only [List.getElem?_toArray, List.getElem?_cons_zero, List.getElem?_cons_succ] at a0 a1 a2 a3 a4 a5 a6 a7 a8
        go_wp2_with fail
        refine (moments_any s hn _ _ _ ys _ HS5.out hm).mono ?_
        rw [E2.out]
        rintro e w6 ⟨rfl, hb6⟩
        have HS6 := Lib.hid (HS5.out.below hb6)
        clear a0 a1 a2 a3 a4 a5 a6 a7 a8
        have hB6 := hB5.trans (hb6.mono hB5.size)
        have hk6 := hk5.below hb6 hk5.lt
        clear hB5 hk5 hb6
        have a0 := hk6.cell 0; have a1 := hk6.cell 1; have a2 := hk6.cell 2; have a3 := hk6.cell 3; have a4 := hk6.cell 4; have a5 := hk6.cell 5; have a6 := hk6.cell 6; have a7 := hk6.cell 7; have a8 := hk6.cell 8; simp only [List.getElem?_toArray, List.getElem?_cons_zero, List.getElem?_cons_succ] at a0 a1 a2 a3 a4 a5 a6 a7 a8
        go_wp2_with fail
        refine (worst_any s hn _ _ _ xs _ (HX.out.below hB6) hm).mono ?_
        rw [E3.out]
        rintro e w7 ⟨rfl, hb7⟩
        have HS7 := Lib.hid (HS6.out.below hb7)
        clear a0 a1 a2 a3 a4 a5 a6 a7 a8
        have hB7 := hB6.trans (hb7.mono hB6.size)
        have hk7 := hk6.below hb7 hk6.lt
        clear hB6 hk6 hb7
        have a0 := hk7.cell 0; have a1 := hk7.cell 1; have a2 := hk7.cell 2; have a3 := hk7.cell 3; have a4 := hk7.cell 4; have a5 := hk7.cell 5; have a6 := hk7.cell 6; have a7 := hk7.cell 7; have a8 := hk7.cell 8; simp only [List.getElem?_toArray, List.getElem?_cons_zero, List.getElem?_cons_succ] at a0 a1 a2 a3 a4 a5 a6 a7 a8
        go_wp2_with fail
        refine (worst_any s hn _ _ _ ys _ HS7.out hm).mono ?_
        rw [E4.out]
        rintro e w8 ⟨rfl, hb8⟩
        have HS8 := Lib.hid (HS7.out.below hb8)
        clear a0 a1 a2 a3 a4 a5 a6 a7 a8
        have hB8 := hB7.trans (hb8.mono hB7.size)
        have hk8 := hk7.below hb8 hk7.lt
        clear hB7 hk7 hb8
        have a0 := hk8.cell 0; have a1 := hk8.cell 1; have a2 := hk8.cell 2; have a3 := hk8.cell 3; have a4 := hk8.cell 4; have a5 := hk8.cell 5; have a6 := hk8.cell 6; have a7 := hk8.cell 7; have a8 := hk8.cell 8; simp only [List.getElem?_toArray, List.getElem?_cons_zero, List.getElem?_cons_succ] at a0 a1 a2 a3 a4 a5 a6 a7 a8
        have p0 := wof_cell a0; have p1 := wof_cell a1; have p2 := wof_cell a2; have p3 := wof_cell a3; have p4 := wof_cell a4; have p5 := wof_cell a5; have p6 := wof_cell a6; have p7 := wof_cell a7; have p8 := wof_cell a8
        have HB : Hid (∀ x : BW w8, Below w.heap.size w (wof x)) := fun x => hB8.trans ((wof_below x).mono hB8.size)
        have HY : Hid (∀ x : BW w8, SliceOf (wof x) 7 Load.cells (some ⟨g, 0, none⟩) k ys) := fun x => HS8.out.below (wof_below x)
        have QS1 : Hid (∀ x : BW w8, Calls Try.prog 15 #[.agg #[.string s.nm, .int .i64 s.ba, .int .i64 s.ro, .int .i64 s.ti, .int .i64 s.st, .int .i64 s.tr, .int .i64 s.li, .int .i64 s.up, .int .i64 s.mo], .slice A k c] (wof x) fun e w'' => e = .returned (.int .i64 e0) ∧ Below (wof x).heap.size (wof x) w'') := fun x => by
          have := safe_any s hn _ _ c xs _ (HX.out.below (HB.out x)) hm
          rw [E5.out] at this
          exact this
        have QS2 : Hid (∀ x : BW w8, Calls Try.prog 15 #[.agg #[.string s.nm, .int .i64 s.ba, .int .i64 s.ro, .int .i64 s.ti, .int .i64 s.st, .int .i64 s.tr, .int .i64 s.li, .int .i64 s.up, .int .i64 s.mo], .slice (some ⟨g, 0, none⟩) k cap] (wof x) fun e w'' => e = .returned (.int .i64 e0) ∧ Below (wof x).heap.size (wof x) w'') := fun x => by
          have := safe_any s hn _ _ cap ys _ (HY.out x) hm
          rw [E6.out] at this
          exact this
        go_wp2_with fail
        refine wp_region_quiet_below (by kernel_rfl) (by kernel_rfl) ?_
        repeat (go_big_quiet_step ((first | (go_at_call 15; with_reducible exact quiet_below (QS1.out _)) | (go_at_call 15; exact quiet_below (QS2.out _)))))
        refine wpQuiet_nil ?_
        intro w9 hb9
        go_wp2_with fail
        go_ret
        exact ⟨ret_bool (by simp), hB8.trans (hb9.mono hB8.size)⟩
end Go.Proofs.Yteciegpfiipokaa
