/- TrimBalances: loads, and each one's mirror image along and across, have no moment along or across; so they never lie unsafe but by height, or weight. No condition. -/
import Derived.Test.YteciegpfiipokaaLawMir
import Derived.BigRegion
namespace Go.Proofs.Yteciegpfiipokaa
open Go.RowKit Go.Proofs.Yteciegpfiipokaa.kit
set_option linter.unusedVariables false

/-- The mirror image, as the program reckons it. -/
def mirW (s : Ship) (x : Load) : Load := ⟨IntKind.i64.wrap (IntKind.i64.wrap (s.ba - 1) - x.b), IntKind.i64.wrap (IntKind.i64.wrap (s.ro - 1) - x.r), x.t, x.box, x.we, x.cl, x.po⟩
def both (s : Ship) (xs : List Load) : List Load := xs ++ xs.map (mirW s)
theorem both_in {s : Ship} {xs : List Load} (h : fitB s (both s xs) = true) : ∀ x ∈ xs, mirW s x = ⟨s.ba - 1 - x.b, s.ro - 1 - x.r, x.t, x.box, x.we, x.cl, x.po⟩ := by
  obtain ⟨hmay, _, hpre⟩ := fit_may h
  obtain ⟨d0, d1, d2, d3, d4, d5⟩ := dims_of hmay
  intro x hx
  obtain ⟨o0, o1, o2, o3, o4, o5, o6, o7⟩ := pre_in hmay hpre x (List.mem_append_left _ hx)
  unfold mirW
  rw [IntWalk.i64_in (s.ba - 1) (by omega), IntWalk.i64_in (s.ro - 1) (by omega), IntWalk.i64_in (s.ba - 1 - x.b) (by omega), IntWalk.i64_in (s.ro - 1 - x.r) (by omega)]
theorem sumBy_mem {f g : Load → Int} : ∀ {xs : List Load}, (∀ x ∈ xs, f x = g x) → sumBy f xs = sumBy g xs
  | [], _ => rfl
  | x :: xs, h => by rw [sumBy_cons, sumBy_cons, h x (by simp), sumBy_mem (fun y hy => h y (by simp [hy]))]
theorem both_sums {s : Ship} {xs : List Load} (h : fitB s (both s xs) = true) : sumBy (fL s) (both s xs) = 0 ∧ sumBy (fC s) (both s xs) = 0 := by
  have hi := both_in h
  unfold both
  rw [sumBy_append, sumBy_append, sumBy_map, sumBy_map]
  have e1 : sumBy (fun x => fL s (mirW s x)) xs = sumBy (fun x => -fL s x) xs := sumBy_mem (fun x hx => by rw [hi x hx]; exact mul_neg_eq (by simp only; omega))
  have e2 : sumBy (fun x => fC s (mirW s x)) xs = sumBy (fun x => -fC s x) xs := sumBy_mem (fun x hx => by rw [hi x hx]; exact mul_neg_eq (by simp only; omega))
  rw [e1, e2, sumBy_neg, sumBy_neg]
  omega
theorem bal_cases {s : Ship} {U M : Int} (hmay : s.may = true) (hM : 0 ≤ M) : (s.mo < M ∧ safeOf (margOf s (0, 0, U, M)) = 7) ∨ (¬ s.mo < M ∧ U ≤ s.up * M ∧ safeOf (margOf s (0, 0, U, M)) = 0) ∨ (¬ s.mo < M ∧ ¬ U ≤ s.up * M ∧ safeOf (margOf s (0, 0, U, M)) = 3) := by
  obtain ⟨s0, s1, s2, s3, s4, s5, s6, s7⟩ := bounds_of hmay
  have p := Int.mul_nonneg s0 hM
  have q := Int.mul_nonneg s2 hM
  unfold safeOf margOf
  simp only [absF]
  by_cases a : s.mo < M
  · left; exact ⟨a, if_pos (by omega)⟩
  · by_cases b : U ≤ s.up * M
    · right; left; exact ⟨a, b, by rw [if_neg (by omega), if_neg (by simp; omega)]⟩
    · right; right; exact ⟨a, b, by rw [if_neg (by omega), if_pos (by simp; omega)]⟩

set_option maxRecDepth 100000 in
set_option maxHeartbeats 1600000 in
theorem trimBalances_walk (s : Ship) (hs : s.wf) (A : Option Addr) (n c : Nat) (xs : List Load) (w : World) (hx : SliceOf w 7 Load.cells A n xs) (hnc : n ≤ c) (hcm : c ≤ maxLen) :
    Calls Try.prog 6 #[.agg #[.string s.nm, .int .i64 s.ba, .int .i64 s.ro, .int .i64 s.ti, .int .i64 s.st, .int .i64 s.tr, .int .i64 s.li, .int .i64 s.up, .int .i64 s.mo], .slice A n c] w fun e w' => e = .returned (.bool true) ∧ Below w.heap.size w w' := by
  obtain ⟨hn, _⟩ := hs
  have hm : n ≤ maxLen := by omega
  have HX := Lib.hid hx
  have hxl := hx.len
  have hB0 : Below w.heap.size w (w.alloc (.cells #[.string s.nm, .int .i64 s.ba, .int .i64 s.ro, .int .i64 s.ti, .int .i64 s.st, .int .i64 s.tr, .int .i64 s.li, .int .i64 s.up, .int .i64 s.mo] 23)) := (Below.refl _ _).alloc (Nat.le_refl _) _
  have hk0 : Blk (w.alloc (.cells #[.string s.nm, .int .i64 s.ba, .int .i64 s.ro, .int .i64 s.ti, .int .i64 s.st, .int .i64 s.tr, .int .i64 s.li, .int .i64 s.up, .int .i64 s.mo] 23)) w.heap.size 23 #[.string s.nm, .int .i64 s.ba, .int .i64 s.ro, .int .i64 s.ti, .int .i64 s.st, .int .i64 s.tr, .int .i64 s.li, .int .i64 s.up, .int .i64 s.mo] := Blk.new _ _ _
  clear hx
  go_enter Try.func6, Try.ntmps6
  go_wp2_with fail
  refine (awake_any _).mono ?_
  rintro e w1 ⟨rfl, hb1⟩
  have hB1 := hB0.trans (hb1.mono hB0.size)
  have hk1 := hk0.below hb1 hk0.lt
  clear hB0 hk0 hb1
  have a0 := hk1.cell 0; have a1 := hk1.cell 1; have a2 := hk1.cell 2; have a3 := hk1.cell 3; have a4 := hk1.cell 4; have a5 := hk1.cell 5; have a6 := hk1.cell 6; have a7 := hk1.cell 7; have a8 := hk1.cell 8; simp only [List.getElem?_toArray, List.getElem?_cons_zero, List.getElem?_cons_succ] at a0 a1 a2 a3 a4 a5 a6 a7 a8
  by_cases h1 : 20 < n
  · have h1' : (20 : Int) < (n : Int) := by omega
    go_wp2_with fail
    go_ret
    exact ⟨rfl, hB1⟩
  have h1' : ¬ (20 : Int) < (n : Int) := by omega
  by_cases h2 : 100 < s.nm.size
  · have h2' : (100 : Int) < (s.nm.size : Int) := by omega
    go_wp2_with fail
    go_ret
    exact ⟨rfl, hB1⟩
  have h2' : ¬ (100 : Int) < (s.nm.size : Int) := by omega
  obtain ⟨i0, hi, hz0, hz1, hz2⟩ := info_parts infoLoad
  have hA2 : Below w1.heap.size w1 (w1.alloc (.cells #[] 40)) := (Below.refl _ _).alloc (Nat.le_refl _) _
  have HS2 := Lib.hid (HX.out.below hB1)
  have HW2 := Lib.hid hk1.lt
  have HB1 := Lib.hid hB1
  have HK1 := Lib.hid hk1
  obtain ⟨mb, hmb⟩ : ∃ mb, IntKind.i64.wrap (s.ba - 1) = mb := ⟨_, rfl⟩
  obtain ⟨mr, hmr⟩ : ∃ mr, IntKind.i64.wrap (s.ro - 1) = mr := ⟨_, rfl⟩
  go_wp2_with (at_builtin; refine wpList_append_any_s _ rfl (.tmp 24) (.tmp 25) _ rfl (w.heap.size + 1) 40 i0 _ 7 64 Try.underlying24 hi hz0 hz1 hz2 rfl (by omega) (.slice (some ⟨w1.heap.size, 0, none⟩) 0 0) 0 [] rfl (own_empty (Blk.new _ _ _) HW2.out) _ A n c (xs.flatMap Load.cells) rfl ((HS2.out.below hA2).reads load_len) (loads_one _) (by unfold maxLen; omega) (by omega) (by have := HW2.out; simp; omega) ?_; intro A3 c3 w3 hown1 hg1 hloc1; have hb3 : Below w1.heap.size w1 w3 := hA2.grown hg1 (by simp) (by simp [Value.ownBlock]); simp only [Nat.zero_add, List.nil_append] at hown1; have HO1 := Lib.hid hown1; have hB3 := HB1.out.trans (hb3.mono HB1.out.size); have hk3 := HK1.out.below hb3 HK1.out.lt; clear a0 a1 a2 a3 a4 a5 a6 a7 a8; clear hown1 hg1 hloc1)
  clear hB1 hk1
  go_loopw [5, 6] (fun v i wr => ∃ (k : Nat) (A' : Option Addr) (cap : Nat), k ≤ n ∧ i = .int .i64 k ∧ v = .slice A' (n + k) cap ∧ Below w.heap.size w wr ∧ Blk wr w.heap.size 23 #[.string s.nm, .int .i64 s.ba, .int .i64 s.ro, .int .i64 s.ti, .int .i64 s.st, .int .i64 s.tr, .int .i64 s.li, .int .i64 s.up, .int .i64 s.mo] ∧ Hid (wr.ownsRow (w.heap.size + 1) 40 7 (.slice A' (n + k) cap) (n + k) ((xs ++ (xs.take k).map (mirW s)).flatMap Load.cells))) (fun _ i _ => n - (intOf i).toNat)
  case atStart => exact ⟨0, _, _, by omega, rfl, rfl, hB3, hk3, Lib.hid (by simpa using HO1.out)⟩
  case round =>
    obtain ⟨k, A', cap, hk, rfl, rfl, hbel, hks, hown⟩ := hrel
    clear hB3 hk3 hb3
    have a1 := hks.cell 1; have a2 := hks.cell 2
    simp only [List.getElem?_toArray, List.getElem?_cons_zero, List.getElem?_cons_succ] at a1 a2
    by_cases hlt : k < n
    · obtain ⟨⟨xb, xr, xt, xbox, xwe, xcl, xpo⟩, hxk⟩ : ∃ x, xs[k]? = some x := ⟨_, List.getElem?_eq_getElem (by omega)⟩
      obtain ⟨b, off, rfl, hb, hc⟩ := HX.out.at_ (by omega)
      have c0 : wr.cell? ⟨b, off + k * 7, none⟩ = some (.int .i64 xb) := (hbel.cell hb).trans (hc k _ hxk 0 _ rfl)
      have c1 : wr.cell? ⟨b, off + k * 7 + 1, none⟩ = some (.int .i64 xr) := (hbel.cell hb).trans (hc k _ hxk 1 _ rfl)
      have c2 : wr.cell? ⟨b, off + k * 7 + 2, none⟩ = some (.int .i64 xt) := (hbel.cell hb).trans (hc k _ hxk 2 _ rfl)
      have c3 : wr.cell? ⟨b, off + k * 7 + 3, none⟩ = some (.string xbox) := (hbel.cell hb).trans (hc k _ hxk 3 _ rfl)
      have c4 : wr.cell? ⟨b, off + k * 7 + 4, none⟩ = some (.int .i64 xwe) := (hbel.cell hb).trans (hc k _ hxk 4 _ rfl)
      have c5 : wr.cell? ⟨b, off + k * 7 + 5, none⟩ = some (.int .i64 xcl) := (hbel.cell hb).trans (hc k _ hxk 5 _ rfl)
      have c6 : wr.cell? ⟨b, off + k * 7 + 6, none⟩ = some (.int .i64 xpo) := (hbel.cell hb).trans (hc k _ hxk 6 _ rfl)
      have hkn : (k : Int) < (n : Int) := by omega
      have hwl := hks.lt
      obtain ⟨nb, hnb⟩ : ∃ nb, IntKind.i64.wrap (mb - xb) = nb := ⟨_, rfl⟩
      obtain ⟨nr, hnr⟩ : ∃ nr, IntKind.i64.wrap (mr - xr) = nr := ⟨_, rfl⟩
      have HTK : Hid ((xs ++ (xs.take (k + 1)).map (mirW s)) = (xs ++ (xs.take k).map (mirW s)) ++ [⟨nb, nr, xt, xbox, xwe, xcl, xpo⟩]) := Lib.hid (by rw [List.take_add_one, hxk]; simp [mirW, hmb, hmr, hnb, hnr])
      clear hxk hc
      go_wp2_with fail
      go_region
      go_wp2_with (at_builtin; refine wpList_append_any_s _ rfl (.tmp 55) (.tmp 57) _ rfl (w.heap.size + 1) 40 i0 _ 7 64 Try.underlying24 hi hz0 hz1 hz2 rfl (by omega) (.slice A' (n + k) cap) (n + k) _ rfl (own_drew ((hown.out.alloc _).alloc _)) _ (some ⟨wr.heap.size + 1, 0, none⟩) 1 1 #[.int .i64 nb, .int .i64 nr, .int .i64 xt, .string xbox, .int .i64 xwe, .int .i64 xcl, .int .i64 xpo].toList rfl ((SliceOf.blk (en := Load.cells) (Blk.drew (Blk.new_at _ 40 #[.int .i64 nb, .int .i64 nr, .int .i64 xt, .string xbox, .int .i64 xwe, .int .i64 xcl, .int .i64 xpo] _ (by simp))) [⟨nb, nr, xt, xbox, xwe, xcl, xpo⟩] rfl load_len rfl).reads load_len) (by simp [Value.oneCell']) (by unfold maxLen; omega) (by omega) (by simp; omega) ?_; intro A4 c3' w4 hown1 hg1 hloc1; have hB4 : Below w.heap.size w w4 := (((hbel.alloc hbel.size _).alloc (hbel.alloc hbel.size _).size _).drew).grown hg1 (by have := hbel.size; simp; omega) (fun j hj => by have := (hown.out.lt j hj).1; omega); have hk4 := (((hks.alloc _).alloc _).drew).grown hg1 (fun hj => by have := (hown.out.lt _ hj.symm).1; omega); have HO4 := Lib.hid hown1; clear hown1 hg1 hloc1)
      go_roundw
      case rel => exact ⟨k + 1, A4, c3', by omega, by go_num, rfl, hB4, hk4, Lib.hid (by rw [HTK.out, List.flatMap_append]; exact HO4.out)⟩
      case measure => simp [intOf]; omega
    · obtain rfl : k = n := by omega
      have HS : Hid (SliceOf wr 7 Load.cells A' (k + k) (both s xs)) := Lib.hid (SliceOf.of_own_s hown.out load_len (by rw [List.take_of_length_le (by omega)]; rfl) (by simp [both]; omega))
      have hk4 := hks
      have hB4 := hbel
      have hm2 : k + k ≤ maxLen := by unfold maxLen; omega
      clear hown hks hbel
      have a0 := hk4.cell 0; have a1 := hk4.cell 1; have a2 := hk4.cell 2; have a3 := hk4.cell 3; have a4 := hk4.cell 4; have a5 := hk4.cell 5; have a6 := hk4.cell 6; have a7 := hk4.cell 7; have a8 := hk4.cell 8; simp only [List.getElem?_toArray, List.getElem?_cons_zero, List.getElem?_cons_succ] at a0 a1 a2 a3 a4 a5 a6 a7 a8
      cases hf : fitB s (both s xs)
      · have F := Lib.hid hf
        clear hf
        go_wp2_with fail
        refine (rfit_any s hn _ _ _ (both s xs) _ HS.out hm2).mono ?_
        rw [F.out]
        rintro e w5 ⟨rfl, hb5⟩
        clear a0 a1 a2 a3 a4 a5 a6 a7 a8
        have hB5 := hB4.trans (hb5.mono hB4.size)
        have hk5 := hk4.below hb5 hk4.lt
        clear hB4 hk4 hb5
        go_wp2_with fail
        go_ret
        exact ⟨rfl, hB5⟩
      have F := Lib.hid hf
      have bd := mom_bd hf
      obtain ⟨hl, hc⟩ := both_sums hf
      have hms : margF s (both s xs) = margOf s (0, 0, sumBy fU (both s xs), sumBy Load.we (both s xs)) := by unfold margF; rw [hl, hc]
      have E1 := Lib.hid (sum_fit hf)
      rw [hl, hc] at E1
      have hlen : (both s xs).length = k + k := by simp [both]; omega
      obtain ⟨g0, g1, g2, g3, g4, g5, g6, g7⟩ := bd
      rw [hlen] at g5 g6 g7
      have E2 := Lib.hid (show safeV s (both s xs) = safeOf (margOf s (0, 0, sumBy fU (both s xs), sumBy Load.we (both s xs))) by unfold safeV; rw [hf, hms]; rfl)
      have hbc := bal_cases (U := sumBy fU (both s xs)) (M := sumBy Load.we (both s xs)) (fit_may hf).1 (by omega)
      obtain ⟨s0, s1, s2, s3, s4, s5, s6, s7⟩ := bounds_of (fit_may hf).1
      clear hf hl hc hms hlen g0 g1 g2 g3
      generalize both s xs = ys at *
      generalize sumBy fU ys = U at *
      generalize sumBy Load.we ys = M at *
      generalize safeOf (margOf s (0, 0, U, M)) = e0 at *
      have m0 : 0 ≤ M := by omega
      have m1 : M ≤ 4294967296 := by omega
      obtain ⟨p0, p1⟩ := prod_bd s4 s5 m0 m1
      go_wp2_with fail
      refine (rfit_any s hn _ _ _ ys _ HS.out hm2).mono ?_
      rw [F.out]
      rintro e w5 ⟨rfl, hb5⟩
      have HS5 := Lib.hid (HS.out.below hb5)
      clear a0 a1 a2 a3 a4 a5 a6 a7 a8
      have hB5 := hB4.trans (hb5.mono hB4.size)
      have hk5 := hk4.below hb5 hk4.lt
      clear hB4 hk4 hb5
      have a0 := hk5.cell 0; have a1 := hk5.cell 1; have a2 := hk5.cell 2; have a3 := hk5.cell 3; have a4 := hk5.cell 4; have a5 := hk5.cell 5; have a6 := hk5.cell 6; have a7 := hk5.cell 7; have a8 := hk5.cell 8; simp only [List.getElem?_toArray, List.getElem?_cons_zero, List.getElem?_cons_succ] at a0 a1 a2 a3 a4 a5 a6 a7 a8
      go_wp2_with fail
      refine (moments_any s hn _ _ _ ys _ HS5.out hm2).mono ?_
      rw [E1.out]
      rintro e w6 ⟨rfl, hb6⟩
      have HS6 := Lib.hid (HS5.out.below hb6)
      clear a0 a1 a2 a3 a4 a5 a6 a7 a8
      have hB6 := hB5.trans (hb6.mono hB5.size)
      have hk6 := hk5.below hb6 hk5.lt
      clear hB5 hk5 hb6
      have a0 := hk6.cell 0; have a1 := hk6.cell 1; have a2 := hk6.cell 2; have a3 := hk6.cell 3; have a4 := hk6.cell 4; have a5 := hk6.cell 5; have a6 := hk6.cell 6; have a7 := hk6.cell 7; have a8 := hk6.cell 8; simp only [List.getElem?_toArray, List.getElem?_cons_zero, List.getElem?_cons_succ] at a0 a1 a2 a3 a4 a5 a6 a7 a8
      go_wp2_with fail
      refine (safe_any s hn _ _ _ ys _ HS6.out hm2).mono ?_
      rw [E2.out]
      rintro e w7 ⟨rfl, hb7⟩
      clear a0 a1 a2 a3 a4 a5 a6 a7 a8
      have hB7 := hB6.trans (hb7.mono hB6.size)
      have hk7 := hk6.below hb7 hk6.lt
      clear hB6 hk6 hb7
      have a0 := hk7.cell 0; have a1 := hk7.cell 1; have a2 := hk7.cell 2; have a3 := hk7.cell 3; have a4 := hk7.cell 4; have a5 := hk7.cell 5; have a6 := hk7.cell 6; have a7 := hk7.cell 7; have a8 := hk7.cell 8; simp only [List.getElem?_toArray, List.getElem?_cons_zero, List.getElem?_cons_succ] at a0 a1 a2 a3 a4 a5 a6 a7 a8
      rcases hbc with ⟨q1, rfl⟩ | ⟨q1, q2, rfl⟩ | ⟨q1, q2, rfl⟩
      all_goals
        go_wp2_with fail
        go_ret
        exact ⟨ret_bool (by first | rfl | (simp; done) | (simp; omega)), hB7⟩
end Go.Proofs.Yteciegpfiipokaa
