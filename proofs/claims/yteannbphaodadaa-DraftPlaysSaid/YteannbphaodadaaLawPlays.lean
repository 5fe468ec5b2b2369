/- DraftPlays: the law. No condition. -/
import Derived.Test.YteannbphaodadaaLawP
namespace Go.Proofs.Yteannbphaodadaa
open Go.RowKit Go.PlainAid Go.Maps Go.Proofs.Yteannbphaodadaa.kit
set_option linter.unusedVariables false
set_option maxRecDepth 100000 in
set_option maxHeartbeats 6400000 in
theorem draftPlays_walk (d : Dr) (A : Option Addr) (n c : Nat) (xs : List De) (w : World) (hd : d.ok) (hx : SliceOf w 4 deC A n xs) (hw : ∀ x ∈ xs, x.ok) (hm : n ≤ maxLen) :
    Calls Try.prog 4 #[.agg #[.string d.num, .string d.drw, .string d.dre, .string d.pay, .string d.cur, .int .i64 d.amt, .int .i64 d.kind, .int .i64 d.days, .int .i64 d.fr], .slice A n c] w fun e w' => e = .returned (.bool true) ∧ Below w.heap.size w w' := by
  have H := Lib.hid hx
  have HW := Lib.hid hw
  have HD := Lib.hid hd
  have hl := hx.len
  clear hx hw hd
  have hB0 : Below w.heap.size w (w.alloc (.cells #[.string d.num, .string d.drw, .string d.dre, .string d.pay, .string d.cur, .int .i64 d.amt, .int .i64 d.kind, .int .i64 d.days, .int .i64 d.fr] 25)) := (Below.refl _ _).alloc (Nat.le_refl _) _
  have hk0 : Blk (w.alloc (.cells #[.string d.num, .string d.drw, .string d.dre, .string d.pay, .string d.cur, .int .i64 d.amt, .int .i64 d.kind, .int .i64 d.days, .int .i64 d.fr] 25)) w.heap.size 25 #[.string d.num, .string d.drw, .string d.dre, .string d.pay, .string d.cur, .int .i64 d.amt, .int .i64 d.kind, .int .i64 d.days, .int .i64 d.fr] := Blk.new _ _ _
  have a0 := hk0.cell 0; have a1 := hk0.cell 1; have a2 := hk0.cell 2; have a3 := hk0.cell 3; have a4 := hk0.cell 4; have a5 := hk0.cell 5; have a6 := hk0.cell 6; have a7 := hk0.cell 7; have a8 := hk0.cell 8; simp only [List.getElem?_toArray, List.getElem?_cons_zero, List.getElem?_cons_succ] at a0 a1 a2 a3 a4 a5 a6 a7 a8
  go_enter Try.func4, Try.ntmps4
  go_wp2_with fail
  refine (awake_any _).mono ?_
  rintro e w1 ⟨rfl, hb1⟩
  have hB1 := hB0.trans (hb1.mono hB0.size)
  have hk1 := hk0.below hb1 hk0.lt
  clear a0 a1 a2 a3 a4 a5 a6 a7 a8
  clear hB0 hk0 hb1
  have a0 := hk1.cell 0; have a1 := hk1.cell 1; have a2 := hk1.cell 2; have a3 := hk1.cell 3; have a4 := hk1.cell 4; have a5 := hk1.cell 5; have a6 := hk1.cell 6; have a7 := hk1.cell 7; have a8 := hk1.cell 8; simp only [List.getElem?_toArray, List.getElem?_cons_zero, List.getElem?_cons_succ] at a0 a1 a2 a3 a4 a5 a6 a7 a8
  go_wp2_with fail
  refine (long_any d _ HD.out).mono ?_
  rintro e w2 ⟨⟨v, rfl⟩, hb2⟩
  have hB2 := hB1.trans (hb2.mono hB1.size)
  have hk2 := hk1.below hb2 hk1.lt
  clear a0 a1 a2 a3 a4 a5 a6 a7 a8
  clear hB1 hk1 hb2
  have a0 := hk2.cell 0; have a1 := hk2.cell 1; have a2 := hk2.cell 2; have a3 := hk2.cell 3; have a4 := hk2.cell 4; have a5 := hk2.cell 5; have a6 := hk2.cell 6; have a7 := hk2.cell 7; have a8 := hk2.cell 8; simp only [List.getElem?_toArray, List.getElem?_cons_zero, List.getElem?_cons_succ] at a0 a1 a2 a3 a4 a5 a6 a7 a8
  by_cases hv : v = true
  · subst hv
    go_wp2_with fail
    go_ret
    exact ⟨rfl, hB2⟩
  obtain rfl : v = false := by simpa using hv
  clear hv
  go_wp2_with fail
  refine (heavy_any A n c xs 30 _ (H.out.below hB2) HW.out hm (by omega)).mono ?_
  rintro e w3 ⟨⟨v, rfl, hn⟩, rfl⟩
  by_cases hv : v = true
  · subst hv
    go_wp2_with fail
    go_ret
    exact ⟨rfl, hB2⟩
  obtain rfl : v = false := by simpa using hv
  have hn := hn rfl
  clear hv
  cases hmay : mayD d
  · go_wp2_with fail
    refine (new_no d _ HD.out hmay).mono ?_
    rintro e w3 ⟨rfl, hb3⟩
    have hB3 := hB2.trans (hb3.mono hB2.size)
    have hk3 := hk2.below hb3 hk2.lt
    clear a0 a1 a2 a3 a4 a5 a6 a7 a8
    clear hB2 hk2 hb3
    have a0 := hk3.cell 0; have a1 := hk3.cell 1; have a2 := hk3.cell 2; have a3 := hk3.cell 3; have a4 := hk3.cell 4; have a5 := hk3.cell 5; have a6 := hk3.cell 6; have a7 := hk3.cell 7; have a8 := hk3.cell 8; simp only [List.getElem?_toArray, List.getElem?_cons_zero, List.getElem?_cons_succ] at a0 a1 a2 a3 a4 a5 a6 a7 a8
    go_wp2_with fail
    refine (rmayD_any d _ HD.out).mono ?_
    rw [hmay]
    rintro e w4 ⟨rfl, hb4⟩
    have hB4 := hB3.trans (hb4.mono hB3.size)
    have hk4 := hk3.below hb4 hk3.lt
    clear a0 a1 a2 a3 a4 a5 a6 a7 a8
    clear hB3 hk3 hb4
    have a0 := hk4.cell 0; have a1 := hk4.cell 1; have a2 := hk4.cell 2; have a3 := hk4.cell 3; have a4 := hk4.cell 4; have a5 := hk4.cell 5; have a6 := hk4.cell 6; have a7 := hk4.cell 7; have a8 := hk4.cell 8; simp only [List.getElem?_toArray, List.getElem?_cons_zero, List.getElem?_cons_succ] at a0 a1 a2 a3 a4 a5 a6 a7 a8
    go_wp2_with fail
    go_ret
    exact ⟨rfl, hB4⟩
  go_wp2_with fail
  refine (new_yes d _ HD.out hmay).mono ?_
  rintro e w3 ⟨g, mb, rfl, hbill, hg, hmb, hb3⟩
  have hg := Nat.le_trans hB2.size hg
  have hmb := Nat.le_trans hB2.size hmb
  have hgs := hbill.blk.lt
  have hms := hbill.map.lt
  have HBI := Lib.hid hbill
  have hB3 := hB2.trans (hb3.mono hB2.size)
  have hk3 := hk2.below hb3 hk2.lt
  clear a0 a1 a2 a3 a4 a5 a6 a7 a8
  clear hB2 hk2 hb3
  have a0 := hk3.cell 0; have a1 := hk3.cell 1; have a2 := hk3.cell 2; have a3 := hk3.cell 3; have a4 := hk3.cell 4; have a5 := hk3.cell 5; have a6 := hk3.cell 6; have a7 := hk3.cell 7; have a8 := hk3.cell 8; simp only [List.getElem?_toArray, List.getElem?_cons_zero, List.getElem?_cons_succ] at a0 a1 a2 a3 a4 a5 a6 a7 a8
  go_wp2_with fail
  refine (rmayD_any d _ HD.out).mono ?_
  rw [hmay]
  rintro e w4 ⟨rfl, hb4⟩
  have HBI := Lib.hid (HBI.out.below hb4)
  have hs34 := hb4.size
  have hB4 := hB3.trans (hb4.mono hB3.size)
  have hk4 := hk3.below hb4 hk3.lt
  clear a0 a1 a2 a3 a4 a5 a6 a7 a8
  clear hB3 hk3 hb4
  have a0 := hk4.cell 0; have a1 := hk4.cell 1; have a2 := hk4.cell 2; have a3 := hk4.cell 3; have a4 := hk4.cell 4; have a5 := hk4.cell 5; have a6 := hk4.cell 6; have a7 := hk4.cell 7; have a8 := hk4.cell 8; simp only [List.getElem?_toArray, List.getElem?_cons_zero, List.getElem?_cons_succ] at a0 a1 a2 a3 a4 a5 a6 a7 a8
  go_wp2_with fail
  refine (rnew_any d _ HD.out).mono ?_
  rintro e w5 ⟨gr, rfl, href, hgr, hb5⟩
  have HBI := Lib.hid (HBI.out.below hb5)
  have HRE := Lib.hid href
  have hg1 : gr ≠ g := by omega
  have hg2 : gr ≠ mb := by omega
  have hgr : w.heap.size ≤ gr := Nat.le_trans hB4.size hgr
  clear href hbill
  have hB5 := hB4.trans (hb5.mono hB4.size)
  have hk5 := hk4.below hb5 hk4.lt
  clear a0 a1 a2 a3 a4 a5 a6 a7 a8
  clear hB4 hk4 hb5
  have a0 := hk5.cell 0; have a1 := hk5.cell 1; have a2 := hk5.cell 2; have a3 := hk5.cell 3; have a4 := hk5.cell 4; have a5 := hk5.cell 5; have a6 := hk5.cell 6; have a7 := hk5.cell 7; have a8 := hk5.cell 8; simp only [List.getElem?_toArray, List.getElem?_cons_zero, List.getElem?_cons_succ] at a0 a1 a2 a3 a4 a5 a6 a7 a8
  clear a0 a1 a2 a3 a4 a5 a6 a7 a8
  clear hmay hgs hms hs34
  go_wp2_with fail
  refine (even_any g mb gr none 0 0 (newV d) _ HBI.out HRE.out).mono ?_
  rintro e w6 ⟨rfl, hb6⟩
  have HB6 := Lib.hid (hB5.trans (hb6.mono hB5.size))
  have HBI6 := Lib.hid (HBI.out.below hb6)
  have HRE6 := Lib.hid (HRE.out.below hb6)
  clear hb6 hB5 hk5
  go_wp2_with fail
  go_loopw [8] (fun i wr => ∃ (k : Nat) (b : Bl) (Ar : Option Addr) (nr cr : Nat), k ≤ n ∧ i = .int .i64 k ∧ Hid (b.pas.length ≤ k) ∧ Hid (IsBill wr g mb b) ∧ Hid (IsRef wr gr Ar nr cr b) ∧ Hid (Farr g mb Ar) ∧ Hid (Below w.heap.size w wr)) (fun i _ => n - (intOf i).toNat)
  case atStart => exact ⟨0, newV d, none, 0, 0, by omega, rfl, Lib.hid (Nat.le_refl 0), HBI6, HRE6, Lib.hid (Farr.none_ _ _), HB6⟩
  case round =>
    obtain ⟨k, b, Ar, nr, cr, hk, rfl, hpl, hbi, hre, hfa, hbw⟩ := hrel
    by_cases hlt : k < n
    · obtain ⟨bx, off, x, rfl, hxk, c0, c1, c2, c3⟩ := get_de (H.out.below hbw.out) hlt
      have HXO := Lib.hid (HW.out x (List.mem_of_getElem? hxk))
      clear hxk
      have HBW1 := Lib.hid (hbw.out.alloc hbw.out.size (.cells #[.int .i64 x.call, .string x.by_, .string x.to_, .int .i64 x.day] 48))
      have HBI1 := Lib.hid (hbi.out.below (one_alloc wr (.cells #[.int .i64 x.call, .string x.by_, .string x.to_, .int .i64 x.day] 48)))
      have HRE1 := Lib.hid (hre.out.below (one_alloc wr (.cells #[.int .i64 x.call, .string x.by_, .string x.to_, .int .i64 x.day] 48)))
      have HKX := Lib.hid (Blk.new wr 48 #[.int .i64 x.call, .string x.by_, .string x.to_, .int .i64 x.day])
      by_cases hc0 : x.call < 0
      · go_wp2_with fail
        exact ⟨⟨k + 1, b, Ar, nr, cr, by omega, by go_num, Lib.hid (Nat.le_succ_of_le hpl.out), HBI1, HRE1, hfa, HBW1⟩, by simp [intOf]; omega⟩
      by_cases hc3 : 3 < x.call
      · go_wp2_with fail
        exact ⟨⟨k + 1, b, Ar, nr, cr, by omega, by go_num, Lib.hid (Nat.le_succ_of_le hpl.out), HBI1, HRE1, hfa, HBW1⟩, by simp [intOf]; omega⟩
      have h0 : 0 ≤ x.call := by omega
      have h3 : x.call ≤ 3 := by omega
      have hlen : b.pas.length < 1000 := by have := hpl.out; omega
      have HN := Lib.hid (next_len b x.call x.by_ x.to_ x.day)
      have dne : (codeV b x.call x.by_ x.to_ x.day != codeV b x.call x.by_ x.to_ x.day) = false := bne_self_eq_false _
      have hx0 : wr.heap.size ≠ g := by have := hbi.out.blk.lt; omega
      have hx1 : wr.heap.size ≠ mb := by have := hbi.out.map.lt; omega
      have hx2 : wr.heap.size ≠ gr := by have := hre.out.blk.lt; omega
      have hgl := hbi.out.blk.lt
      have hml := hbi.out.map.lt
      go_upto_region 16 with (fail)
      clear c0 c1 c2 c3
      have HXD := Lib.hid (Turn.drew (Turn.refl g mb (wr.alloc (.cells #[.int .i64 x.call, .string x.by_, .string x.to_, .int .i64 x.day] 48))))
      have HKD : Hid (Blk (wr.alloc (.cells #[.int .i64 x.call, .string x.by_, .string x.to_, .int .i64 x.day] 48)).drew wr.heap.size 48 #[.int .i64 x.call, .string x.by_, .string x.to_, .int .i64 x.day]) := Lib.hid HKX.out
      have HRD := Lib.hid (HRE1.out.drewN 1)
      have HBD := Lib.hid HBI1.out.drew
      have HWD := Lib.hid (HBW1.out.drew)
      have c0 := (HKX.out).cell 0; have c1 := (HKX.out).cell 1; have c2 := (HKX.out).cell 2; have c3 := (HKX.out).cell 3; simp only [List.getElem?_toArray, List.getElem?_cons_zero, List.getElem?_cons_succ] at c0 c1 c2 c3
      have hgl2 : g < (wr.alloc (.cells #[.int .i64 x.call, .string x.by_, .string x.to_, .int .i64 x.day] 48)).drew.heap.size := HBD.out.blk.lt
      have hml2 : mb < (wr.alloc (.cells #[.int .i64 x.call, .string x.by_, .string x.to_, .int .i64 x.day] 48)).drew.heap.size := HBD.out.map.lt
      clear HBI1 HRE1 HBW1
      go_region_held3 (fun W => W.cell? ⟨wr.heap.size, 0, none⟩ = some (.int .i64 x.call) ∧ W.cell? ⟨wr.heap.size, 1, none⟩ = some (.string x.by_) ∧ W.cell? ⟨wr.heap.size, 2, none⟩ = some (.string x.to_) ∧ W.cell? ⟨wr.heap.size, 3, none⟩ = some (.int .i64 x.day)) (go_keep)
        (first | (go_at_call 25; (with_reducible refine Calls.mono (do_any2 g mb b x _ HBD.out HXO.out h0 h3 hlen) ?_); rintro e u2 ⟨rfl, hb2, ht2⟩; have HK2 := Lib.hid (ht2.blk HKD.out hx0 hx1); have e0 := (HK2.out).cell 0; have e1 := (HK2.out).cell 1; have e2 := (HK2.out).cell 2; have e3 := (HK2.out).cell 3; simp only [List.getElem?_toArray, List.getElem?_cons_zero, List.getElem?_cons_succ] at e0 e1 e2 e3; have HB2 := Lib.hid hb2; have HR2 := Lib.hid (ht2.ref HRD.out hg1 hg2 hfa.out); have HW2 := Lib.hid (ht2.bel _ _ HWD.out hg hmb); have hs2 := ht2.size; clear hb2 ht2) | (go_at_call 26; (with_reducible refine Calls.mono (rdo_any gr Ar nr cr b x _ HR2.out HXO.out h0 h3 hlen) ?_); rintro e u3 ⟨A', n', c', rfl, hr3, ht3, hf3⟩; have HK3 := Lib.hid (ht3.blk HK2.out hx2 hx2); have f0 := (HK3.out).cell 0; have f1 := (HK3.out).cell 1; have f2 := (HK3.out).cell 2; have f3 := (HK3.out).cell 3; simp only [List.getElem?_toArray, List.getElem?_cons_zero, List.getElem?_cons_succ] at f0 f1 f2 f3; have HR3 := Lib.hid hr3; have HB3 := Lib.hid (ht3.bill HB2.out (Ne.symm hg1) (Ne.symm hg1) (Ne.symm hg2) (Ne.symm hg2)); have HW3 := Lib.hid (ht3.bel _ _ HW2.out hgr hgr); have HF3 := Lib.hid (hfa.out.fresh hf3 (by omega) (by omega)); clear hr3 ht3 hf3) | (go_at_call 24; (with_reducible refine Calls.mono (even_any g mb gr _ _ _ _ _ HB3.out HR3.out) ?_); rintro e u4 ⟨rfl, hb4⟩; have HK4 := Lib.hid (HK3.out.below hb4 HK3.out.lt); have g0 := (HK4.out).cell 0; have g1 := (HK4.out).cell 1; have g2 := (HK4.out).cell 2; have g3 := (HK4.out).cell 3; simp only [List.getElem?_toArray, List.getElem?_cons_zero, List.getElem?_cons_succ] at g0 g1 g2 g3; have HR4 := Lib.hid (HR3.out.below hb4); have HB4 := Lib.hid (HB3.out.below hb4); have HW4 := Lib.hid (HW3.out.trans (hb4.mono HW3.out.size)); clear hb4))
      all_goals
        go_wp2_with fail
        exact ⟨⟨k + 1, _, _, _, _, by omega, by go_num, Lib.hid (by have := HN.out; have := hpl.out; omega), HB4, HR4, HF3, HW4⟩, by simp [intOf]; omega⟩
    · go_wp2_with fail
      go_ret
      exact ⟨rfl, hbw.out⟩
end Go.Proofs.Yteannbphaodadaa
