/- DraftCopies: the law. No condition. -/
import Derived.Test.YteannbphaodadaaLawG
namespace Go.Proofs.Yteannbphaodadaa
open Go.RowKit Go.PlainAid Go.Maps Go.Proofs.Yteannbphaodadaa.kit
set_option linter.unusedVariables false
theorem _root_.Go.Proofs.Yteannbphaodadaa.kit.Pair.turn {g mb gr n c g' mb' : Nat} {A : Option Addr} {b : Bl} {w w' : World} (h : Pair w g mb gr A n c b) (ht : Turn g' mb' w w') (h1 : g ≠ g') (h2 : g ≠ mb') (h3 : mb ≠ g') (h4 : mb ≠ mb') (h5 : gr ≠ g') (h6 : gr ≠ mb') (hf : Farr g' mb' A) : Pair w' g mb gr A n c b :=
  ⟨ht.bill h.bi h1 h2 h3 h4, ht.ref h.re h5 h6 hf, h.fa, h.nz, h.n1, h.n2⟩
set_option maxRecDepth 100000 in
set_option maxHeartbeats 6400000 in
theorem draftCopies_walk (d : Dr) (A : Option Addr) (n c : Nat) (xs : List De) (A2 : Option Addr) (n2 c2 : Nat) (xs2 : List De) (w : World) (hd : d.ok) (hx : SliceOf w 4 deC A n xs) (hw : ∀ x ∈ xs, x.ok) (hm : n ≤ maxLen) (hx2 : SliceOf w 4 deC A2 n2 xs2) (hw2 : ∀ x ∈ xs2, x.ok) (hm2 : n2 ≤ maxLen) :
    Calls Try.prog 7 #[.agg #[.string d.num, .string d.drw, .string d.dre, .string d.pay, .string d.cur, .int .i64 d.amt, .int .i64 d.kind, .int .i64 d.days, .int .i64 d.fr], .slice A n c, .slice A2 n2 c2] w fun e w' => e = .returned (.bool true) ∧ Below w.heap.size w w' := by
  have H := Lib.hid hx
  have H2 := Lib.hid hx2
  have HV := Lib.hid hw2
  have hl2 := hx2.len
  have HW := Lib.hid hw
  have HD := Lib.hid hd
  have hl := hx.len
  clear hx hw hd hx2 hw2
  have hB0 : Below w.heap.size w (w.alloc (.cells #[.string d.num, .string d.drw, .string d.dre, .string d.pay, .string d.cur, .int .i64 d.amt, .int .i64 d.kind, .int .i64 d.days, .int .i64 d.fr] 25)) := (Below.refl _ _).alloc (Nat.le_refl _) _
  have hk0 : Blk (w.alloc (.cells #[.string d.num, .string d.drw, .string d.dre, .string d.pay, .string d.cur, .int .i64 d.amt, .int .i64 d.kind, .int .i64 d.days, .int .i64 d.fr] 25)) w.heap.size 25 #[.string d.num, .string d.drw, .string d.dre, .string d.pay, .string d.cur, .int .i64 d.amt, .int .i64 d.kind, .int .i64 d.days, .int .i64 d.fr] := Blk.new _ _ _
  have a0 := hk0.cell 0; have a1 := hk0.cell 1; have a2 := hk0.cell 2; have a3 := hk0.cell 3; have a4 := hk0.cell 4; have a5 := hk0.cell 5; have a6 := hk0.cell 6; have a7 := hk0.cell 7; have a8 := hk0.cell 8; simp only [List.getElem?_toArray, List.getElem?_cons_zero, List.getElem?_cons_succ] at a0 a1 a2 a3 a4 a5 a6 a7 a8
  go_enter Try.func7, Try.ntmps7
  go_wp2_with fail
  refine (awake_any _).mono ?_
  rintro e w1 ⟨rfl, hb1⟩
  have hB1 := hB0.trans (hb1.mono hB0.size)
  have hk1 := hk0.below hb1 hk0.lt
  clear a0 a1 a2 a3 a4 a5 a6 a7 a8
  clear hB0 hk0 hb1
  have a0 := hk1.cell 0; have a1 := hk1.cell 1; have a2 := hk1.cell 2; have a3 := hk1.cell 3; have a4 := hk1.cell 4; have a5 := hk1.cell 5; have a6 := hk1.cell 6; have a7 := hk1.cell 7; have a8 := hk1.cell 8; simp only [List.getElem?_toArray, List.getElem?_cons_zero, List.getElem?_cons_succ] at a0 a1 a2 a3 a4 a5 a6 a7 a8
  go_wp2_with fail
  refine (long_any d _ HD.out).mono ?_
  rintro e w2 ⟨⟨v, rfl⟩, hb2⟩
  have hB2 := hB1.trans (hb2.mono hB1.size)
  have hk2 := hk1.below hb2 hk1.lt
  clear a0 a1 a2 a3 a4 a5 a6 a7 a8
  clear hB1 hk1 hb2
  have a0 := hk2.cell 0; have a1 := hk2.cell 1; have a2 := hk2.cell 2; have a3 := hk2.cell 3; have a4 := hk2.cell 4; have a5 := hk2.cell 5; have a6 := hk2.cell 6; have a7 := hk2.cell 7; have a8 := hk2.cell 8; simp only [List.getElem?_toArray, List.getElem?_cons_zero, List.getElem?_cons_succ] at a0 a1 a2 a3 a4 a5 a6 a7 a8
  by_cases hv : v = true
  · subst hv
    go_wp2_with fail
    go_ret
    exact ⟨rfl, hB2⟩
  obtain rfl : v = false := by simpa using hv
  clear hv
  go_wp2_with fail
  refine (heavy_any A n c xs 20 _ (H.out.below hB2) HW.out hm (by omega)).mono ?_
  rintro e w3 ⟨⟨v, rfl, hn⟩, rfl⟩
  by_cases hv : v = true
  · subst hv
    go_wp2_with fail
    go_ret
    exact ⟨rfl, hB2⟩
  obtain rfl : v = false := by simpa using hv
  have hn := hn rfl
  clear hv
  go_wp2_with fail
  refine (heavy_any A2 n2 c2 xs2 8 _ (H2.out.below hB2) HV.out hm2 (by omega)).mono ?_
  rintro e w3 ⟨⟨v, rfl, hn⟩, rfl⟩
  by_cases hv : v = true
  · subst hv
    go_wp2_with fail
    go_ret
    exact ⟨rfl, hB2⟩
  obtain rfl : v = false := by simpa using hv
  have hn2 := hn rfl
  clear hv
  go_wp2_with fail
  refine (rmayD_any d _ HD.out).mono ?_
  cases hmay : mayD d
  · rintro e w4 ⟨rfl, hb3⟩
    have hB3 := hB2.trans (hb3.mono hB2.size)
    have hk3 := hk2.below hb3 hk2.lt
    clear a0 a1 a2 a3 a4 a5 a6 a7 a8
    clear hB2 hk2 hb3
    have a0 := hk3.cell 0; have a1 := hk3.cell 1; have a2 := hk3.cell 2; have a3 := hk3.cell 3; have a4 := hk3.cell 4; have a5 := hk3.cell 5; have a6 := hk3.cell 6; have a7 := hk3.cell 7; have a8 := hk3.cell 8; simp only [List.getElem?_toArray, List.getElem?_cons_zero, List.getElem?_cons_succ] at a0 a1 a2 a3 a4 a5 a6 a7 a8
    go_wp2_with fail
    go_ret
    exact ⟨rfl, hB3⟩
  rintro e w4 ⟨rfl, hb3⟩
  have hB3 := hB2.trans (hb3.mono hB2.size)
  have hk3 := hk2.below hb3 hk2.lt
  clear a0 a1 a2 a3 a4 a5 a6 a7 a8
  clear hB2 hk2 hb3
  have a0 := hk3.cell 0; have a1 := hk3.cell 1; have a2 := hk3.cell 2; have a3 := hk3.cell 3; have a4 := hk3.cell 4; have a5 := hk3.cell 5; have a6 := hk3.cell 6; have a7 := hk3.cell 7; have a8 := hk3.cell 8; simp only [List.getElem?_toArray, List.getElem?_cons_zero, List.getElem?_cons_succ] at a0 a1 a2 a3 a4 a5 a6 a7 a8
  go_wp2_with fail
  have hs3 := hB3.size
  refine (grown_any d A n c xs _ HD.out hmay (H.out.below hB3) HW.out (by omega)).mono ?_
  rintro e w5 ⟨g, mb, gr, Ar, nr, cr, b, rfl, hp, hpb, hg, hmb, hgr, hb4⟩
  have hg : w.heap.size ≤ g := Nat.le_trans hs3 hg
  have hmb : w.heap.size ≤ mb := Nat.le_trans hs3 hmb
  have hgr : w.heap.size ≤ gr := Nat.le_trans hs3 hgr
  have HP := Lib.hid hp
  have lg := hp.bi.blk.lt
  have lm := hp.bi.map.lt
  have lr := hp.re.blk.lt
  clear hp hmay
  have hB4 := hB3.trans (hb4.mono hB3.size)
  have hk4 := hk3.below hb4 hk3.lt
  clear a0 a1 a2 a3 a4 a5 a6 a7 a8
  clear hB3 hk3 hb4
  have a0 := hk4.cell 0; have a1 := hk4.cell 1; have a2 := hk4.cell 2; have a3 := hk4.cell 3; have a4 := hk4.cell 4; have a5 := hk4.cell 5; have a6 := hk4.cell 6; have a7 := hk4.cell 7; have a8 := hk4.cell 8; simp only [List.getElem?_toArray, List.getElem?_cons_zero, List.getElem?_cons_succ] at a0 a1 a2 a3 a4 a5 a6 a7 a8
  clear a0 a1 a2 a3 a4 a5 a6 a7 a8
  have HB4 := Lib.hid hB4
  clear hB4 hk4
  go_wp2_with fail
  refine (copy_any g mb b _ HP.out.bi).mono ?_
  rintro e w6 ⟨g', m', rfl, hc6, lg', lm', hb6⟩
  have HC6 := Lib.hid hc6
  have HP6 := Lib.hid (HP.out.below hb6)
  have HB6 := Lib.hid (HB4.out.trans (hb6.mono HB4.out.size))
  have HAL := Lib.hid (fun x off (e : Ar = some ⟨x, off, none⟩) => ref_lt HP.out.re HP.out.nz x off e)
  have hs6 := hb6.size
  have lg2 := hc6.blk.lt
  have lm2 := hc6.map.lt
  have hre := HP6.out.re.blk
  have z0 := hre.cell 0; have z1 := hre.cell 1; have z2 := hre.cell 2; have z3 := hre.cell 3; have z4 := hre.cell 4; have z5 := hre.cell 5; have z6 := hre.cell 6; have z7 := hre.cell 7; have z8 := hre.cell 8; have z9 := hre.cell 9; have z10 := hre.cell 10; have z11 := hre.cell 11; have z12 := hre.cell 12; have z13 := hre.cell 13
  simp only [List.getElem?_toArray, List.getElem?_cons_zero, List.getElem?_cons_succ] at z0 z1 z2 z3 z4 z5 z6 z7 z8 z9 z10 z11 z12 z13
  clear hc6 hb6 hre
  go_upto_region 10 with (fail)
  clear z0 z1 z2 z3 z4 z5 z6 z7 z8 z9 z10 z11 z12 z13
  have hb7 := one_alloc w6 (.cells #[.string b.d.num, .string b.d.drw, .string b.d.dre, .string b.d.pay, .string b.d.cur, .int .i64 b.d.amt, .int .i64 b.d.kind, .int .i64 b.d.days, .int .i64 b.d.fr, .int .i64 b.st, .bool b.acc, .string b.hol, .slice Ar nr cr, .int .i64 b.last] 56)
  have HP7 := Lib.hid (HP6.out.below hb7)
  have HC7 := Lib.hid (HC6.out.below hb7)
  have HB7 := Lib.hid (HB6.out.trans (hb7.mono HB6.out.size))
  have HR7 : Hid (IsRef (w6.alloc (.cells #[.string b.d.num, .string b.d.drw, .string b.d.dre, .string b.d.pay, .string b.d.cur, .int .i64 b.d.amt, .int .i64 b.d.kind, .int .i64 b.d.days, .int .i64 b.d.fr, .int .i64 b.st, .bool b.acc, .string b.hol, .slice Ar nr cr, .int .i64 b.last] 56)) w6.heap.size Ar nr cr b) := Lib.hid ⟨Blk.new _ _ _, HP7.out.re.sl, HP7.out.re.nc, HP7.out.re.cm, fun x off e => by (have := HAL.out x off e; omega), HP7.out.re.dok, HP7.out.re.hol, HP7.out.re.pas, HP7.out.re.len, HP7.out.re.st0⟩
  obtain ⟨gs, hgs⟩ : ∃ gs, w6.heap.size = gs := ⟨_, rfl⟩
  rw [hgs] at HR7 lg2 lm2 ⊢
  have hgs6 : w.heap.size ≤ gs := by have := HB6.out.size; omega
  have HF1 : Hid (Farr g' m' Ar) := Lib.hid (fun x off e => by have := HAL.out x off e; exact ⟨by omega, by omega⟩)
  have HF2 : Hid (Farr gs gs Ar) := Lib.hid (fun x off e => by have := HAL.out x off e; exact ⟨by omega, by omega⟩)
  have hg' : w.heap.size ≤ g' := by have := HB4.out.size; omega
  have hm' : w.heap.size ≤ m' := by have := HB4.out.size; omega
  have hk1 : gs ≠ g' := by omega
  have hk2 : gs ≠ m' := by omega
  have j1 : g ≠ g' := by omega
  have j2 : g ≠ m' := by omega
  have j3 : mb ≠ g' := by omega
  have j4 : mb ≠ m' := by omega
  have j5 : gr ≠ g' := by omega
  have j6 : gr ≠ m' := by omega
  have i1 : g ≠ gs := by omega
  have i2 : mb ≠ gs := by omega
  have i3 : gr ≠ gs := by omega
  clear HP HP6 HC6 HB6 HB4 HAL hb7 lg lm lr lg' lm' hs6 lg2 lm2 hgs hs3
  generalize w6.alloc (.cells #[.string b.d.num, .string b.d.drw, .string b.d.dre, .string b.d.pay, .string b.d.cur, .int .i64 b.d.amt, .int .i64 b.d.kind, .int .i64 b.d.days, .int .i64 b.d.fr, .int .i64 b.st, .bool b.acc, .string b.hol, .slice Ar nr cr, .int .i64 b.last] 56) = W7 at HP7 HC7 HB7 HR7 ⊢
  go_wp2_with fail
  go_loopw [12] (fun i wr => ∃ (k : Nat) (b' : Bl) (A' : Option Addr) (n' c' : Nat), k ≤ n2 ∧ i = .int .i64 k ∧ Hid (b'.pas.length ≤ n + k) ∧ Hid (IsBill wr g' m' b') ∧ Hid (IsRef wr gs A' n' c' b') ∧ Hid (Farr g' m' A') ∧ Hid (Pair wr g mb gr Ar nr cr b) ∧ Hid (Below w.heap.size w wr)) (fun i _ => n2 - (intOf i).toNat)
  case atStart => exact ⟨0, b, Ar, nr, cr, by omega, rfl, Lib.hid hpb, HC7, HR7, HF1, HP7, HB7⟩
  case round =>
    obtain ⟨k, b', A', n', c', hk, rfl, hpl, hbi, hre, hfa, hpp, hbw⟩ := hrel
    by_cases hlt : k < n2
    · obtain ⟨bx, off, x, rfl, hxk, c0, c1, c2', c3⟩ := get_de (H2.out.below hbw.out) hlt
      have HXO := Lib.hid (HV.out x (List.mem_of_getElem? hxk))
      clear hxk
      have HBW1 := Lib.hid (hbw.out.alloc hbw.out.size (.cells #[.int .i64 x.call, .string x.by_, .string x.to_, .int .i64 x.day] 48))
      have HBI1 := Lib.hid (hbi.out.below (one_alloc wr (.cells #[.int .i64 x.call, .string x.by_, .string x.to_, .int .i64 x.day] 48)))
      have HRE1 := Lib.hid (hre.out.below (one_alloc wr (.cells #[.int .i64 x.call, .string x.by_, .string x.to_, .int .i64 x.day] 48)))
      have HP1 := Lib.hid (hpp.out.below (one_alloc wr (.cells #[.int .i64 x.call, .string x.by_, .string x.to_, .int .i64 x.day] 48)))
      have HKX := Lib.hid (Blk.new wr 48 #[.int .i64 x.call, .string x.by_, .string x.to_, .int .i64 x.day])
      by_cases hc0 : x.call < 0
      · have hn0 : (0 ≤ x.call) = False := eq_false (by omega)
        have hn1 : decide (0 ≤ x.call) = false := decide_eq_false (by omega)
        go_upto_region 14 with (fail)
        clear c0 c1 c2' c3
        have c0 := (HKX.out).cell 0; have c1 := (HKX.out).cell 1; have c2' := (HKX.out).cell 2; have c3 := (HKX.out).cell 3; simp only [List.getElem?_toArray, List.getElem?_cons_zero, List.getElem?_cons_succ] at c0 c1 c2' c3
        go_quiet (fail)
        go_wp2_with fail
        exact ⟨⟨k + 1, b', A', n', c', by omega, by go_num, Lib.hid (Nat.le_succ_of_le hpl.out), Lib.hid (HBI1.out.below (below_drewN (Below.refl _ _) _)), Lib.hid (HRE1.out.drewN _), hfa, Lib.hid (HP1.out.below (below_drewN (Below.refl _ _) _)), Lib.hid (below_drewN HBW1.out _)⟩, by simp [intOf]; omega⟩
      by_cases hc3 : 3 < x.call
      · have hn0 : (x.call ≤ 3) = False := eq_false (by omega)
        have hn1 : decide (x.call ≤ 3) = false := decide_eq_false (by omega)
        have hn2 : 0 ≤ x.call := by omega
        go_upto_region 14 with (fail)
        clear c0 c1 c2' c3
        have c0 := (HKX.out).cell 0; have c1 := (HKX.out).cell 1; have c2' := (HKX.out).cell 2; have c3 := (HKX.out).cell 3; simp only [List.getElem?_toArray, List.getElem?_cons_zero, List.getElem?_cons_succ] at c0 c1 c2' c3
        go_quiet (fail)
        go_wp2_with fail
        exact ⟨⟨k + 1, b', A', n', c', by omega, by go_num, Lib.hid (Nat.le_succ_of_le hpl.out), Lib.hid (HBI1.out.below (below_drewN (Below.refl _ _) _)), Lib.hid (HRE1.out.drewN _), hfa, Lib.hid (HP1.out.below (below_drewN (Below.refl _ _) _)), Lib.hid (below_drewN HBW1.out _)⟩, by simp [intOf]; omega⟩
      have h0 : 0 ≤ x.call := by omega
      have h3 : x.call ≤ 3 := by omega
      have hlen : b'.pas.length < 1000 := by have := hpl.out; omega
      have HN := Lib.hid (next_len b' x.call x.by_ x.to_ x.day)
      have dne : (codeV b' x.call x.by_ x.to_ x.day != codeV b' x.call x.by_ x.to_ x.day) = false := bne_self_eq_false _
      have hx0 : wr.heap.size ≠ g' := by have := hbi.out.blk.lt; omega
      have hx1 : wr.heap.size ≠ m' := by have := hbi.out.map.lt; omega
      have hx2 : wr.heap.size ≠ gs := by have := hre.out.blk.lt; omega
      go_upto_region 14 with (fail)
      clear c0 c1 c2' c3
      have HKD : Hid (Blk (wr.alloc (.cells #[.int .i64 x.call, .string x.by_, .string x.to_, .int .i64 x.day] 48)).drew wr.heap.size 48 #[.int .i64 x.call, .string x.by_, .string x.to_, .int .i64 x.day]) := Lib.hid HKX.out
      have HRD := Lib.hid (HRE1.out.drewN 1)
      have HPD : Hid (Pair (wr.alloc (.cells #[.int .i64 x.call, .string x.by_, .string x.to_, .int .i64 x.day] 48)).drew g mb gr Ar nr cr b) := Lib.hid (HP1.out.below (below_drewN (Below.refl _ _) 1))
      have HBD := Lib.hid HBI1.out.drew
      have HWD := Lib.hid (HBW1.out.drew)
      have c0 := (HKX.out).cell 0; have c1 := (HKX.out).cell 1; have c2' := (HKX.out).cell 2; have c3 := (HKX.out).cell 3; simp only [List.getElem?_toArray, List.getElem?_cons_zero, List.getElem?_cons_succ] at c0 c1 c2' c3
      have hgl2 : g' < (wr.alloc (.cells #[.int .i64 x.call, .string x.by_, .string x.to_, .int .i64 x.day] 48)).drew.heap.size := HBD.out.blk.lt
      have hml2 : m' < (wr.alloc (.cells #[.int .i64 x.call, .string x.by_, .string x.to_, .int .i64 x.day] 48)).drew.heap.size := HBD.out.map.lt
      clear HBI1 HRE1 HBW1 HP1
      go_region_held3 (fun W => W.cell? ⟨wr.heap.size, 0, none⟩ = some (.int .i64 x.call) ∧ W.cell? ⟨wr.heap.size, 1, none⟩ = some (.string x.by_) ∧ W.cell? ⟨wr.heap.size, 2, none⟩ = some (.string x.to_) ∧ W.cell? ⟨wr.heap.size, 3, none⟩ = some (.int .i64 x.day)) (go_keep)
        (first | (go_at_call 25; (with_reducible refine Calls.mono (do_any2 g' m' b' x _ HBD.out HXO.out h0 h3 hlen) ?_); rintro e u2 ⟨rfl, hb2, ht2⟩; have HK2 := Lib.hid (ht2.blk HKD.out hx0 hx1); have e0 := (HK2.out).cell 0; have e1 := (HK2.out).cell 1; have e2 := (HK2.out).cell 2; have e3 := (HK2.out).cell 3; simp only [List.getElem?_toArray, List.getElem?_cons_zero, List.getElem?_cons_succ] at e0 e1 e2 e3; have HB2 := Lib.hid hb2; have HR2 := Lib.hid (ht2.ref HRD.out hk1 hk2 hfa.out); have HW2 := Lib.hid (ht2.bel _ _ HWD.out hg' hm'); have HP2 := Lib.hid (HPD.out.turn ht2 j1 j2 j3 j4 j5 j6 HF1.out); have hs2 := ht2.size; clear hb2 ht2) | (go_at_call 26; (with_reducible refine Calls.mono (rdo_any gs A' n' c' b' x _ HR2.out HXO.out h0 h3 hlen) ?_); rintro e u3 ⟨A9, n9, c9, rfl, hr3, ht3, hf3⟩; have HK3 := Lib.hid (ht3.blk HK2.out hx2 hx2); have f0 := (HK3.out).cell 0; have f1 := (HK3.out).cell 1; have f2 := (HK3.out).cell 2; have f3 := (HK3.out).cell 3; simp only [List.getElem?_toArray, List.getElem?_cons_zero, List.getElem?_cons_succ] at f0 f1 f2 f3; have HR3 := Lib.hid hr3; have HB3 := Lib.hid (ht3.bill HB2.out (Ne.symm hk1) (Ne.symm hk1) (Ne.symm hk2) (Ne.symm hk2)); have HW3 := Lib.hid (ht3.bel _ _ HW2.out hgs6 hgs6); have HF3 := Lib.hid (hfa.out.fresh hf3 (by omega) (by omega)); have HP3 := Lib.hid (HP2.out.turn ht3 i1 i1 i2 i2 i3 i3 HF2.out); clear hr3 ht3 hf3))
      all_goals
        go_wp2_with fail
        exact ⟨⟨k + 1, _, _, _, _, by omega, by go_num, Lib.hid (by have := HN.out; have := hpl.out; omega), HB3, HR3, HF3, HP3, HW3⟩, by simp [intOf]; omega⟩
    · go_wp2_with fail
      refine (even_any g mb gr _ _ _ b _ hpp.out.bi hpp.out.re).mono ?_
      rintro e w8 ⟨rfl, hb8⟩
      have HBI8 := Lib.hid (hbi.out.below hb8)
      have HRE8 := Lib.hid (hre.out.below hb8)
      have HW8 := Lib.hid (hbw.out.trans (hb8.mono hbw.out.size))
      clear hb8
      go_wp2_with fail
      refine (even_any g' m' gs _ _ _ b' _ HBI8.out HRE8.out).mono ?_
      rintro e w9 ⟨rfl, hb9⟩
      have HW9 := Lib.hid (HW8.out.trans (hb9.mono HW8.out.size))
      clear hb9
      go_wp2_with fail
      go_ret
      exact ⟨rfl, HW9.out⟩
end Go.Proofs.Yteannbphaodadaa
