/- Both bills behind deeds. No condition. -/
import Derived.Test.YteannbphaodadaaLawP
import Derived.OwnWalk
namespace Go.Proofs.Yteannbphaodadaa.kit
open Go.RowKit Go.PlainAid Go.Maps
set_option linter.unusedVariables false
/-- A pair of bills, and where they lie. -/
structure Pair (w : World) (g mb gr : Nat) (A : Option Addr) (n c : Nat) (b : Bl) : Prop where
  bi : IsBill w g mb b
  re : IsRef w gr A n c b
  fa : Farr g mb A
  nz : Nz A n
  n1 : gr ≠ g
  n2 : gr ≠ mb
theorem Pair.below {w w' : World} {g mb gr : Nat} {A : Option Addr} {n c : Nat} {b : Bl} (h : Pair w g mb gr A n c b) (hb : Below w.heap.size w w') : Pair w' g mb gr A n c b := ⟨h.bi.below hb, h.re.below hb, h.fa, h.nz, h.n1, h.n2⟩
def Grown (m : Nat) (w : World) (e : Ending) (w' : World) : Prop := ∃ (g mb gr : Nat) (A : Option Addr) (n c : Nat) (b : Bl), e = .returned (.tuple #[(.pointer (some ⟨g, 0, none⟩)), (.pointer (some ⟨gr, 0, none⟩)), .bool true]) ∧ Pair w' g mb gr A n c b ∧ b.pas.length ≤ m ∧ w.heap.size ≤ g ∧ w.heap.size ≤ mb ∧ w.heap.size ≤ gr ∧ Below w.heap.size w w'
set_option maxRecDepth 100000 in
set_option maxHeartbeats 6400000 in
theorem grown_any (d : Dr) (A : Option Addr) (n c : Nat) (xs : List De) (w : World) (hd : d.ok) (hmay : mayD d = true) (hx : SliceOf w 4 deC A n xs) (hw : ∀ x ∈ xs, x.ok) (hn : n ≤ 500) :
    Calls Try.prog 27 #[.agg #[.string d.num, .string d.drw, .string d.dre, .string d.pay, .string d.cur, .int .i64 d.amt, .int .i64 d.kind, .int .i64 d.days, .int .i64 d.fr], .slice A n c] w (Grown n w) := by
  have H := Lib.hid hx
  have HW := Lib.hid hw
  have HD := Lib.hid hd
  have hl := hx.len
  clear hx hw hd
  have hB0 : Below w.heap.size w (w.alloc (.cells #[.string d.num, .string d.drw, .string d.dre, .string d.pay, .string d.cur, .int .i64 d.amt, .int .i64 d.kind, .int .i64 d.days, .int .i64 d.fr] 25)) := (Below.refl _ _).alloc (Nat.le_refl _) _
  have hk0 : Blk (w.alloc (.cells #[.string d.num, .string d.drw, .string d.dre, .string d.pay, .string d.cur, .int .i64 d.amt, .int .i64 d.kind, .int .i64 d.days, .int .i64 d.fr] 25)) w.heap.size 25 #[.string d.num, .string d.drw, .string d.dre, .string d.pay, .string d.cur, .int .i64 d.amt, .int .i64 d.kind, .int .i64 d.days, .int .i64 d.fr] := Blk.new _ _ _
  have a0 := hk0.cell 0; have a1 := hk0.cell 1; have a2 := hk0.cell 2; have a3 := hk0.cell 3; have a4 := hk0.cell 4; have a5 := hk0.cell 5; have a6 := hk0.cell 6; have a7 := hk0.cell 7; have a8 := hk0.cell 8; simp only [List.getElem?_toArray, List.getElem?_cons_zero, List.getElem?_cons_succ] at a0 a1 a2 a3 a4 a5 a6 a7 a8
  go_enter Try.func27, Try.ntmps27
  go_wp2_with fail
  refine (new_yes d _ HD.out hmay).mono ?_
  rintro e w3 ⟨g, mb, rfl, hbill, hg, hmb, hb1⟩
  have hg := Nat.le_trans hB0.size hg
  have hmb := Nat.le_trans hB0.size hmb
  have hgs := hbill.blk.lt
  have hms := hbill.map.lt
  have HBI := Lib.hid hbill
  have hB1 := hB0.trans (hb1.mono hB0.size)
  have hk1 := hk0.below hb1 hk0.lt
  clear a0 a1 a2 a3 a4 a5 a6 a7 a8
  clear hB0 hk0 hb1
  have a0 := hk1.cell 0; have a1 := hk1.cell 1; have a2 := hk1.cell 2; have a3 := hk1.cell 3; have a4 := hk1.cell 4; have a5 := hk1.cell 5; have a6 := hk1.cell 6; have a7 := hk1.cell 7; have a8 := hk1.cell 8; simp only [List.getElem?_toArray, List.getElem?_cons_zero, List.getElem?_cons_succ] at a0 a1 a2 a3 a4 a5 a6 a7 a8
  go_wp2_with fail
  refine (rnew_any d _ HD.out).mono ?_
  rintro e w5 ⟨gr, rfl, href, hgr, hb2⟩
  have HBI := Lib.hid (HBI.out.below hb2)
  have HRE := Lib.hid href
  have hg1 : gr ≠ g := by omega
  have hg2 : gr ≠ mb := by omega
  have hgr : w.heap.size ≤ gr := Nat.le_trans hB1.size hgr
  clear href hbill
  have hB2 := hB1.trans (hb2.mono hB1.size)
  have hk2 := hk1.below hb2 hk1.lt
  clear a0 a1 a2 a3 a4 a5 a6 a7 a8
  clear hB1 hk1 hb2
  have a0 := hk2.cell 0; have a1 := hk2.cell 1; have a2 := hk2.cell 2; have a3 := hk2.cell 3; have a4 := hk2.cell 4; have a5 := hk2.cell 5; have a6 := hk2.cell 6; have a7 := hk2.cell 7; have a8 := hk2.cell 8; simp only [List.getElem?_toArray, List.getElem?_cons_zero, List.getElem?_cons_succ] at a0 a1 a2 a3 a4 a5 a6 a7 a8
  clear a0 a1 a2 a3 a4 a5 a6 a7 a8
  have HB2 := Lib.hid hB2
  clear hmay hgs hms hB2 hk2
  go_wp2_with fail
  go_loopw [10] (fun i wr => ∃ (k : Nat) (b : Bl) (Ar : Option Addr) (nr cr : Nat), k ≤ n ∧ i = .int .i64 k ∧ Hid (b.pas.length ≤ k) ∧ Hid (IsBill wr g mb b) ∧ Hid (IsRef wr gr Ar nr cr b) ∧ Hid (Farr g mb Ar) ∧ Hid (Nz Ar nr) ∧ Hid (Below w.heap.size w wr)) (fun i _ => n - (intOf i).toNat)
  case atStart => exact ⟨0, newV d, none, 0, 0, by omega, rfl, Lib.hid (Nat.le_refl 0), HBI, HRE, Lib.hid (Farr.none_ _ _), Lib.hid (fun _ x off e => by cases e), HB2⟩
  case round =>
    obtain ⟨k, b, Ar, nr, cr, hk, rfl, hpl, hbi, hre, hfa, hnz, hbw⟩ := hrel
    by_cases hlt : k < n
    · obtain ⟨bx, off, x, rfl, hxk, c0, c1, c2, c3⟩ := get_de (H.out.below hbw.out) hlt
      have HXO := Lib.hid (HW.out x (List.mem_of_getElem? hxk))
      clear hxk
      have HBW1 := Lib.hid (hbw.out.alloc hbw.out.size (.cells #[.int .i64 x.call, .string x.by_, .string x.to_, .int .i64 x.day] 48))
      have HBI1 := Lib.hid (hbi.out.below (one_alloc wr (.cells #[.int .i64 x.call, .string x.by_, .string x.to_, .int .i64 x.day] 48)))
      have HRE1 := Lib.hid (hre.out.below (one_alloc wr (.cells #[.int .i64 x.call, .string x.by_, .string x.to_, .int .i64 x.day] 48)))
      have HKX := Lib.hid (Blk.new wr 48 #[.int .i64 x.call, .string x.by_, .string x.to_, .int .i64 x.day])
      by_cases hc0 : x.call < 0
      · have hn0 : (0 ≤ x.call) = False := eq_false (by omega)
        have hn1 : decide (0 ≤ x.call) = false := decide_eq_false (by omega)
        go_upto_region 9 with (fail)
        clear c0 c1 c2 c3
        have c0 := (HKX.out).cell 0; have c1 := (HKX.out).cell 1; have c2 := (HKX.out).cell 2; have c3 := (HKX.out).cell 3; simp only [List.getElem?_toArray, List.getElem?_cons_zero, List.getElem?_cons_succ] at c0 c1 c2 c3
        go_quiet (fail)
        go_wp2_with fail
        exact ⟨⟨k + 1, b, Ar, nr, cr, by omega, by go_num, Lib.hid (Nat.le_succ_of_le hpl.out), Lib.hid (HBI1.out.below (below_drewN (Below.refl _ _) _)), Lib.hid (HRE1.out.drewN _), hfa, hnz, Lib.hid (below_drewN HBW1.out _)⟩, by simp [intOf]; omega⟩
      by_cases hc3 : 3 < x.call
      · have hn0 : (x.call ≤ 3) = False := eq_false (by omega)
        have hn1 : decide (x.call ≤ 3) = false := decide_eq_false (by omega)
        have hn2 : 0 ≤ x.call := by omega
        go_upto_region 9 with (fail)
        clear c0 c1 c2 c3
        have c0 := (HKX.out).cell 0; have c1 := (HKX.out).cell 1; have c2 := (HKX.out).cell 2; have c3 := (HKX.out).cell 3; simp only [List.getElem?_toArray, List.getElem?_cons_zero, List.getElem?_cons_succ] at c0 c1 c2 c3
        go_quiet (fail)
        go_wp2_with fail
        exact ⟨⟨k + 1, b, Ar, nr, cr, by omega, by go_num, Lib.hid (Nat.le_succ_of_le hpl.out), Lib.hid (HBI1.out.below (below_drewN (Below.refl _ _) _)), Lib.hid (HRE1.out.drewN _), hfa, hnz, Lib.hid (below_drewN HBW1.out _)⟩, by simp [intOf]; omega⟩
      have h0 : 0 ≤ x.call := by omega
      have h3 : x.call ≤ 3 := by omega
      have hlen : b.pas.length < 1000 := by have := hpl.out; omega
      have HN := Lib.hid (next_len b x.call x.by_ x.to_ x.day)
      have dne : (codeV b x.call x.by_ x.to_ x.day != codeV b x.call x.by_ x.to_ x.day) = false := bne_self_eq_false _
      have hx0 : wr.heap.size ≠ g := by have := hbi.out.blk.lt; omega
      have hx1 : wr.heap.size ≠ mb := by have := hbi.out.map.lt; omega
      have hx2 : wr.heap.size ≠ gr := by have := hre.out.blk.lt; omega
      go_upto_region 9 with (fail)
      clear c0 c1 c2 c3
      have HXD := Lib.hid (Turn.drew (Turn.refl g mb (wr.alloc (.cells #[.int .i64 x.call, .string x.by_, .string x.to_, .int .i64 x.day] 48))))
      have HKD : Hid (Blk (wr.alloc (.cells #[.int .i64 x.call, .string x.by_, .string x.to_, .int .i64 x.day] 48)).drew wr.heap.size 48 #[.int .i64 x.call, .string x.by_, .string x.to_, .int .i64 x.day]) := Lib.hid HKX.out
      have HRD := Lib.hid (HRE1.out.drewN 1)
      have HBD := Lib.hid HBI1.out.drew
      have HWD := Lib.hid (HBW1.out.drew)
      have c0 := (HKX.out).cell 0; have c1 := (HKX.out).cell 1; have c2 := (HKX.out).cell 2; have c3 := (HKX.out).cell 3; simp only [List.getElem?_toArray, List.getElem?_cons_zero, List.getElem?_cons_succ] at c0 c1 c2 c3
      have hgl2 : g < (wr.alloc (.cells #[.int .i64 x.call, .string x.by_, .string x.to_, .int .i64 x.day] 48)).drew.heap.size := HBD.out.blk.lt
      have hml2 : mb < (wr.alloc (.cells #[.int .i64 x.call, .string x.by_, .string x.to_, .int .i64 x.day] 48)).drew.heap.size := HBD.out.map.lt
      clear HBI1 HRE1 HBW1
      go_region_held3 (fun W => W.cell? ⟨wr.heap.size, 0, none⟩ = some (.int .i64 x.call) ∧ W.cell? ⟨wr.heap.size, 1, none⟩ = some (.string x.by_) ∧ W.cell? ⟨wr.heap.size, 2, none⟩ = some (.string x.to_) ∧ W.cell? ⟨wr.heap.size, 3, none⟩ = some (.int .i64 x.day)) (go_keep)
        (first | (go_at_call 25; (with_reducible refine Calls.mono (do_any2 g mb b x _ HBD.out HXO.out h0 h3 hlen) ?_); rintro e u2 ⟨rfl, hb2, ht2⟩; have HK2 := Lib.hid (ht2.blk HKD.out hx0 hx1); have e0 := (HK2.out).cell 0; have e1 := (HK2.out).cell 1; have e2 := (HK2.out).cell 2; have e3 := (HK2.out).cell 3; simp only [List.getElem?_toArray, List.getElem?_cons_zero, List.getElem?_cons_succ] at e0 e1 e2 e3; have HB2 := Lib.hid hb2; have HR2 := Lib.hid (ht2.ref HRD.out hg1 hg2 hfa.out); have HW2 := Lib.hid (ht2.bel _ _ HWD.out hg hmb); have hs2 := ht2.size; clear hb2 ht2) | (go_at_call 26; (with_reducible refine Calls.mono (rdo_any gr Ar nr cr b x _ HR2.out HXO.out h0 h3 hlen) ?_); rintro e u3 ⟨A', n', c', rfl, hr3, ht3, hf3⟩; have HK3 := Lib.hid (ht3.blk HK2.out hx2 hx2); have f0 := (HK3.out).cell 0; have f1 := (HK3.out).cell 1; have f2 := (HK3.out).cell 2; have f3 := (HK3.out).cell 3; simp only [List.getElem?_toArray, List.getElem?_cons_zero, List.getElem?_cons_succ] at f0 f1 f2 f3; have HR3 := Lib.hid hr3; have HB3 := Lib.hid (ht3.bill HB2.out (Ne.symm hg1) (Ne.symm hg1) (Ne.symm hg2) (Ne.symm hg2)); have HW3 := Lib.hid (ht3.bel _ _ HW2.out hgr hgr); have HF3 := Lib.hid (hfa.out.fresh hf3 (by omega) (by omega)); have HZ3 := Lib.hid (hnz.out.next HR2.out hr3 hf3); clear hr3 ht3 hf3))
      all_goals
        go_wp2_with fail
        exact ⟨⟨k + 1, _, _, _, _, by omega, by go_num, Lib.hid (by have := HN.out; have := hpl.out; omega), HB3, HR3, HF3, HZ3, HW3⟩, by simp [intOf]; omega⟩
    · go_wp2_with fail
      go_ret3
      exact ⟨g, mb, gr, Ar, nr, cr, b, rfl, ⟨hbi.out, hre.out, hfa.out, hnz.out, hg1, hg2⟩, by have := hpl.out; omega, hg, hmb, hgr, hbw.out⟩
end Go.Proofs.Yteannbphaodadaa.kit
