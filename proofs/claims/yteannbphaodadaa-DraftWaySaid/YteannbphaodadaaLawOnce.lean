/- DraftOnce: the law. No condition. -/
import Derived.Test.YteannbphaodadaaLawQ
namespace Go.Proofs.Yteannbphaodadaa
open Go.RowKit Go.PlainAid Go.Maps Go.Proofs.Yteannbphaodadaa.kit
set_option linter.unusedVariables false
set_option maxRecDepth 100000 in
set_option maxHeartbeats 6400000 in
theorem draftOnce_walk (d : Dr) (A : Option Addr) (n c : Nat) (xs : List De) (w : World) (hd : d.ok) (hx : SliceOf w 4 deC A n xs) (hw : ∀ x ∈ xs, x.ok) (hm : n ≤ maxLen) :
    Calls Try.prog 5 #[.agg #[.string d.num, .string d.drw, .string d.dre, .string d.pay, .string d.cur, .int .i64 d.amt, .int .i64 d.kind, .int .i64 d.days, .int .i64 d.fr], .slice A n c] w fun e w' => e = .returned (.bool true) ∧ Below w.heap.size w w' := by
  have H := Lib.hid hx
  have HW := Lib.hid hw
  have HD := Lib.hid hd
  have hl := hx.len
  clear hx hw hd
  have hB0 : Below w.heap.size w (w.alloc (.cells #[.string d.num, .string d.drw, .string d.dre, .string d.pay, .string d.cur, .int .i64 d.amt, .int .i64 d.kind, .int .i64 d.days, .int .i64 d.fr] 25)) := (Below.refl _ _).alloc (Nat.le_refl _) _
  have hk0 : Blk (w.alloc (.cells #[.string d.num, .string d.drw, .string d.dre, .string d.pay, .string d.cur, .int .i64 d.amt, .int .i64 d.kind, .int .i64 d.days, .int .i64 d.fr] 25)) w.heap.size 25 #[.string d.num, .string d.drw, .string d.dre, .string d.pay, .string d.cur, .int .i64 d.amt, .int .i64 d.kind, .int .i64 d.days, .int .i64 d.fr] := Blk.new _ _ _
  have a0 := hk0.cell 0; have a1 := hk0.cell 1; have a2 := hk0.cell 2; have a3 := hk0.cell 3; have a4 := hk0.cell 4; have a5 := hk0.cell 5; have a6 := hk0.cell 6; have a7 := hk0.cell 7; have a8 := hk0.cell 8; simp only [List.getElem?_toArray, List.getElem?_cons_zero, List.getElem?_cons_succ] at a0 a1 a2 a3 a4 a5 a6 a7 a8
  go_enter Try.func5, Try.ntmps5
  go_wp2_with fail
  refine (awake_any _).mono ?_
  rintro e w1 ⟨rfl, hb1⟩
  have hB1 := hB0.trans (hb1.mono hB0.size)
  have hk1 := hk0.below hb1 hk0.lt
  clear a0 a1 a2 a3 a4 a5 a6 a7 a8
  clear hB0 hk0 hb1
  have a0 := hk1.cell 0; have a1 := hk1.cell 1; have a2 := hk1.cell 2; have a3 := hk1.cell 3; have a4 := hk1.cell 4; have a5 := hk1.cell 5; have a6 := hk1.cell 6; have a7 := hk1.cell 7; have a8 := hk1.cell 8; simp only [List.getElem?_toArray, List.getElem?_cons_zero, List.getElem?_cons_succ] at a0 a1 a2 a3 a4 a5 a6 a7 a8
  go_wp2_with fail
  refine (long_any d _ HD.out).mono ?_
  rintro e w2 ⟨⟨v, rfl⟩, hb2⟩
  have hB2 := hB1.trans (hb2.mono hB1.size)
  have hk2 := hk1.below hb2 hk1.lt
  clear a0 a1 a2 a3 a4 a5 a6 a7 a8
  clear hB1 hk1 hb2
  have a0 := hk2.cell 0; have a1 := hk2.cell 1; have a2 := hk2.cell 2; have a3 := hk2.cell 3; have a4 := hk2.cell 4; have a5 := hk2.cell 5; have a6 := hk2.cell 6; have a7 := hk2.cell 7; have a8 := hk2.cell 8; simp only [List.getElem?_toArray, List.getElem?_cons_zero, List.getElem?_cons_succ] at a0 a1 a2 a3 a4 a5 a6 a7 a8
  by_cases hv : v = true
  · subst hv
    go_wp2_with fail
    go_ret
    exact ⟨rfl, hB2⟩
  obtain rfl : v = false := by simpa using hv
  clear hv
  go_wp2_with fail
  refine (heavy_any A n c xs 30 _ (H.out.below hB2) HW.out hm (by omega)).mono ?_
  rintro e w3 ⟨⟨v, rfl, hn⟩, rfl⟩
  by_cases hv : v = true
  · subst hv
    go_wp2_with fail
    go_ret
    exact ⟨rfl, hB2⟩
  obtain rfl : v = false := by simpa using hv
  have hn := hn rfl
  clear hv
  go_wp2_with fail
  refine (rmayD_any d _ HD.out).mono ?_
  cases hmay : mayD d
  · rintro e w4 ⟨rfl, hb3⟩
    have hB3 := hB2.trans (hb3.mono hB2.size)
    have hk3 := hk2.below hb3 hk2.lt
    clear a0 a1 a2 a3 a4 a5 a6 a7 a8
    clear hB2 hk2 hb3
    have a0 := hk3.cell 0; have a1 := hk3.cell 1; have a2 := hk3.cell 2; have a3 := hk3.cell 3; have a4 := hk3.cell 4; have a5 := hk3.cell 5; have a6 := hk3.cell 6; have a7 := hk3.cell 7; have a8 := hk3.cell 8; simp only [List.getElem?_toArray, List.getElem?_cons_zero, List.getElem?_cons_succ] at a0 a1 a2 a3 a4 a5 a6 a7 a8
    go_wp2_with fail
    go_ret
    exact ⟨rfl, hB3⟩
  rintro e w4 ⟨rfl, hb3⟩
  have hB3 := hB2.trans (hb3.mono hB2.size)
  have hk3 := hk2.below hb3 hk2.lt
  clear a0 a1 a2 a3 a4 a5 a6 a7 a8
  clear hB2 hk2 hb3
  have a0 := hk3.cell 0; have a1 := hk3.cell 1; have a2 := hk3.cell 2; have a3 := hk3.cell 3; have a4 := hk3.cell 4; have a5 := hk3.cell 5; have a6 := hk3.cell 6; have a7 := hk3.cell 7; have a8 := hk3.cell 8; simp only [List.getElem?_toArray, List.getElem?_cons_zero, List.getElem?_cons_succ] at a0 a1 a2 a3 a4 a5 a6 a7 a8
  go_wp2_with fail
  refine (new_yes d _ HD.out hmay).mono ?_
  rintro e w5 ⟨g, mb, rfl, hbill, hg, hmb, hb4⟩
  have hg : w.heap.size ≤ g := Nat.le_trans hB3.size hg
  have hmb : w.heap.size ≤ mb := Nat.le_trans hB3.size hmb
  have HBI := Lib.hid hbill
  clear hbill hmay
  have hB4 := hB3.trans (hb4.mono hB3.size)
  have hk4 := hk3.below hb4 hk3.lt
  clear a0 a1 a2 a3 a4 a5 a6 a7 a8
  clear hB3 hk3 hb4
  have a0 := hk4.cell 0; have a1 := hk4.cell 1; have a2 := hk4.cell 2; have a3 := hk4.cell 3; have a4 := hk4.cell 4; have a5 := hk4.cell 5; have a6 := hk4.cell 6; have a7 := hk4.cell 7; have a8 := hk4.cell 8; simp only [List.getElem?_toArray, List.getElem?_cons_zero, List.getElem?_cons_succ] at a0 a1 a2 a3 a4 a5 a6 a7 a8
  clear a0 a1 a2 a3 a4 a5 a6 a7 a8
  have HB4 := Lib.hid hB4
  clear hB4 hk4
  go_wp2_with fail
  go_loopw [7, 8] (fun p i wr => ∃ (k : Nat) (b : Bl) (pd : Int), k ≤ n ∧ i = .int .i64 k ∧ p = .int .i64 pd ∧ Hid (b.pas.length ≤ k) ∧ Hid (pd = if b.st = 2 then 1 else 0) ∧ Hid (IsBill wr g mb b) ∧ Hid (Below w.heap.size w wr)) (fun _ i _ => n - (intOf i).toNat)
  case atStart => exact ⟨0, newV d, 0, by omega, rfl, rfl, Lib.hid (Nat.le_refl 0), Lib.hid rfl, HBI, HB4⟩
  case round =>
    obtain ⟨k, b, pd, hk, rfl, rfl, hpl, hpd, hbi, hbw⟩ := hrel
    by_cases hlt : k < n
    · obtain ⟨bx, off, x, rfl, hxk, w0, w1, w2', w3'⟩ := get_de H.out hlt
      have c0 := cell_kept hbw.out w0; have c1 := cell_kept hbw.out w1; have c2 := cell_kept hbw.out w2'; have c3 := cell_kept hbw.out w3'
      have HXO := Lib.hid (HW.out x (List.mem_of_getElem? hxk))
      have hlen : b.pas.length < 1000 := by have := hpl.out; omega
      have HNL := Lib.hid (nextD_len b x)
      have hLN : (liaV (nextD b x)).length ≤ 1000 := by have := lia_len (nextD b x); have := HNL.out; have := hpl.out; omega
      have hdo := do_any g mb b x wr hbi.out HXO.out hlen
      obtain ⟨C, hC⟩ : ∃ C, codeD b x = C := ⟨_, rfl⟩
      go_wp2_with fail
      refine hdo.mono ?_
      rintro e u2 ⟨he, hb2, ht2⟩
      rw [hC] at he
      subst he
      have HW2 := Lib.hid (ht2.bel _ _ hbw.out hg hmb)
      have y0 := cell_kept HW2.out w0; have y1 := cell_kept HW2.out w1; have y2 := cell_kept HW2.out w2'; have y3 := cell_kept HW2.out w3'
      have HSAME := Lib.hid (fun h : codeD b x ≠ 0 => next_same h)
      have HPAID := Lib.hid (fun h : codeD b x = 0 => next_paid h)
      have HOPEN := Lib.hid (fun h : codeD b x = 0 => next_open h)
      have HNO := Lib.hid (fun h : b.st = 2 => st2_no (x := x) h)
      rw [hC] at HSAME HPAID HOPEN HNO
      clear hdo hC ht2 c0 c1 c2 c3 w0 w1 w2' w3'
      obtain ⟨b2, hb2e⟩ : ∃ b2, nextD b x = b2 := ⟨_, rfl⟩
      rw [hb2e] at hb2 HSAME HPAID HOPEN HNL hLN
      clear hb2e
      have HB2 := Lib.hid hb2
      have PD := hpd.out
      clear hb2 hpd
      by_cases h2 : b.st = 2
      · rw [if_pos h2] at PD
        subst PD
        have hC0 := HNO.out h2
        have e2 : Hid (b2.st = 2) := Lib.hid (by rw [HSAME.out hC0]; exact h2)
        have dC : (C == 0) = false := by simpa using hC0
        clear HSAME HPAID HOPEN HNO hC0 h2
        go_wp2_with fail
        refine (liable_any g mb b2 u2 HB2.out).mono ?_
        rintro e u3 ⟨v, rfl, A9, c9, rfl, hs9, hb3⟩
        have HS9 := Lib.hid hs9
        have HB3 := Lib.hid (HB2.out.below hb3)
        have HW3 := Lib.hid (HW2.out.trans (hb3.mono HW2.out.size))
        have HLN := Lib.hid hLN
        clear hs9 hb3 y0 y1 y2 y3 hLN
        obtain ⟨m, hmm⟩ : ∃ m, (liaV b2).length = m := ⟨_, rfl⟩
        rw [hmm] at HS9 HLN ⊢
        (have hm0 : m = 0 := by rw [← hmm, lia_nil e2.out]; rfl)
        have hmle := HLN.out
        go_wp2_with fail
        refine (state_any g mb b2 u3 HB3.out).mono ?_
        rw [e2.out]
        rintro e u4 ⟨rfl, rfl⟩
        go_wp2_with fail
        go_loopw [11] (fun j W => ∃ q : Nat, q ≤ m ∧ j = .int .i64 q ∧ Hid (IsBill W g mb b2) ∧ Hid (SliceOf W 1 strC A9 m (liaV b2)) ∧ Hid (Below w.heap.size w W)) (fun j _ => m - (intOf j).toNat)
        case atStart => exact ⟨0, by omega, rfl, HB3, HS9, HW3⟩
        case round =>
          obtain ⟨q, hq, rfl, HBq, HSq, HWq⟩ := hrel
          by_cases hqm : q < m
          · (exfalso; omega)
          · go_wp2_with fail
            exact ⟨⟨k + 1, b2, 1, by omega, by go_num, rfl, Lib.hid (by have := HNL.out; have := hpl.out; omega), Lib.hid (by rw [e2.out]; first | (rw [if_neg hS2]) | rfl), HBq, HWq⟩, by simp [intOf]; omega⟩
      · rw [if_neg h2] at PD
        subst PD
        by_cases hC0 : C = 0
        · have dC : (C == 0) = true := by simpa using hC0
          by_cases hx2 : x.call = 2
          · have e2 : Hid (b2.st = 2) := Lib.hid (HPAID.out hC0 hx2)
            have dx : (x.call == 2) = true := by simpa using hx2
            clear HSAME HPAID HOPEN HNO h2 hC0
            go_wp2_with fail
            refine (liable_any g mb b2 u2 HB2.out).mono ?_
            rintro e u3 ⟨v, rfl, A9, c9, rfl, hs9, hb3⟩
            have HS9 := Lib.hid hs9
            have HB3 := Lib.hid (HB2.out.below hb3)
            have HW3 := Lib.hid (HW2.out.trans (hb3.mono HW2.out.size))
            have HLN := Lib.hid hLN
            clear hs9 hb3 y0 y1 y2 y3 hLN
            obtain ⟨m, hmm⟩ : ∃ m, (liaV b2).length = m := ⟨_, rfl⟩
            rw [hmm] at HS9 HLN ⊢
            (have hm0 : m = 0 := by rw [← hmm, lia_nil e2.out]; rfl)
            have hmle := HLN.out
            go_wp2_with fail
            refine (state_any g mb b2 u3 HB3.out).mono ?_
            rw [e2.out]
            rintro e u4 ⟨rfl, rfl⟩
            go_wp2_with fail
            go_loopw [11] (fun j W => ∃ q : Nat, q ≤ m ∧ j = .int .i64 q ∧ Hid (IsBill W g mb b2) ∧ Hid (SliceOf W 1 strC A9 m (liaV b2)) ∧ Hid (Below w.heap.size w W)) (fun j _ => m - (intOf j).toNat)
            case atStart => exact ⟨0, by omega, rfl, HB3, HS9, HW3⟩
            case round =>
              obtain ⟨q, hq, rfl, HBq, HSq, HWq⟩ := hrel
              by_cases hqm : q < m
              · (exfalso; omega)
              · go_wp2_with fail
                exact ⟨⟨k + 1, b2, 1, by omega, by go_num, rfl, Lib.hid (by have := HNL.out; have := hpl.out; omega), Lib.hid (by rw [e2.out]; first | (rw [if_neg hS2]) | rfl), HBq, HWq⟩, by simp [intOf]; omega⟩
          · obtain ⟨S, hS⟩ : ∃ S, b2.st = S := ⟨_, rfl⟩
            have e2 := Lib.hid hS
            have hS2 : S ≠ 2 := by rw [← hS]; exact HOPEN.out hC0 hx2 h2
            have dS : (S == 2) = false := by simpa using hS2
            have dx : (x.call == 2) = false := by simpa using hx2
            clear HSAME HPAID HOPEN HNO h2 hC0 hS
            go_wp2_with fail
            refine (liable_any g mb b2 u2 HB2.out).mono ?_
            rintro e u3 ⟨v, rfl, A9, c9, rfl, hs9, hb3⟩
            have HS9 := Lib.hid hs9
            have HB3 := Lib.hid (HB2.out.below hb3)
            have HW3 := Lib.hid (HW2.out.trans (hb3.mono HW2.out.size))
            have HLN := Lib.hid hLN
            clear hs9 hb3 y0 y1 y2 y3 hLN
            obtain ⟨m, hmm⟩ : ∃ m, (liaV b2).length = m := ⟨_, rfl⟩
            rw [hmm] at HS9 HLN ⊢
            (have hm0 : 0 ≤ m := by omega)
            have hmle := HLN.out
            go_wp2_with fail
            refine (state_any g mb b2 u3 HB3.out).mono ?_
            rw [e2.out]
            rintro e u4 ⟨rfl, rfl⟩
            go_wp2_with fail
            go_loopw [11] (fun j W => ∃ q : Nat, q ≤ m ∧ j = .int .i64 q ∧ Hid (IsBill W g mb b2) ∧ Hid (SliceOf W 1 strC A9 m (liaV b2)) ∧ Hid (Below w.heap.size w W)) (fun j _ => m - (intOf j).toNat)
            case atStart => exact ⟨0, by omega, rfl, HB3, HS9, HW3⟩
            case round =>
              obtain ⟨q, hq, rfl, HBq, HSq, HWq⟩ := hrel
              by_cases hqm : q < m
              · obtain ⟨bz, oz, y, rfl, hy, z0⟩ := get_str HSq.out hqm
                have q1 := eq_str y b2.hol
                have dh : (y.toList == b2.hol.toList) = false := by rw [q1]; exact decide_eq_false (lia_ne (List.mem_of_getElem? hy))
                have HH := Lib.hid (fun (x : BW wr) => (holder_any g mb b2 (wof x) (HBq.out.below (wof_below x))).mono (fun e w' h => (⟨h.1, h.2 ▸ Below.refl _ _⟩ : e = .returned (.string b2.hol) ∧ Below (wof x).heap.size (wof x) w')))
                have p0 := wof_cell z0
                have HY := Lib.hid hy
                clear hy q1
                by_cases hq0 : 0 < q
                · obtain ⟨r, rfl⟩ : ∃ r, q = r + 1 := ⟨q - 1, by omega⟩
                  obtain ⟨bz', oz', y', ez, hy', z1⟩ := get_str HSq.out (k := r) (by omega)
                  injection ez with ez
                  injection ez with ez1 ez2
                  subst ez1 ez2
                  have p1 := wof_cell z1
                  have dl : Op.bytesLess y'.toList y.toList = true := by rw [lt_str]; exact decide_eq_true (lia_lt hy' HY.out)
                  have hw1 : IntKind.i64.wrap (((r : Int) + 1) - 1) = (r : Int) := by rw [Int.add_sub_cancel]; exact IntWalk.i64_in _ (by omega)
                  have hw0 : IntKind.i64.wrap (r : Int) = (r : Int) := IntWalk.i64_in _ (by omega)
                  clear hy'
                  go_wp2_with fail
                  refine wp_region_quiet_below (by kernel_rfl) (by kernel_rfl) ?_
                  repeat (go_big_quiet_step ((go_at_call 17; with_reducible exact quiet_below (HH.out _))))
                  refine wpQuiet_nil ?_
                  intro wz hbz
                  go_wp2_with fail
                  exact ⟨⟨r + 1 + 1, by omega, by go_num, Lib.hid (HBq.out.below hbz), Lib.hid (HSq.out.below hbz), Lib.hid (HWq.out.trans (hbz.mono HWq.out.size))⟩, by simp [intOf]; omega⟩
                · go_wp2_with fail
                  refine wp_region_quiet_below (by kernel_rfl) (by kernel_rfl) ?_
                  repeat (go_big_quiet_step ((go_at_call 17; with_reducible exact quiet_below (HH.out _))))
                  refine wpQuiet_nil ?_
                  intro wz hbz
                  go_wp2_with fail
                  exact ⟨⟨q + 1, by omega, by go_num, Lib.hid (HBq.out.below hbz), Lib.hid (HSq.out.below hbz), Lib.hid (HWq.out.trans (hbz.mono HWq.out.size))⟩, by simp [intOf]; omega⟩
              · go_wp2_with fail
                exact ⟨⟨k + 1, b2, 0, by omega, by go_num, rfl, Lib.hid (by have := HNL.out; have := hpl.out; omega), Lib.hid (by rw [e2.out]; first | (rw [if_neg hS2]) | rfl), HBq, HWq⟩, by simp [intOf]; omega⟩
        · have dC : (C == 0) = false := by simpa using hC0
          obtain ⟨S, hS⟩ : ∃ S, b2.st = S := ⟨_, rfl⟩
          have e2 := Lib.hid hS
          have hS2 : S ≠ 2 := by rw [← hS, HSAME.out hC0]; exact h2
          have dS : (S == 2) = false := by simpa using hS2
          clear HSAME HPAID HOPEN HNO h2 hC0 hS
          go_wp2_with fail
          refine (liable_any g mb b2 u2 HB2.out).mono ?_
          rintro e u3 ⟨v, rfl, A9, c9, rfl, hs9, hb3⟩
          have HS9 := Lib.hid hs9
          have HB3 := Lib.hid (HB2.out.below hb3)
          have HW3 := Lib.hid (HW2.out.trans (hb3.mono HW2.out.size))
          have HLN := Lib.hid hLN
          clear hs9 hb3 y0 y1 y2 y3 hLN
          obtain ⟨m, hmm⟩ : ∃ m, (liaV b2).length = m := ⟨_, rfl⟩
          rw [hmm] at HS9 HLN ⊢
          (have hm0 : 0 ≤ m := by omega)
          have hmle := HLN.out
          go_wp2_with fail
          refine (state_any g mb b2 u3 HB3.out).mono ?_
          rw [e2.out]
          rintro e u4 ⟨rfl, rfl⟩
          go_wp2_with fail
          go_loopw [11] (fun j W => ∃ q : Nat, q ≤ m ∧ j = .int .i64 q ∧ Hid (IsBill W g mb b2) ∧ Hid (SliceOf W 1 strC A9 m (liaV b2)) ∧ Hid (Below w.heap.size w W)) (fun j _ => m - (intOf j).toNat)
          case atStart => exact ⟨0, by omega, rfl, HB3, HS9, HW3⟩
          case round =>
            obtain ⟨q, hq, rfl, HBq, HSq, HWq⟩ := hrel
            by_cases hqm : q < m
            · obtain ⟨bz, oz, y, rfl, hy, z0⟩ := get_str HSq.out hqm
              have q1 := eq_str y b2.hol
              have dh : (y.toList == b2.hol.toList) = false := by rw [q1]; exact decide_eq_false (lia_ne (List.mem_of_getElem? hy))
              have HH := Lib.hid (fun (x : BW wr) => (holder_any g mb b2 (wof x) (HBq.out.below (wof_below x))).mono (fun e w' h => (⟨h.1, h.2 ▸ Below.refl _ _⟩ : e = .returned (.string b2.hol) ∧ Below (wof x).heap.size (wof x) w')))
              have p0 := wof_cell z0
              have HY := Lib.hid hy
              clear hy q1
              by_cases hq0 : 0 < q
              · obtain ⟨r, rfl⟩ : ∃ r, q = r + 1 := ⟨q - 1, by omega⟩
                obtain ⟨bz', oz', y', ez, hy', z1⟩ := get_str HSq.out (k := r) (by omega)
                injection ez with ez
                injection ez with ez1 ez2
                subst ez1 ez2
                have p1 := wof_cell z1
                have dl : Op.bytesLess y'.toList y.toList = true := by rw [lt_str]; exact decide_eq_true (lia_lt hy' HY.out)
                have hw1 : IntKind.i64.wrap (((r : Int) + 1) - 1) = (r : Int) := by rw [Int.add_sub_cancel]; exact IntWalk.i64_in _ (by omega)
                have hw0 : IntKind.i64.wrap (r : Int) = (r : Int) := IntWalk.i64_in _ (by omega)
                clear hy'
                go_wp2_with fail
                refine wp_region_quiet_below (by kernel_rfl) (by kernel_rfl) ?_
                repeat (go_big_quiet_step ((go_at_call 17; with_reducible exact quiet_below (HH.out _))))
                refine wpQuiet_nil ?_
                intro wz hbz
                go_wp2_with fail
                exact ⟨⟨r + 1 + 1, by omega, by go_num, Lib.hid (HBq.out.below hbz), Lib.hid (HSq.out.below hbz), Lib.hid (HWq.out.trans (hbz.mono HWq.out.size))⟩, by simp [intOf]; omega⟩
              · go_wp2_with fail
                refine wp_region_quiet_below (by kernel_rfl) (by kernel_rfl) ?_
                repeat (go_big_quiet_step ((go_at_call 17; with_reducible exact quiet_below (HH.out _))))
                refine wpQuiet_nil ?_
                intro wz hbz
                go_wp2_with fail
                exact ⟨⟨q + 1, by omega, by go_num, Lib.hid (HBq.out.below hbz), Lib.hid (HSq.out.below hbz), Lib.hid (HWq.out.trans (hbz.mono HWq.out.size))⟩, by simp [intOf]; omega⟩
            · go_wp2_with fail
              exact ⟨⟨k + 1, b2, 0, by omega, by go_num, rfl, Lib.hid (by have := HNL.out; have := hpl.out; omega), Lib.hid (by rw [e2.out]; first | (rw [if_neg hS2]) | rfl), HBq, HWq⟩, by simp [intOf]; omega⟩
    · go_wp2_with fail
      go_ret
      exact ⟨rfl, hbw.out⟩
end Go.Proofs.Yteannbphaodadaa
