/- DraftLiable: the law. No condition. -/
import Derived.Test.YteannbphaodadaaLawOnce
namespace Go.Proofs.Yteannbphaodadaa.kit
open Go.RowKit Go.PlainAid Go.Maps
set_option linter.unusedVariables false

theorem Turn.own {g mb : Nat} {w w' : World} (h : Turn g mb w w') {base n size : Nat} {e : TypeId} {v : Value} {ys : List Value} (ho : w.ownsRow base e size v n ys) (hg : g < base) (hm : mb < base) : w'.ownsRow base e size v n ys := by
  refine ⟨ho.1, ?_⟩
  rcases ho.2 with hn | ⟨k, cap, cur, rfl, hb, hgg, rest⟩
  · exact .inl hn
  · refine .inr ⟨k, cap, cur, rfl, hb, ?_, rest⟩
    rw [h.keep k (Array.getElem?_eq_some_iff.1 hgg).1 (by omega) (by omega)]
    exact hgg
theorem IsBill.under {w w' : World} {g mb n : Nat} {b : Bl} (h : IsBill w g mb b) (hb : Below n w w') (hg : g < n) (hm : mb < n) : IsBill w' g mb b := by
  refine ⟨h.blk.below hb hg, ?_, h.dok, h.hol, h.pas, h.len⟩
  obtain ⟨es, clock, hm', F, hs, hD⟩ := h.map
  exact ⟨es, clock, (hb.block mb hm).trans hm', F, hs, hD⟩
theorem own_one (W : World) (s : ByteArray) (B : Nat) (hB : B ≤ W.heap.size) : (W.alloc (.cells #[.string s] 9)).ownsRow B 9 1 (.slice (some ⟨W.heap.size, 0, none⟩) 1 1) 1 ([s].flatMap strC) :=
  ⟨rfl, .inr ⟨W.heap.size, 1, #[.string s], rfl, hB, Blk.new _ _ _, Nat.le_refl _, by unfold maxLen; omega, rfl, rfl⟩⟩
theorem done_owers {b : Bl} {call : Int} {s t : ByteArray} {on : Int} {z : ByteArray} (h : z ∈ owers b) : z ∈ owers (doneV b call s t on) := by
  unfold owers at h
  have h1 : z ∈ b.pas ∨ z = b.d.drw ∨ (b.acc = true ∧ z = b.d.dre) := by
    rcases List.mem_append.1 h with h | h
    · exact .inl h
    · rcases List.mem_cons.1 h with h | h
      · exact .inr (.inl h)
      · cases hb : b.acc
        · rw [hb] at h; cases h
        · rw [hb] at h; exact .inr (.inr ⟨rfl, List.mem_singleton.1 h⟩)
  unfold doneV owers
  split
  · rcases h1 with h1 | h1 | ⟨_, h1⟩
    · exact List.mem_append_left _ h1
    · rw [h1]; simp
    · rw [h1]; simp
  · split
    · rcases h1 with h1 | h1 | ⟨h2, h1⟩
      · exact List.mem_append_left _ (List.mem_append_left _ h1)
      · rw [h1]; simp
      · rw [h1, h2]; simp
    · split <;> exact h
theorem owers_next {b : Bl} {x : De} {z : ByteArray} (h : z ∈ owers b) : z ∈ owers (nextD b x) := by
  unfold nextD
  split
  · unfold nextV
    split
    · exact done_owers h
    · exact h
  · exact h
theorem owers_call {b : Bl} {x : De} (h : codeD b x = 0) (hc : x.call = 0 ∨ x.call = 1) : x.by_ ∈ owers (nextD b x) := by
  rw [(code_call h).2]
  rcases hc with hc | hc
  · have h1 : codeV b x.call x.by_ x.to_ x.day = 0 := by rw [← codeD_of (by omega) (by omega)]; exact h
    have hw : whoV b x.call x.by_ = true := by
      unfold codeV stepV at h1
      rw [if_neg (by omega)] at h1
      split at h1
      · cases h1
      · split at h1
        · cases h1
        · split at h1
          · cases h1
          · split at h1
            · cases h1
            · rename_i h2; simpa using h2
    unfold whoV at hw
    rw [if_neg (by omega), if_neg (by omega)] at hw
    have hd := of_decide_eq_true hw
    unfold doneV owers
    rw [if_pos hc, hd]
    simp
  · unfold doneV owers
    rw [if_neg (by omega), if_pos hc]
    simp
theorem owed_in {b : Bl} {z : ByteArray} (h : b.st ≠ 2) (hz : z ∈ owers b) : memS (liaV b) z = !decide (z = b.hol) := by
  by_cases e : z = b.hol
  · rw [decide_eq_true e]
    cases hm : memS (liaV b) z
    · rfl
    · exact (lia_ne (memS_iff.1 hm) e).elim
  · rw [decide_eq_false e]
    exact memS_iff.2 ((lia_mem h z).2 ⟨hz, e⟩)
theorem memS_snoc {l : List ByteArray} {k : Nat} {y z : ByteArray} (h : l[k]? = some y) : memS (l.take (k + 1)) z = (memS (l.take k) z || decide (y = z)) := by
  rw [takeS h]
  unfold memS
  rw [List.any_append]
  simp
theorem mono_bel {f : FuncId} {args : Array Value} {v : Value} {w : World} (h : Calls Try.prog f args w fun e w' => e = .returned v ∧ w = w') : Calls Try.prog f args w fun e w' => e = .returned v ∧ Below w.heap.size w w' :=
  h.mono (fun e w' h => ⟨h.1, h.2 ▸ Below.refl _ _⟩)
end Go.Proofs.Yteannbphaodadaa.kit
namespace Go.Proofs.Yteannbphaodadaa
open Go.RowKit Go.PlainAid Go.Maps Go.Proofs.Yteannbphaodadaa.kit
set_option linter.unusedVariables false
set_option maxRecDepth 100000 in
set_option maxHeartbeats 6400000 in
theorem draftLiable_walk (d : Dr) (A : Option Addr) (n c : Nat) (xs : List De) (w : World) (hd : d.ok) (hx : SliceOf w 4 deC A n xs) (hw : ∀ x ∈ xs, x.ok) (hm : n ≤ maxLen) :
    Calls Try.prog 6 #[.agg #[.string d.num, .string d.drw, .string d.dre, .string d.pay, .string d.cur, .int .i64 d.amt, .int .i64 d.kind, .int .i64 d.days, .int .i64 d.fr], .slice A n c] w fun e w' => e = .returned (.bool true) ∧ Below w.heap.size w w' := by
  have H := Lib.hid hx
  have HW := Lib.hid hw
  have HD := Lib.hid hd
  have hl := hx.len
  clear hx hw hd
  have hB0 : Below w.heap.size w (w.alloc (.cells #[.string d.num, .string d.drw, .string d.dre, .string d.pay, .string d.cur, .int .i64 d.amt, .int .i64 d.kind, .int .i64 d.days, .int .i64 d.fr] 25)) := (Below.refl _ _).alloc (Nat.le_refl _) _
  have hk0 : Blk (w.alloc (.cells #[.string d.num, .string d.drw, .string d.dre, .string d.pay, .string d.cur, .int .i64 d.amt, .int .i64 d.kind, .int .i64 d.days, .int .i64 d.fr] 25)) w.heap.size 25 #[.string d.num, .string d.drw, .string d.dre, .string d.pay, .string d.cur, .int .i64 d.amt, .int .i64 d.kind, .int .i64 d.days, .int .i64 d.fr] := Blk.new _ _ _
  have a0 := hk0.cell 0; have a1 := hk0.cell 1; have a2 := hk0.cell 2; have a3 := hk0.cell 3; have a4 := hk0.cell 4; have a5 := hk0.cell 5; have a6 := hk0.cell 6; have a7 := hk0.cell 7; have a8 := hk0.cell 8; simp only [List.getElem?_toArray, List.getElem?_cons_zero, List.getElem?_cons_succ] at a0 a1 a2 a3 a4 a5 a6 a7 a8
  go_enter Try.func6, Try.ntmps6
  go_wp2_with fail
  refine (awake_any _).mono ?_
  rintro e w1 ⟨rfl, hb1⟩
  have hB1 := hB0.trans (hb1.mono hB0.size)
  have hk1 := hk0.below hb1 hk0.lt
  clear a0 a1 a2 a3 a4 a5 a6 a7 a8
  clear hB0 hk0 hb1
  have a0 := hk1.cell 0; have a1 := hk1.cell 1; have a2 := hk1.cell 2; have a3 := hk1.cell 3; have a4 := hk1.cell 4; have a5 := hk1.cell 5; have a6 := hk1.cell 6; have a7 := hk1.cell 7; have a8 := hk1.cell 8; simp only [List.getElem?_toArray, List.getElem?_cons_zero, List.getElem?_cons_succ] at a0 a1 a2 a3 a4 a5 a6 a7 a8
  go_wp2_with fail
  refine (long_any d _ HD.out).mono ?_
  rintro e w2 ⟨⟨v, rfl⟩, hb2⟩
  have hB2 := hB1.trans (hb2.mono hB1.size)
  have hk2 := hk1.below hb2 hk1.lt
  clear a0 a1 a2 a3 a4 a5 a6 a7 a8
  clear hB1 hk1 hb2
  have a0 := hk2.cell 0; have a1 := hk2.cell 1; have a2 := hk2.cell 2; have a3 := hk2.cell 3; have a4 := hk2.cell 4; have a5 := hk2.cell 5; have a6 := hk2.cell 6; have a7 := hk2.cell 7; have a8 := hk2.cell 8; simp only [List.getElem?_toArray, List.getElem?_cons_zero, List.getElem?_cons_succ] at a0 a1 a2 a3 a4 a5 a6 a7 a8
  by_cases hv : v = true
  · subst hv
    go_wp2_with fail
    go_ret
    exact ⟨rfl, hB2⟩
  obtain rfl : v = false := by simpa using hv
  clear hv
  go_wp2_with fail
  refine (heavy_any A n c xs 30 _ (H.out.below hB2) HW.out hm (by omega)).mono ?_
  rintro e w3 ⟨⟨v, rfl, hn⟩, rfl⟩
  by_cases hv : v = true
  · subst hv
    go_wp2_with fail
    go_ret
    exact ⟨rfl, hB2⟩
  obtain rfl : v = false := by simpa using hv
  have hn := hn rfl
  clear hv
  go_wp2_with fail
  refine (rmayD_any d _ HD.out).mono ?_
  cases hmay : mayD d
  · rintro e w4 ⟨rfl, hb3⟩
    have hB3 := hB2.trans (hb3.mono hB2.size)
    have hk3 := hk2.below hb3 hk2.lt
    clear a0 a1 a2 a3 a4 a5 a6 a7 a8
    clear hB2 hk2 hb3
    have a0 := hk3.cell 0; have a1 := hk3.cell 1; have a2 := hk3.cell 2; have a3 := hk3.cell 3; have a4 := hk3.cell 4; have a5 := hk3.cell 5; have a6 := hk3.cell 6; have a7 := hk3.cell 7; have a8 := hk3.cell 8; simp only [List.getElem?_toArray, List.getElem?_cons_zero, List.getElem?_cons_succ] at a0 a1 a2 a3 a4 a5 a6 a7 a8
    go_wp2_with fail
    go_ret
    exact ⟨rfl, hB3⟩
  rintro e w4 ⟨rfl, hb3⟩
  have hB3 := hB2.trans (hb3.mono hB2.size)
  have hk3 := hk2.below hb3 hk2.lt
  clear a0 a1 a2 a3 a4 a5 a6 a7 a8
  clear hB2 hk2 hb3
  have a0 := hk3.cell 0; have a1 := hk3.cell 1; have a2 := hk3.cell 2; have a3 := hk3.cell 3; have a4 := hk3.cell 4; have a5 := hk3.cell 5; have a6 := hk3.cell 6; have a7 := hk3.cell 7; have a8 := hk3.cell 8; simp only [List.getElem?_toArray, List.getElem?_cons_zero, List.getElem?_cons_succ] at a0 a1 a2 a3 a4 a5 a6 a7 a8
  go_wp2_with fail
  refine (new_yes d _ HD.out hmay).mono ?_
  rintro e w5 ⟨g, mb, rfl, hbill, hg, hmb, hb4⟩
  have hg : w.heap.size ≤ g := Nat.le_trans hB3.size hg
  have hmb : w.heap.size ≤ mb := Nat.le_trans hB3.size hmb
  have HBI := Lib.hid hbill
  clear hbill hmay
  have hB4 := hB3.trans (hb4.mono hB3.size)
  have hk4 := hk3.below hb4 hk3.lt
  clear a0 a1 a2 a3 a4 a5 a6 a7 a8
  clear hB3 hk3 hb4
  have a0 := hk4.cell 0; have a1 := hk4.cell 1; have a2 := hk4.cell 2; have a3 := hk4.cell 3; have a4 := hk4.cell 4; have a5 := hk4.cell 5; have a6 := hk4.cell 6; have a7 := hk4.cell 7; have a8 := hk4.cell 8; simp only [List.getElem?_toArray, List.getElem?_cons_zero, List.getElem?_cons_succ] at a0 a1 a2 a3 a4 a5 a6 a7 a8
  have hgl : g < w5.heap.size := HBI.out.blk.lt
  have hml : mb < w5.heap.size := HBI.out.map.lt
  have hwl : w.heap.size ≤ w5.heap.size := hB4.size
  have HB4 := Lib.hid hB4
  obtain ⟨i0, hi, hz0, hz1, hz2⟩ := info_parts infoStr
  clear hB4 hk4
  go_wp2_with fail
  clear a0 a1 a2 a3 a4 a5 a6 a7 a8
  have HST := Lib.hid (own_one w5 d.drw w5.heap.size (Nat.le_refl _))
  have HBS := Lib.hid (HBI.out.below (one_alloc w5 (.cells #[.string d.drw] 9)))
  have HWS := Lib.hid (HB4.out.trans ((one_alloc w5 (.cells #[.string d.drw] 9)).mono HB4.out.size))
  go_loopw [7, 8] (fun o i wr => ∃ (k : Nat) (b : Bl) (m : Nat) (A' : Option Addr) (c' : Nat) (os : List ByteArray), k ≤ n ∧ i = .int .i64 k ∧ o = .slice A' m c' ∧ m ≤ k + 1 ∧ Hid (b.pas.length ≤ k) ∧ Hid (∀ z ∈ os, z ∈ owers b) ∧ Hid (os.length = m) ∧ Hid (wr.ownsRow w5.heap.size 9 1 (.slice A' m c') m (os.flatMap strC)) ∧ Hid (IsBill wr g mb b) ∧ Hid (Below w.heap.size w wr) ∧ Hid (w5.heap.size ≤ wr.heap.size)) (fun _ i _ => n - (intOf i).toNat)
  case atStart => exact ⟨0, newV d, 1, _, _, [d.drw], by omega, rfl, rfl, by omega, Lib.hid (Nat.le_refl 0), Lib.hid (fun z hz => by rw [List.mem_singleton.1 hz]; unfold owers newV; simp), Lib.hid rfl, HST, HBS, HWS, Lib.hid (one_alloc w5 _).size⟩
  case round =>
    obtain ⟨k, b, m, A', c', os, hk, rfl, rfl, hmk, hpl, hos, hom, hown, hbi, hbw, hzw⟩ := hrel
    by_cases hlt : k < n
    · obtain ⟨bx, off, x, rfl, hxk, w0, w1, w2', w3'⟩ := get_de H.out hlt
      have c0 := cell_kept hbw.out w0; have c1 := cell_kept hbw.out w1; have c2 := cell_kept hbw.out w2'; have c3 := cell_kept hbw.out w3'
      have HXO := Lib.hid (HW.out x (List.mem_of_getElem? hxk))
      have hlen : b.pas.length < 1000 := by have := hpl.out; omega
      have HNL := Lib.hid (nextD_len b x)
      have hLN : (liaV (nextD b x)).length ≤ 1000 := by have := lia_len (nextD b x); have := HNL.out; have := hpl.out; omega
      have hdo := do_any g mb b x wr hbi.out HXO.out hlen
      obtain ⟨C, hC⟩ : ∃ C, codeD b x = C := ⟨_, rfl⟩
      clear HST HBS HWS HBI
      go_wp2_with fail
      refine hdo.mono ?_
      rintro e u2 ⟨he, hb2, ht2⟩
      rw [hC] at he
      subst he
      have HW2 := Lib.hid (ht2.bel _ _ hbw.out hg hmb)
      have HO2 := Lib.hid (ht2.own hown.out hgl hml)
      have HZ2 := Lib.hid (Nat.le_trans hzw.out ht2.size)
      have HSA : Hid (w5.heap.size ≤ (u2.alloc (.cells #[.string x.by_] 9)).heap.size) := Lib.hid (by rw [size_alloc]; have := HZ2.out; omega)
      have y0 := cell_kept HW2.out w0; have y1 := cell_kept HW2.out w1
      have HOWL := Lib.hid (fun z hz => owers_next (x := x) (hos.out z hz))
      have HBY := Lib.hid (fun (h : codeD b x = 0) (hc : x.call = 0 ∨ x.call = 1) => owers_call h hc)
      rw [hC] at HBY
      clear hdo hC ht2 c0 c1 c2 c3 w0 w1 w2' w3' hown hbi hzw hos
      obtain ⟨b2, hb2e⟩ : ∃ b2, nextD b x = b2 := ⟨_, rfl⟩
      rw [hb2e] at hb2 HOWL HBY HNL hLN
      clear hb2e
      have HB2 := Lib.hid hb2
      clear hb2
      by_cases hC0 : C = 0
      · subst hC0
        by_cases hx0 : x.call = 0
        · have dx : (x.call == 0) = true := by simpa using hx0
          have hcall : x.call = 0 ∨ x.call = 1 := .inl hx0
          clear hx0
          have HBYO := Lib.hid (HBY.out rfl hcall)
          clear HBY hcall
          go_wp2_with (at_builtin; refine wpList_append_any_s (u2.alloc (.cells #[.string x.by_] 9)) rfl (.tmp 67) (.tmp 73) 26 rfl w5.heap.size 9 i0 _ 1 16 Try.underlying26 hi hz0 hz1 hz2 rfl (by omega) (.slice A' m c') m _ rfl (HO2.out.alloc _) _ (some ⟨u2.heap.size, 0, none⟩) 1 1 [.string x.by_] rfl ((SliceOf.blk (en := strC) (Blk.new_at _ 9 #[.string x.by_] _ rfl) [x.by_] rfl (fun _ => rfl) rfl).reads (fun _ => rfl)) (by simp [Value.oneCell']) (by unfold maxLen; omega) (by omega) HSA.out ?_; intro A8 c8 w8 hown2 hg2 hloc2; have hB8 : Below w5.heap.size u2 w8 := ((Below.refl w5.heap.size u2).alloc HZ2.out _).grown hg2 HSA.out (fun j hj => (HO2.out.lt j hj).1); rw [show os.flatMap strC ++ [Value.string x.by_] = (os ++ [x.by_]).flatMap strC by rw [List.flatMap_append]; rfl] at hown2; have HB8 := Lib.hid (HB2.out.under hB8 hgl hml); have HW8 := Lib.hid (HW2.out.trans (hB8.mono hwl)); have HZ8 := Lib.hid (Nat.le_trans HZ2.out hB8.size); have HO8 := Lib.hid hown2; clear hown2 hg2 hloc2 hB8)
          have HOM : Hid ((os ++ [x.by_]).length = m + 1) := Lib.hid (by rw [List.length_append, hom.out]; rfl)
          have HOWN : Hid (∀ z ∈ os ++ [x.by_], z ∈ owers b2) := Lib.hid (by
            intro z hz
            rcases List.mem_append.1 hz with h | h
            · exact HOWL.out z h
            · rw [List.mem_singleton.1 h]; exact HBYO.out)
          clear HBYO HOWL
          refine (liable_any g mb b2 w8 (HB8).out).mono ?_
          rintro e u3 ⟨v, rfl, A9, c9, rfl, hs9, hb3⟩
          have HS9 := Lib.hid hs9
          have HB3 := Lib.hid ((HB8).out.below hb3)
          have HW3 := Lib.hid ((HW8).out.trans (hb3.mono (HW8).out.size))
          have HO3 := Lib.hid (own_kept_below (HO8).out hb3)
          have HZ3 := Lib.hid (Nat.le_trans (HZ8).out hb3.size)
          have HSO := Lib.hid (SliceOf.of_own_s HO3.out (fun _ => rfl) rfl HOM.out)
          have HLN := Lib.hid hLN
          clear hs9 hb3 hLN
          obtain ⟨m9, hmm⟩ : ∃ m, (liaV b2).length = m := ⟨_, rfl⟩
          rw [hmm] at HS9 HLN ⊢
          have HMM := Lib.hid hmm
          have hmle := HLN.out
          clear hmm
          go_wp2_with fail
          go_loopw [10] (fun j W => ∃ q : Nat, q ≤ (m + 1) ∧ j = .int .i64 q ∧ Hid (Below u3.heap.size u3 W)) (fun j _ => (m + 1) - (intOf j).toNat)
          case atStart => exact ⟨0, by omega, rfl, Lib.hid (Below.refl _ _)⟩
          case round =>
            obtain ⟨q, hq, rfl, hU⟩ := hrel
            by_cases hqm : q < (m + 1)
            · obtain ⟨bo, oo, z, rfl, hz, z0⟩ := get_str HSO.out hqm
              have HZO := Lib.hid (HOWN.out z (List.mem_of_getElem? hz))
              clear hz
              go_wp2_with fail
              go_loopw [11, 12] (fun v j W => ∃ r : Nat, r ≤ m9 ∧ j = .int .i64 r ∧ v = .bool (memS ((liaV b2).take r) z) ∧ Hid (Below u3.heap.size u3 W)) (fun _ j _ => m9 - (intOf j).toNat)
              case atStart => exact ⟨0, by omega, rfl, rfl, hU⟩
              case round =>
                clear hU
                obtain ⟨r, hr, rfl, rfl, hU2⟩ := hrel
                have z1 := cell_kept hU2.out z0
                obtain ⟨I, hI⟩ : ∃ I, memS ((liaV b2).take r) z = I := ⟨_, rfl⟩
                rw [hI]
                by_cases hrm : r < m9
                · obtain ⟨b9, o9, y, rfl, hy, y0⟩ := get_str (HS9.out.below hU2.out) hrm
                  have hI2 := memS_snoc (z := z) hy
                  rw [hI] at hI2
                  clear hy hI
                  cases I
                  · have q1 := eq_str y z
                    by_cases hyz : y = z
                    · have d1 : (y.toList == z.toList) = true := by rw [q1]; exact decide_eq_true hyz
                      have HI2 : Hid (memS ((liaV b2).take (r + 1)) z = true) := Lib.hid (by rw [hI2, decide_eq_true hyz]; rfl)
                      clear q1 hyz hI2
                      go_wp2_with fail
                      go_quiet (fail)
                      go_wp2_with fail
                      go_round
                      case rel => exact ⟨r + 1, by omega, by go_num, by rw [HI2.out], Lib.hid (below_drewN hU2.out _)⟩
                      case measure => simp [intOf]; omega
                    · have d1 : (y.toList == z.toList) = false := by rw [q1]; exact decide_eq_false hyz
                      have HI2 : Hid (memS ((liaV b2).take (r + 1)) z = false) := Lib.hid (by rw [hI2, decide_eq_false hyz]; rfl)
                      clear q1 hyz hI2
                      go_wp2_with fail
                      go_quiet (fail)
                      go_wp2_with fail
                      go_round
                      case rel => exact ⟨r + 1, by omega, by go_num, by rw [HI2.out], Lib.hid (below_drewN hU2.out _)⟩
                      case measure => simp [intOf]; omega
                  · have HI2 : Hid (memS ((liaV b2).take (r + 1)) z = true) := Lib.hid (by rw [hI2]; rfl)
                    clear hI2
                    go_wp2_with fail
                    go_quiet (fail)
                    go_wp2_with fail
                    go_round
                    case rel => exact ⟨r + 1, by omega, by go_num, by rw [HI2.out], Lib.hid (below_drewN hU2.out _)⟩
                    case measure => simp [intOf]; omega
                · have HH := Lib.hid (fun (x : BW wr) => mono_bel (holder_any g mb b2 (wof x) ((HB3.out.below hU2.out).below (wof_below x))))
                  have HT := Lib.hid (fun (x : BW wr) => mono_bel (state_any g mb b2 (wof x) ((HB3.out.below hU2.out).below (wof_below x))))
                  have p0 := wof_cell z1
                  rw [List.take_of_length_le (by have := HMM.out; omega)] at hI
                  obtain ⟨S, hS⟩ : ∃ S, b2.st = S := ⟨_, rfl⟩
                  have HIN := Lib.hid (fun h => owed_in h HZO.out)
                  rw [hS] at HT HIN
                  rw [hI] at HIN
                  clear hI hS
                  by_cases hS2 : S = 2
                  · have dS : (S == 2) = true := by simpa using hS2
                    have dS' : (S != 2) = false := by simpa using hS2
                    clear HIN hS2
                    cases I
                    · go_wp2_with fail
                      refine wp_region_quiet_below (by kernel_rfl) (by kernel_rfl) ?_
                      repeat (go_big_quiet_step (first | (go_at_call 21; with_reducible exact quiet_below (HT.out _)) | (go_at_call 17; with_reducible exact quiet_below (HH.out _))))
                      refine wpQuiet_nil ?_
                      intro wz hbz
                      go_wp2_with fail
                      exact ⟨⟨q + 1, by omega, by go_num, Lib.hid (hU2.out.trans (hbz.mono hU2.out.size))⟩, by simp [intOf]; omega⟩
                    · go_wp2_with fail
                      refine wp_region_quiet_below (by kernel_rfl) (by kernel_rfl) ?_
                      repeat (go_big_quiet_step (first | (go_at_call 21; with_reducible exact quiet_below (HT.out _)) | (go_at_call 17; with_reducible exact quiet_below (HH.out _))))
                      refine wpQuiet_nil ?_
                      intro wz hbz
                      go_wp2_with fail
                      exact ⟨⟨q + 1, by omega, by go_num, Lib.hid (hU2.out.trans (hbz.mono hU2.out.size))⟩, by simp [intOf]; omega⟩
                  · have dS : (S == 2) = false := by simpa using hS2
                    have dS' : (S != 2) = true := by simpa using hS2
                    have hI3 := HIN.out hS2
                    have q1 := eq_str z b2.hol
                    clear HIN hS2
                    by_cases hzh : z = b2.hol
                    · have d1 : (z.toList == b2.hol.toList) = true := by rw [q1]; exact decide_eq_true hzh
                      have d2 : (z.toList != b2.hol.toList) = false := by rw [bne, q1, decide_eq_true hzh]; rfl
                      rw [decide_eq_true hzh] at hI3
                      subst hI3
                      clear q1 hzh
                      go_wp2_with fail
                      refine wp_region_quiet_below (by kernel_rfl) (by kernel_rfl) ?_
                      repeat (go_big_quiet_step (first | (go_at_call 21; with_reducible exact quiet_below (HT.out _)) | (go_at_call 17; with_reducible exact quiet_below (HH.out _))))
                      refine wpQuiet_nil ?_
                      intro wz hbz
                      go_wp2_with fail
                      exact ⟨⟨q + 1, by omega, by go_num, Lib.hid (hU2.out.trans (hbz.mono hU2.out.size))⟩, by simp [intOf]; omega⟩
                    · have d1 : (z.toList == b2.hol.toList) = false := by rw [q1]; exact decide_eq_false hzh
                      have d2 : (z.toList != b2.hol.toList) = true := by rw [bne, q1, decide_eq_false hzh]; rfl
                      rw [decide_eq_false hzh] at hI3
                      subst hI3
                      clear q1 hzh
                      go_wp2_with fail
                      refine wp_region_quiet_below (by kernel_rfl) (by kernel_rfl) ?_
                      repeat (go_big_quiet_step (first | (go_at_call 21; with_reducible exact quiet_below (HT.out _)) | (go_at_call 17; with_reducible exact quiet_below (HH.out _))))
                      refine wpQuiet_nil ?_
                      intro wz hbz
                      go_wp2_with fail
                      exact ⟨⟨q + 1, by omega, by go_num, Lib.hid (hU2.out.trans (hbz.mono hU2.out.size))⟩, by simp [intOf]; omega⟩
            · go_wp2_with fail
              exact ⟨⟨k + 1, b2, _, _, _, (os ++ [x.by_]), by omega, by go_num, rfl, by omega, Lib.hid (by have := HNL.out; have := hpl.out; omega), HOWN, HOM, Lib.hid (own_kept_below HO3.out hU.out), Lib.hid (HB3.out.below hU.out), Lib.hid (HW3.out.trans (hU.out.mono HW3.out.size)), Lib.hid (Nat.le_trans HZ3.out hU.out.size)⟩, by simp [intOf]; omega⟩
        · by_cases hx1 : x.call = 1
          · have dx : (x.call == 0) = false := by simpa using hx0
            have dx1 : (x.call == 1) = true := by simpa using hx1
            have hcall : x.call = 0 ∨ x.call = 1 := .inr hx1
            clear hx0 hx1
            have HBYO := Lib.hid (HBY.out rfl hcall)
            clear HBY hcall
            go_wp2_with (at_builtin; refine wpList_append_any_s (u2.alloc (.cells #[.string x.by_] 9)) rfl (.tmp 67) (.tmp 73) 26 rfl w5.heap.size 9 i0 _ 1 16 Try.underlying26 hi hz0 hz1 hz2 rfl (by omega) (.slice A' m c') m _ rfl (HO2.out.alloc _) _ (some ⟨u2.heap.size, 0, none⟩) 1 1 [.string x.by_] rfl ((SliceOf.blk (en := strC) (Blk.new_at _ 9 #[.string x.by_] _ rfl) [x.by_] rfl (fun _ => rfl) rfl).reads (fun _ => rfl)) (by simp [Value.oneCell']) (by unfold maxLen; omega) (by omega) HSA.out ?_; intro A8 c8 w8 hown2 hg2 hloc2; have hB8 : Below w5.heap.size u2 w8 := ((Below.refl w5.heap.size u2).alloc HZ2.out _).grown hg2 HSA.out (fun j hj => (HO2.out.lt j hj).1); rw [show os.flatMap strC ++ [Value.string x.by_] = (os ++ [x.by_]).flatMap strC by rw [List.flatMap_append]; rfl] at hown2; have HB8 := Lib.hid (HB2.out.under hB8 hgl hml); have HW8 := Lib.hid (HW2.out.trans (hB8.mono hwl)); have HZ8 := Lib.hid (Nat.le_trans HZ2.out hB8.size); have HO8 := Lib.hid hown2; clear hown2 hg2 hloc2 hB8)
            have HOM : Hid ((os ++ [x.by_]).length = m + 1) := Lib.hid (by rw [List.length_append, hom.out]; rfl)
            have HOWN : Hid (∀ z ∈ os ++ [x.by_], z ∈ owers b2) := Lib.hid (by
              intro z hz
              rcases List.mem_append.1 hz with h | h
              · exact HOWL.out z h
              · rw [List.mem_singleton.1 h]; exact HBYO.out)
            clear HBYO HOWL
            refine (liable_any g mb b2 w8 (HB8).out).mono ?_
            rintro e u3 ⟨v, rfl, A9, c9, rfl, hs9, hb3⟩
            have HS9 := Lib.hid hs9
            have HB3 := Lib.hid ((HB8).out.below hb3)
            have HW3 := Lib.hid ((HW8).out.trans (hb3.mono (HW8).out.size))
            have HO3 := Lib.hid (own_kept_below (HO8).out hb3)
            have HZ3 := Lib.hid (Nat.le_trans (HZ8).out hb3.size)
            have HSO := Lib.hid (SliceOf.of_own_s HO3.out (fun _ => rfl) rfl HOM.out)
            have HLN := Lib.hid hLN
            clear hs9 hb3 hLN
            obtain ⟨m9, hmm⟩ : ∃ m, (liaV b2).length = m := ⟨_, rfl⟩
            rw [hmm] at HS9 HLN ⊢
            have HMM := Lib.hid hmm
            have hmle := HLN.out
            clear hmm
            go_wp2_with fail
            go_loopw [10] (fun j W => ∃ q : Nat, q ≤ (m + 1) ∧ j = .int .i64 q ∧ Hid (Below u3.heap.size u3 W)) (fun j _ => (m + 1) - (intOf j).toNat)
            case atStart => exact ⟨0, by omega, rfl, Lib.hid (Below.refl _ _)⟩
            case round =>
              obtain ⟨q, hq, rfl, hU⟩ := hrel
              by_cases hqm : q < (m + 1)
              · obtain ⟨bo, oo, z, rfl, hz, z0⟩ := get_str HSO.out hqm
                have HZO := Lib.hid (HOWN.out z (List.mem_of_getElem? hz))
                clear hz
                go_wp2_with fail
                go_loopw [11, 12] (fun v j W => ∃ r : Nat, r ≤ m9 ∧ j = .int .i64 r ∧ v = .bool (memS ((liaV b2).take r) z) ∧ Hid (Below u3.heap.size u3 W)) (fun _ j _ => m9 - (intOf j).toNat)
                case atStart => exact ⟨0, by omega, rfl, rfl, hU⟩
                case round =>
                  clear hU
                  obtain ⟨r, hr, rfl, rfl, hU2⟩ := hrel
                  have z1 := cell_kept hU2.out z0
                  obtain ⟨I, hI⟩ : ∃ I, memS ((liaV b2).take r) z = I := ⟨_, rfl⟩
                  rw [hI]
                  by_cases hrm : r < m9
                  · obtain ⟨b9, o9, y, rfl, hy, y0⟩ := get_str (HS9.out.below hU2.out) hrm
                    have hI2 := memS_snoc (z := z) hy
                    rw [hI] at hI2
                    clear hy hI
                    cases I
                    · have q1 := eq_str y z
                      by_cases hyz : y = z
                      · have d1 : (y.toList == z.toList) = true := by rw [q1]; exact decide_eq_true hyz
                        have HI2 : Hid (memS ((liaV b2).take (r + 1)) z = true) := Lib.hid (by rw [hI2, decide_eq_true hyz]; rfl)
                        clear q1 hyz hI2
                        go_wp2_with fail
                        go_quiet (fail)
                        go_wp2_with fail
                        go_round
                        case rel => exact ⟨r + 1, by omega, by go_num, by rw [HI2.out], Lib.hid (below_drewN hU2.out _)⟩
                        case measure => simp [intOf]; omega
                      · have d1 : (y.toList == z.toList) = false := by rw [q1]; exact decide_eq_false hyz
                        have HI2 : Hid (memS ((liaV b2).take (r + 1)) z = false) := Lib.hid (by rw [hI2, decide_eq_false hyz]; rfl)
                        clear q1 hyz hI2
                        go_wp2_with fail
                        go_quiet (fail)
                        go_wp2_with fail
                        go_round
                        case rel => exact ⟨r + 1, by omega, by go_num, by rw [HI2.out], Lib.hid (below_drewN hU2.out _)⟩
                        case measure => simp [intOf]; omega
                    · have HI2 : Hid (memS ((liaV b2).take (r + 1)) z = true) := Lib.hid (by rw [hI2]; rfl)
                      clear hI2
                      go_wp2_with fail
                      go_quiet (fail)
                      go_wp2_with fail
                      go_round
                      case rel => exact ⟨r + 1, by omega, by go_num, by rw [HI2.out], Lib.hid (below_drewN hU2.out _)⟩
                      case measure => simp [intOf]; omega
                  · have HH := Lib.hid (fun (x : BW wr) => mono_bel (holder_any g mb b2 (wof x) ((HB3.out.below hU2.out).below (wof_below x))))
                    have HT := Lib.hid (fun (x : BW wr) => mono_bel (state_any g mb b2 (wof x) ((HB3.out.below hU2.out).below (wof_below x))))
                    have p0 := wof_cell z1
                    rw [List.take_of_length_le (by have := HMM.out; omega)] at hI
                    obtain ⟨S, hS⟩ : ∃ S, b2.st = S := ⟨_, rfl⟩
                    have HIN := Lib.hid (fun h => owed_in h HZO.out)
                    rw [hS] at HT HIN
                    rw [hI] at HIN
                    clear hI hS
                    by_cases hS2 : S = 2
                    · have dS : (S == 2) = true := by simpa using hS2
                      have dS' : (S != 2) = false := by simpa using hS2
                      clear HIN hS2
                      cases I
                      · go_wp2_with fail
                        refine wp_region_quiet_below (by kernel_rfl) (by kernel_rfl) ?_
                        repeat (go_big_quiet_step (first | (go_at_call 21; with_reducible exact quiet_below (HT.out _)) | (go_at_call 17; with_reducible exact quiet_below (HH.out _))))
                        refine wpQuiet_nil ?_
                        intro wz hbz
                        go_wp2_with fail
                        exact ⟨⟨q + 1, by omega, by go_num, Lib.hid (hU2.out.trans (hbz.mono hU2.out.size))⟩, by simp [intOf]; omega⟩
                      · go_wp2_with fail
                        refine wp_region_quiet_below (by kernel_rfl) (by kernel_rfl) ?_
                        repeat (go_big_quiet_step (first | (go_at_call 21; with_reducible exact quiet_below (HT.out _)) | (go_at_call 17; with_reducible exact quiet_below (HH.out _))))
                        refine wpQuiet_nil ?_
                        intro wz hbz
                        go_wp2_with fail
                        exact ⟨⟨q + 1, by omega, by go_num, Lib.hid (hU2.out.trans (hbz.mono hU2.out.size))⟩, by simp [intOf]; omega⟩
                    · have dS : (S == 2) = false := by simpa using hS2
                      have dS' : (S != 2) = true := by simpa using hS2
                      have hI3 := HIN.out hS2
                      have q1 := eq_str z b2.hol
                      clear HIN hS2
                      by_cases hzh : z = b2.hol
                      · have d1 : (z.toList == b2.hol.toList) = true := by rw [q1]; exact decide_eq_true hzh
                        have d2 : (z.toList != b2.hol.toList) = false := by rw [bne, q1, decide_eq_true hzh]; rfl
                        rw [decide_eq_true hzh] at hI3
                        subst hI3
                        clear q1 hzh
                        go_wp2_with fail
                        refine wp_region_quiet_below (by kernel_rfl) (by kernel_rfl) ?_
                        repeat (go_big_quiet_step (first | (go_at_call 21; with_reducible exact quiet_below (HT.out _)) | (go_at_call 17; with_reducible exact quiet_below (HH.out _))))
                        refine wpQuiet_nil ?_
                        intro wz hbz
                        go_wp2_with fail
                        exact ⟨⟨q + 1, by omega, by go_num, Lib.hid (hU2.out.trans (hbz.mono hU2.out.size))⟩, by simp [intOf]; omega⟩
                      · have d1 : (z.toList == b2.hol.toList) = false := by rw [q1]; exact decide_eq_false hzh
                        have d2 : (z.toList != b2.hol.toList) = true := by rw [bne, q1, decide_eq_false hzh]; rfl
                        rw [decide_eq_false hzh] at hI3
                        subst hI3
                        clear q1 hzh
                        go_wp2_with fail
                        refine wp_region_quiet_below (by kernel_rfl) (by kernel_rfl) ?_
                        repeat (go_big_quiet_step (first | (go_at_call 21; with_reducible exact quiet_below (HT.out _)) | (go_at_call 17; with_reducible exact quiet_below (HH.out _))))
                        refine wpQuiet_nil ?_
                        intro wz hbz
                        go_wp2_with fail
                        exact ⟨⟨q + 1, by omega, by go_num, Lib.hid (hU2.out.trans (hbz.mono hU2.out.size))⟩, by simp [intOf]; omega⟩
              · go_wp2_with fail
                exact ⟨⟨k + 1, b2, _, _, _, (os ++ [x.by_]), by omega, by go_num, rfl, by omega, Lib.hid (by have := HNL.out; have := hpl.out; omega), HOWN, HOM, Lib.hid (own_kept_below HO3.out hU.out), Lib.hid (HB3.out.below hU.out), Lib.hid (HW3.out.trans (hU.out.mono HW3.out.size)), Lib.hid (Nat.le_trans HZ3.out hU.out.size)⟩, by simp [intOf]; omega⟩
          · have dx : (x.call == 0) = false := by simpa using hx0
            have dx1 : (x.call == 1) = false := by simpa using hx1
            clear hx0 hx1
            have HOM := hom
            have HOWN := HOWL
            clear HBY HOWL
            go_wp2_with fail
            refine (liable_any g mb b2 u2 (HB2).out).mono ?_
            rintro e u3 ⟨v, rfl, A9, c9, rfl, hs9, hb3⟩
            have HS9 := Lib.hid hs9
            have HB3 := Lib.hid ((HB2).out.below hb3)
            have HW3 := Lib.hid ((HW2).out.trans (hb3.mono (HW2).out.size))
            have HO3 := Lib.hid (own_kept_below (HO2).out hb3)
            have HZ3 := Lib.hid (Nat.le_trans (HZ2).out hb3.size)
            have HSO := Lib.hid (SliceOf.of_own_s HO3.out (fun _ => rfl) rfl HOM.out)
            have HLN := Lib.hid hLN
            clear hs9 hb3 hLN
            obtain ⟨m9, hmm⟩ : ∃ m, (liaV b2).length = m := ⟨_, rfl⟩
            rw [hmm] at HS9 HLN ⊢
            have HMM := Lib.hid hmm
            have hmle := HLN.out
            clear hmm
            go_wp2_with fail
            go_loopw [10] (fun j W => ∃ q : Nat, q ≤ m ∧ j = .int .i64 q ∧ Hid (Below u3.heap.size u3 W)) (fun j _ => m - (intOf j).toNat)
            case atStart => exact ⟨0, by omega, rfl, Lib.hid (Below.refl _ _)⟩
            case round =>
              obtain ⟨q, hq, rfl, hU⟩ := hrel
              by_cases hqm : q < m
              · obtain ⟨bo, oo, z, rfl, hz, z0⟩ := get_str HSO.out hqm
                have HZO := Lib.hid (HOWN.out z (List.mem_of_getElem? hz))
                clear hz
                go_wp2_with fail
                go_loopw [11, 12] (fun v j W => ∃ r : Nat, r ≤ m9 ∧ j = .int .i64 r ∧ v = .bool (memS ((liaV b2).take r) z) ∧ Hid (Below u3.heap.size u3 W)) (fun _ j _ => m9 - (intOf j).toNat)
                case atStart => exact ⟨0, by omega, rfl, rfl, hU⟩
                case round =>
                  clear hU
                  obtain ⟨r, hr, rfl, rfl, hU2⟩ := hrel
                  have z1 := cell_kept hU2.out z0
                  obtain ⟨I, hI⟩ : ∃ I, memS ((liaV b2).take r) z = I := ⟨_, rfl⟩
                  rw [hI]
                  by_cases hrm : r < m9
                  · obtain ⟨b9, o9, y, rfl, hy, y0⟩ := get_str (HS9.out.below hU2.out) hrm
                    have hI2 := memS_snoc (z := z) hy
                    rw [hI] at hI2
                    clear hy hI
                    cases I
                    · have q1 := eq_str y z
                      by_cases hyz : y = z
                      · have d1 : (y.toList == z.toList) = true := by rw [q1]; exact decide_eq_true hyz
                        have HI2 : Hid (memS ((liaV b2).take (r + 1)) z = true) := Lib.hid (by rw [hI2, decide_eq_true hyz]; rfl)
                        clear q1 hyz hI2
                        go_wp2_with fail
                        go_quiet (fail)
                        go_wp2_with fail
                        go_round
                        case rel => exact ⟨r + 1, by omega, by go_num, by rw [HI2.out], Lib.hid (below_drewN hU2.out _)⟩
                        case measure => simp [intOf]; omega
                      · have d1 : (y.toList == z.toList) = false := by rw [q1]; exact decide_eq_false hyz
                        have HI2 : Hid (memS ((liaV b2).take (r + 1)) z = false) := Lib.hid (by rw [hI2, decide_eq_false hyz]; rfl)
                        clear q1 hyz hI2
                        go_wp2_with fail
                        go_quiet (fail)
                        go_wp2_with fail
                        go_round
                        case rel => exact ⟨r + 1, by omega, by go_num, by rw [HI2.out], Lib.hid (below_drewN hU2.out _)⟩
                        case measure => simp [intOf]; omega
                    · have HI2 : Hid (memS ((liaV b2).take (r + 1)) z = true) := Lib.hid (by rw [hI2]; rfl)
                      clear hI2
                      go_wp2_with fail
                      go_quiet (fail)
                      go_wp2_with fail
                      go_round
                      case rel => exact ⟨r + 1, by omega, by go_num, by rw [HI2.out], Lib.hid (below_drewN hU2.out _)⟩
                      case measure => simp [intOf]; omega
                  · have HH := Lib.hid (fun (x : BW wr) => mono_bel (holder_any g mb b2 (wof x) ((HB3.out.below hU2.out).below (wof_below x))))
                    have HT := Lib.hid (fun (x : BW wr) => mono_bel (state_any g mb b2 (wof x) ((HB3.out.below hU2.out).below (wof_below x))))
                    have p0 := wof_cell z1
                    rw [List.take_of_length_le (by have := HMM.out; omega)] at hI
                    obtain ⟨S, hS⟩ : ∃ S, b2.st = S := ⟨_, rfl⟩
                    have HIN := Lib.hid (fun h => owed_in h HZO.out)
                    rw [hS] at HT HIN
                    rw [hI] at HIN
                    clear hI hS
                    by_cases hS2 : S = 2
                    · have dS : (S == 2) = true := by simpa using hS2
                      have dS' : (S != 2) = false := by simpa using hS2
                      clear HIN hS2
                      cases I
                      · go_wp2_with fail
                        refine wp_region_quiet_below (by kernel_rfl) (by kernel_rfl) ?_
                        repeat (go_big_quiet_step (first | (go_at_call 21; with_reducible exact quiet_below (HT.out _)) | (go_at_call 17; with_reducible exact quiet_below (HH.out _))))
                        refine wpQuiet_nil ?_
                        intro wz hbz
                        go_wp2_with fail
                        exact ⟨⟨q + 1, by omega, by go_num, Lib.hid (hU2.out.trans (hbz.mono hU2.out.size))⟩, by simp [intOf]; omega⟩
                      · go_wp2_with fail
                        refine wp_region_quiet_below (by kernel_rfl) (by kernel_rfl) ?_
                        repeat (go_big_quiet_step (first | (go_at_call 21; with_reducible exact quiet_below (HT.out _)) | (go_at_call 17; with_reducible exact quiet_below (HH.out _))))
                        refine wpQuiet_nil ?_
                        intro wz hbz
                        go_wp2_with fail
                        exact ⟨⟨q + 1, by omega, by go_num, Lib.hid (hU2.out.trans (hbz.mono hU2.out.size))⟩, by simp [intOf]; omega⟩
                    · have dS : (S == 2) = false := by simpa using hS2
                      have dS' : (S != 2) = true := by simpa using hS2
                      have hI3 := HIN.out hS2
                      have q1 := eq_str z b2.hol
                      clear HIN hS2
                      by_cases hzh : z = b2.hol
                      · have d1 : (z.toList == b2.hol.toList) = true := by rw [q1]; exact decide_eq_true hzh
                        have d2 : (z.toList != b2.hol.toList) = false := by rw [bne, q1, decide_eq_true hzh]; rfl
                        rw [decide_eq_true hzh] at hI3
                        subst hI3
                        clear q1 hzh
                        go_wp2_with fail
                        refine wp_region_quiet_below (by kernel_rfl) (by kernel_rfl) ?_
                        repeat (go_big_quiet_step (first | (go_at_call 21; with_reducible exact quiet_below (HT.out _)) | (go_at_call 17; with_reducible exact quiet_below (HH.out _))))
                        refine wpQuiet_nil ?_
                        intro wz hbz
                        go_wp2_with fail
                        exact ⟨⟨q + 1, by omega, by go_num, Lib.hid (hU2.out.trans (hbz.mono hU2.out.size))⟩, by simp [intOf]; omega⟩
                      · have d1 : (z.toList == b2.hol.toList) = false := by rw [q1]; exact decide_eq_false hzh
                        have d2 : (z.toList != b2.hol.toList) = true := by rw [bne, q1, decide_eq_false hzh]; rfl
                        rw [decide_eq_false hzh] at hI3
                        subst hI3
                        clear q1 hzh
                        go_wp2_with fail
                        refine wp_region_quiet_below (by kernel_rfl) (by kernel_rfl) ?_
                        repeat (go_big_quiet_step (first | (go_at_call 21; with_reducible exact quiet_below (HT.out _)) | (go_at_call 17; with_reducible exact quiet_below (HH.out _))))
                        refine wpQuiet_nil ?_
                        intro wz hbz
                        go_wp2_with fail
                        exact ⟨⟨q + 1, by omega, by go_num, Lib.hid (hU2.out.trans (hbz.mono hU2.out.size))⟩, by simp [intOf]; omega⟩
              · go_wp2_with fail
                exact ⟨⟨k + 1, b2, _, _, _, os, by omega, by go_num, rfl, by omega, Lib.hid (by have := HNL.out; have := hpl.out; omega), HOWN, HOM, Lib.hid (own_kept_below HO3.out hU.out), Lib.hid (HB3.out.below hU.out), Lib.hid (HW3.out.trans (hU.out.mono HW3.out.size)), Lib.hid (Nat.le_trans HZ3.out hU.out.size)⟩, by simp [intOf]; omega⟩
      · have dC : (C == 0) = false := by simpa using hC0
        clear hC0
        have HOM := hom
        have HOWN := HOWL
        clear HBY HOWL
        go_wp2_with fail
        refine (liable_any g mb b2 u2 (HB2).out).mono ?_
        rintro e u3 ⟨v, rfl, A9, c9, rfl, hs9, hb3⟩
        have HS9 := Lib.hid hs9
        have HB3 := Lib.hid ((HB2).out.below hb3)
        have HW3 := Lib.hid ((HW2).out.trans (hb3.mono (HW2).out.size))
        have HO3 := Lib.hid (own_kept_below (HO2).out hb3)
        have HZ3 := Lib.hid (Nat.le_trans (HZ2).out hb3.size)
        have HSO := Lib.hid (SliceOf.of_own_s HO3.out (fun _ => rfl) rfl HOM.out)
        have HLN := Lib.hid hLN
        clear hs9 hb3 hLN
        obtain ⟨m9, hmm⟩ : ∃ m, (liaV b2).length = m := ⟨_, rfl⟩
        rw [hmm] at HS9 HLN ⊢
        have HMM := Lib.hid hmm
        have hmle := HLN.out
        clear hmm
        go_wp2_with fail
        go_loopw [10] (fun j W => ∃ q : Nat, q ≤ m ∧ j = .int .i64 q ∧ Hid (Below u3.heap.size u3 W)) (fun j _ => m - (intOf j).toNat)
        case atStart => exact ⟨0, by omega, rfl, Lib.hid (Below.refl _ _)⟩
        case round =>
          obtain ⟨q, hq, rfl, hU⟩ := hrel
          by_cases hqm : q < m
          · obtain ⟨bo, oo, z, rfl, hz, z0⟩ := get_str HSO.out hqm
            have HZO := Lib.hid (HOWN.out z (List.mem_of_getElem? hz))
            clear hz
            go_wp2_with fail
            go_loopw [11, 12] (fun v j W => ∃ r : Nat, r ≤ m9 ∧ j = .int .i64 r ∧ v = .bool (memS ((liaV b2).take r) z) ∧ Hid (Below u3.heap.size u3 W)) (fun _ j _ => m9 - (intOf j).toNat)
            case atStart => exact ⟨0, by omega, rfl, rfl, hU⟩
            case round =>
              clear hU
              obtain ⟨r, hr, rfl, rfl, hU2⟩ := hrel
              have z1 := cell_kept hU2.out z0
              obtain ⟨I, hI⟩ : ∃ I, memS ((liaV b2).take r) z = I := ⟨_, rfl⟩
              rw [hI]
              by_cases hrm : r < m9
              · obtain ⟨b9, o9, y, rfl, hy, y0⟩ := get_str (HS9.out.below hU2.out) hrm
                have hI2 := memS_snoc (z := z) hy
                rw [hI] at hI2
                clear hy hI
                cases I
                · have q1 := eq_str y z
                  by_cases hyz : y = z
                  · have d1 : (y.toList == z.toList) = true := by rw [q1]; exact decide_eq_true hyz
                    have HI2 : Hid (memS ((liaV b2).take (r + 1)) z = true) := Lib.hid (by rw [hI2, decide_eq_true hyz]; rfl)
                    clear q1 hyz hI2
                    go_wp2_with fail
                    go_quiet (fail)
                    go_wp2_with fail
                    go_round
                    case rel => exact ⟨r + 1, by omega, by go_num, by rw [HI2.out], Lib.hid (below_drewN hU2.out _)⟩
                    case measure => simp [intOf]; omega
                  · have d1 : (y.toList == z.toList) = false := by rw [q1]; exact decide_eq_false hyz
                    have HI2 : Hid (memS ((liaV b2).take (r + 1)) z = false) := Lib.hid (by rw [hI2, decide_eq_false hyz]; rfl)
                    clear q1 hyz hI2
                    go_wp2_with fail
                    go_quiet (fail)
                    go_wp2_with fail
                    go_round
                    case rel => exact ⟨r + 1, by omega, by go_num, by rw [HI2.out], Lib.hid (below_drewN hU2.out _)⟩
                    case measure => simp [intOf]; omega
                · have HI2 : Hid (memS ((liaV b2).take (r + 1)) z = true) := Lib.hid (by rw [hI2]; rfl)
                  clear hI2
                  go_wp2_with fail
                  go_quiet (fail)
                  go_wp2_with fail
                  go_round
                  case rel => exact ⟨r + 1, by omega, by go_num, by rw [HI2.out], Lib.hid (below_drewN hU2.out _)⟩
                  case measure => simp [intOf]; omega
              · have HH := Lib.hid (fun (x : BW wr) => mono_bel (holder_any g mb b2 (wof x) ((HB3.out.below hU2.out).below (wof_below x))))
                have HT := Lib.hid (fun (x : BW wr) => mono_bel (state_any g mb b2 (wof x) ((HB3.out.below hU2.out).below (wof_below x))))
                have p0 := wof_cell z1
                rw [List.take_of_length_le (by have := HMM.out; omega)] at hI
                obtain ⟨S, hS⟩ : ∃ S, b2.st = S := ⟨_, rfl⟩
                have HIN := Lib.hid (fun h => owed_in h HZO.out)
                rw [hS] at HT HIN
                rw [hI] at HIN
                clear hI hS
                by_cases hS2 : S = 2
                · have dS : (S == 2) = true := by simpa using hS2
                  have dS' : (S != 2) = false := by simpa using hS2
                  clear HIN hS2
                  cases I
                  · go_wp2_with fail
                    refine wp_region_quiet_below (by kernel_rfl) (by kernel_rfl) ?_
                    repeat (go_big_quiet_step (first | (go_at_call 21; with_reducible exact quiet_below (HT.out _)) | (go_at_call 17; with_reducible exact quiet_below (HH.out _))))
                    refine wpQuiet_nil ?_
                    intro wz hbz
                    go_wp2_with fail
                    exact ⟨⟨q + 1, by omega, by go_num, Lib.hid (hU2.out.trans (hbz.mono hU2.out.size))⟩, by simp [intOf]; omega⟩
                  · go_wp2_with fail
                    refine wp_region_quiet_below (by kernel_rfl) (by kernel_rfl) ?_
                    repeat (go_big_quiet_step (first | (go_at_call 21; with_reducible exact quiet_below (HT.out _)) | (go_at_call 17; with_reducible exact quiet_below (HH.out _))))
                    refine wpQuiet_nil ?_
                    intro wz hbz
                    go_wp2_with fail
                    exact ⟨⟨q + 1, by omega, by go_num, Lib.hid (hU2.out.trans (hbz.mono hU2.out.size))⟩, by simp [intOf]; omega⟩
                · have dS : (S == 2) = false := by simpa using hS2
                  have dS' : (S != 2) = true := by simpa using hS2
                  have hI3 := HIN.out hS2
                  have q1 := eq_str z b2.hol
                  clear HIN hS2
                  by_cases hzh : z = b2.hol
                  · have d1 : (z.toList == b2.hol.toList) = true := by rw [q1]; exact decide_eq_true hzh
                    have d2 : (z.toList != b2.hol.toList) = false := by rw [bne, q1, decide_eq_true hzh]; rfl
                    rw [decide_eq_true hzh] at hI3
                    subst hI3
                    clear q1 hzh
                    go_wp2_with fail
                    refine wp_region_quiet_below (by kernel_rfl) (by kernel_rfl) ?_
                    repeat (go_big_quiet_step (first | (go_at_call 21; with_reducible exact quiet_below (HT.out _)) | (go_at_call 17; with_reducible exact quiet_below (HH.out _))))
                    refine wpQuiet_nil ?_
                    intro wz hbz
                    go_wp2_with fail
                    exact ⟨⟨q + 1, by omega, by go_num, Lib.hid (hU2.out.trans (hbz.mono hU2.out.size))⟩, by simp [intOf]; omega⟩
                  · have d1 : (z.toList == b2.hol.toList) = false := by rw [q1]; exact decide_eq_false hzh
                    have d2 : (z.toList != b2.hol.toList) = true := by rw [bne, q1, decide_eq_false hzh]; rfl
                    rw [decide_eq_false hzh] at hI3
                    subst hI3
                    clear q1 hzh
                    go_wp2_with fail
                    refine wp_region_quiet_below (by kernel_rfl) (by kernel_rfl) ?_
                    repeat (go_big_quiet_step (first | (go_at_call 21; with_reducible exact quiet_below (HT.out _)) | (go_at_call 17; with_reducible exact quiet_below (HH.out _))))
                    refine wpQuiet_nil ?_
                    intro wz hbz
                    go_wp2_with fail
                    exact ⟨⟨q + 1, by omega, by go_num, Lib.hid (hU2.out.trans (hbz.mono hU2.out.size))⟩, by simp [intOf]; omega⟩
          · go_wp2_with fail
            exact ⟨⟨k + 1, b2, _, _, _, os, by omega, by go_num, rfl, by omega, Lib.hid (by have := HNL.out; have := hpl.out; omega), HOWN, HOM, Lib.hid (own_kept_below HO3.out hU.out), Lib.hid (HB3.out.below hU.out), Lib.hid (HW3.out.trans (hU.out.mono HW3.out.size)), Lib.hid (Nat.le_trans HZ3.out hU.out.size)⟩, by simp [intOf]; omega⟩
    · go_wp2_with fail
      go_ret
      exact ⟨rfl, hbw.out⟩
end Go.Proofs.Yteannbphaodadaa
