/- DraftWay: the law. No condition. -/
import Derived.Test.YteannbphaodadaaLawLiable
import Derived.Test.YteannbphaodadaaDgP
namespace Go.Proofs.Yteannbphaodadaa.kit
open Go.RowKit Go.PlainAid Go.Maps
set_option linter.unusedVariables false

theorem Turn.slice {α : Type} {C : Nat} {en : α → List Value} {g mb : Nat} {w w' : World} (h : Turn g mb w w') {A : Option Addr} {n : Nat} {xs : List α} (hs : SliceOf w C en A n xs) (hf : Farr g mb A) : SliceOf w' C en A n xs := by
  refine ⟨hs.len, ?_⟩
  rcases hs.cells with h0 | ⟨x, off, rfl, hb, hc⟩
  · exact .inl h0
  · obtain ⟨f1, f2⟩ := hf x off rfl
    refine .inr ⟨x, off, rfl, Nat.lt_of_lt_of_le hb h.size, fun k y hy j u hu => ?_⟩
    have := hc k y hy j u hu
    unfold World.cell? at this ⊢
    rw [h.keep x hb f1 f2]
    exact this
theorem Farr.put {g mb : Nat} {A A' : Option Addr} {w : World} (h : Farr g mb A) (hp : PutAt A A' w) (hg : g < w.heap.size) (hm : mb < w.heap.size) : Farr g mb A' := fun x off e => by
  rcases hp x off e with h1 | h1
  · exact h x off h1
  · exact ⟨by omega, by omega⟩
/-- On the way. -/
structure OnWay (d : Dr) (b : Bl) (want : List ByteArray) (day : Int) : Prop where
  dd : b.d = d
  last : b.last ≤ day
  st : b.st = if d.kind = 0 then 0 else 1
  hol : nmB b.hol = true
  up : risS want
  mem : ∀ z, z ∈ want ↔ z ∈ owers b
theorem may_parts {d : Dr} (h : mayD d = true) : nmB d.dre = true ∧ nmB d.pay = true ∧ 0 ≤ d.fr ∧ d.fr ≤ 1048576 := by
  unfold mayD at h
  simp only [Bool.and_eq_true] at h
  obtain ⟨_, _, h3, h4, _, _, _, _, h9, _⟩ := h
  unfold isDay at h9
  have := of_decide_eq_true h9
  exact ⟨h3, h4, this.1, this.2⟩
theorem way_new {d : Dr} {day : Int} (h : mayD d = true) (hk : d.kind = 0) (hf : d.fr ≤ day) : OnWay d (newV d) [d.drw] day :=
  ⟨rfl, hf, by rw [if_pos hk]; rfl, (may_parts h).2.1, List.pairwise_singleton _ _, fun z => by unfold owers newV; simp⟩
theorem step_ok {b : Bl} {s : ByteArray} {on : Int} (hs : nmB s = true) (ho : isDay on = true) (hl : b.last ≤ on) : stepV b s on true true = 0 := by
  unfold stepV
  rw [hs, ho, if_neg (by simp), if_neg (by omega), if_neg (by simp), if_neg (by simp)]
theorem way_acc_code {d : Dr} {day : Int} (h : mayD d = true) (hk : d.kind ≠ 0) (hf : d.fr ≤ day) (hd : isDay day = true) (t : ByteArray) : codeV (newV d) 0 d.dre t day = 0 := by
  unfold codeV
  rw [if_neg (by omega)]
  have hc : canV (newV d) 0 = true := by unfold canV newV; simp [hk]
  have hw : whoV (newV d) 0 d.dre = true := by unfold whoV newV; simp
  rw [hc, hw]
  exact step_ok (may_parts h).1 hd hf
theorem way_acc {d : Dr} {day : Int} (h : mayD d = true) (hk : d.kind ≠ 0) (hf : d.fr ≤ day) (hd : isDay day = true) (t : ByteArray) : OnWay d (nextV (newV d) 0 d.dre t day) (putS [d.drw] d.dre) day := by
  have hc := way_acc_code h hk hf hd t
  unfold nextV
  rw [if_pos hc]
  refine ⟨rfl, Int.le_refl _, by rw [if_neg hk]; rfl, (may_parts h).2.1, put_up _ _ (List.pairwise_singleton _ _), fun z => ?_⟩
  rw [put_mem]
  unfold owers doneV newV
  simp
  exact or_comm
theorem way_pass_code {d : Dr} {b : Bl} {want : List ByteArray} {day : Int} {t : ByteArray} (h : OnWay d b want day) (hd : isDay day = true) (ht : nmB t = true) (hne : t ≠ b.hol) : codeV b 1 b.hol t day = 0 := by
  rw [code_pass b b.hol t day ht hne]
  have hc : canV b 1 = true := by
    unfold canV
    rw [if_neg (by omega), if_pos (by omega), h.st]
    split <;> simp
  have hw : whoV b 1 b.hol = true := by unfold whoV; simp
  rw [hc, hw]
  exact step_ok h.hol hd h.last
theorem way_pass {d : Dr} {b : Bl} {want : List ByteArray} {day : Int} {t : ByteArray} (h : OnWay d b want day) (hd : isDay day = true) (ht : nmB t = true) (hne : t ≠ b.hol) : OnWay d (nextV b 1 b.hol t day) (putS want b.hol) day ∧ (nextV b 1 b.hol t day).hol = t ∧ (nextV b 1 b.hol t day).pas.length = b.pas.length + 1 := by
  have hc := way_pass_code h hd ht hne
  unfold nextV
  rw [if_pos hc]
  unfold doneV
  rw [if_neg (by omega), if_pos rfl]
  refine ⟨⟨h.dd, Int.le_refl _, h.st, ht, put_up _ _ h.up, fun z => ?_⟩, rfl, by simp⟩
  rw [put_mem, h.mem]
  unfold owers
  simp only [List.mem_append, List.mem_singleton]
  constructor
  · rintro (h1 | h1 | h1)
    · exact .inl (.inr h1)
    · exact .inl (.inl h1)
    · exact .inr h1
  · rintro ((h1 | h1) | h1)
    · exact .inr (.inl h1)
    · exact .inl h1
    · exact .inr (.inr h1)
theorem way_pay_code {d : Dr} {b : Bl} {want : List ByteArray} {day : Int} (h : OnWay d b want day) (hm : mayD d = true) (hd : isDay day = true) (t : ByteArray) : codeV b 2 d.dre t day = 0 := by
  unfold codeV
  rw [if_neg (by omega)]
  have hs := h.st
  have hc : canV b 2 = true := by
    unfold canV
    rw [if_neg (by omega), if_neg (by omega), h.dd]
    by_cases hk : d.kind = 0
    · rw [if_pos hk] at hs; simp [hs, hk]
    · rw [if_neg hk] at hs; simp [hs]
  have hw : whoV b 2 d.dre = true := by
    unfold whoV
    rw [if_neg (by omega), if_neg (by rw [hs]; split <;> omega), h.dd]
    simp
  rw [hc, hw]
  exact step_ok (may_parts hm).1 hd h.last
theorem way_paid {d : Dr} {b : Bl} {want : List ByteArray} {day : Int} (h : OnWay d b want day) (hm : mayD d = true) (hd : isDay day = true) (t : ByteArray) : (nextV b 2 d.dre t day).st = 2 := by
  have hc := way_pay_code h hm hd t
  unfold nextV
  rw [if_pos hc]
  unfold doneV
  rw [if_neg (by omega), if_neg (by omega), if_pos rfl]
def sansS (h : ByteArray) (l : List ByteArray) : List ByteArray := l.filter fun z => !decide (z = h)
theorem sans_take {h : ByteArray} {l : List ByteArray} {k : Nat} {x : ByteArray} (hx : l[k]? = some x) : sansS h (l.take (k + 1)) = sansS h (l.take k) ++ (if x = h then [] else [x]) := by
  unfold sansS
  rw [takeS hx, List.filter_append]
  congr 1
  by_cases e : x = h
  · rw [if_pos e]; simp [e]
  · rw [if_neg e]; simp [e]
theorem way_own {d : Dr} {b : Bl} {want : List ByteArray} {day : Int} (h : OnWay d b want day) : sansS b.hol want = liaV b := by
  have h2 : b.st ≠ 2 := by rw [h.st]; split <;> omega
  refine ris_ext (h.up.sublist List.filter_sublist) (lia_up b) fun z => ?_
  rw [lia_mem h2, ← h.mem]
  unfold sansS
  simp [List.mem_filter]
theorem sans_len (h : ByteArray) (l : List ByteArray) : (sansS h l).length ≤ l.length := List.length_filter_le _ _
theorem own_nothing (W : World) (B : Nat) (hB : B ≤ W.heap.size) : (W.alloc (.cells #[] 9)).ownsRow B 9 1 (.slice (some ⟨W.heap.size, 0, none⟩) 0 0) 0 (([] : List ByteArray).flatMap strC) := own_empty (Blk.new _ _ _) hB
end Go.Proofs.Yteannbphaodadaa.kit
namespace Go.Proofs.Yteannbphaodadaa
open Go.RowKit Go.PlainAid Go.Maps Go.Proofs.Yteannbphaodadaa.kit
set_option linter.unusedVariables false
/-- What stands ahead of the hands. -/
def WayAt (d : Dr) (day : Int) (g mb P : Nat) (w : World) (v : Value) (wx : World) : Prop :=
  ∃ (b : Bl) (m : Nat) (A' : Option Addr) (c' : Nat) (want : List ByteArray), v = .slice A' m c' ∧ m ≤ c' ∧ c' ≤ maxLen ∧ m ≤ 2 ∧ b.pas.length = 0 ∧ b.hol = d.pay ∧ OnWay d b want day ∧ SliceOf wx 1 strC A' m want ∧ Farr g mb A' ∧ IsBill wx g mb b ∧ Below w.heap.size w wx ∧ P ≤ wx.heap.size
set_option maxRecDepth 100000 in
set_option maxHeartbeats 6400000 in
theorem draftWay_walk (d : Dr) (A : Option Addr) (n c : Nat) (xs : List ByteArray) (m : Int) (w : World) (hd : d.ok) (hx : SliceOf w 1 strC A n xs) (hw : ∀ x ∈ xs, x.size ≤ maxLen) (hm : n ≤ maxLen) (hmw : (Lit.int .i64 m).wf = true) :
    Calls Try.prog 3 #[.agg #[.string d.num, .string d.drw, .string d.dre, .string d.pay, .string d.cur, .int .i64 d.amt, .int .i64 d.kind, .int .i64 d.days, .int .i64 d.fr], .slice A n c, .int .i64 m] w fun e w' => e = .returned (.bool true) ∧ Below w.heap.size w w' := by
  have H := Lib.hid hx
  have HW := Lib.hid hw
  have HD := Lib.hid hd
  have hl := hx.len
  clear hx hw hd hmw
  unfold maxLen at hm
  have hB0 : Below w.heap.size w (w.alloc (.cells #[.string d.num, .string d.drw, .string d.dre, .string d.pay, .string d.cur, .int .i64 d.amt, .int .i64 d.kind, .int .i64 d.days, .int .i64 d.fr] 25)) := (Below.refl _ _).alloc (Nat.le_refl _) _
  have hk0 : Blk (w.alloc (.cells #[.string d.num, .string d.drw, .string d.dre, .string d.pay, .string d.cur, .int .i64 d.amt, .int .i64 d.kind, .int .i64 d.days, .int .i64 d.fr] 25)) w.heap.size 25 #[.string d.num, .string d.drw, .string d.dre, .string d.pay, .string d.cur, .int .i64 d.amt, .int .i64 d.kind, .int .i64 d.days, .int .i64 d.fr] := Blk.new _ _ _
  have a0 := hk0.cell 0; have a1 := hk0.cell 1; have a2 := hk0.cell 2; have a3 := hk0.cell 3; have a4 := hk0.cell 4; have a5 := hk0.cell 5; have a6 := hk0.cell 6; have a7 := hk0.cell 7; have a8 := hk0.cell 8; simp only [List.getElem?_toArray, List.getElem?_cons_zero, List.getElem?_cons_succ] at a0 a1 a2 a3 a4 a5 a6 a7 a8
  go_enter Try.func3, Try.ntmps3
  go_wp2_with fail
  refine (awake_any _).mono ?_
  rintro e w1 ⟨rfl, hb1⟩
  have hB1 := hB0.trans (hb1.mono hB0.size)
  have hk1 := hk0.below hb1 hk0.lt
  clear a0 a1 a2 a3 a4 a5 a6 a7 a8
  clear hB0 hk0 hb1
  have a0 := hk1.cell 0; have a1 := hk1.cell 1; have a2 := hk1.cell 2; have a3 := hk1.cell 3; have a4 := hk1.cell 4; have a5 := hk1.cell 5; have a6 := hk1.cell 6; have a7 := hk1.cell 7; have a8 := hk1.cell 8; simp only [List.getElem?_toArray, List.getElem?_cons_zero, List.getElem?_cons_succ] at a0 a1 a2 a3 a4 a5 a6 a7 a8
  go_wp2_with fail
  refine (long_any d _ HD.out).mono ?_
  rintro e w2 ⟨⟨v, rfl⟩, hb2⟩
  have hB2 := hB1.trans (hb2.mono hB1.size)
  have hk2 := hk1.below hb2 hk1.lt
  clear a0 a1 a2 a3 a4 a5 a6 a7 a8
  clear hB1 hk1 hb2
  have a0 := hk2.cell 0; have a1 := hk2.cell 1; have a2 := hk2.cell 2; have a3 := hk2.cell 3; have a4 := hk2.cell 4; have a5 := hk2.cell 5; have a6 := hk2.cell 6; have a7 := hk2.cell 7; have a8 := hk2.cell 8; simp only [List.getElem?_toArray, List.getElem?_cons_zero, List.getElem?_cons_succ] at a0 a1 a2 a3 a4 a5 a6 a7 a8
  by_cases hv : v = true
  · subst hv
    go_wp2_with fail
    go_ret
    exact ⟨rfl, hB2⟩
  obtain rfl : v = false := by simpa using hv
  clear hv
  by_cases hn10 : 10 < n
  · go_wp2_with fail
    go_ret
    exact ⟨rfl, hB2⟩
  go_wp2_with fail
  refine (rmayD_any d _ HD.out).mono ?_
  cases hmay : mayD d
  · rintro e w4 ⟨rfl, hb3⟩
    have hB3 := hB2.trans (hb3.mono hB2.size)
    have hk3 := hk2.below hb3 hk2.lt
    clear a0 a1 a2 a3 a4 a5 a6 a7 a8
    clear hB2 hk2 hb3
    have a0 := hk3.cell 0; have a1 := hk3.cell 1; have a2 := hk3.cell 2; have a3 := hk3.cell 3; have a4 := hk3.cell 4; have a5 := hk3.cell 5; have a6 := hk3.cell 6; have a7 := hk3.cell 7; have a8 := hk3.cell 8; simp only [List.getElem?_toArray, List.getElem?_cons_zero, List.getElem?_cons_succ] at a0 a1 a2 a3 a4 a5 a6 a7 a8
    go_wp2_with fail
    go_ret
    exact ⟨rfl, hB3⟩
  rintro e w4 ⟨rfl, hb3⟩
  have hB3 := hB2.trans (hb3.mono hB2.size)
  have hk3 := hk2.below hb3 hk2.lt
  clear a0 a1 a2 a3 a4 a5 a6 a7 a8
  clear hB2 hk2 hb3
  have a0 := hk3.cell 0; have a1 := hk3.cell 1; have a2 := hk3.cell 2; have a3 := hk3.cell 3; have a4 := hk3.cell 4; have a5 := hk3.cell 5; have a6 := hk3.cell 6; have a7 := hk3.cell 7; have a8 := hk3.cell 8; simp only [List.getElem?_toArray, List.getElem?_cons_zero, List.getElem?_cons_succ] at a0 a1 a2 a3 a4 a5 a6 a7 a8
  obtain ⟨_, _, hf0, hf1⟩ := may_parts hmay
  by_cases hm0 : m < 0
  · go_wp2_with fail
    go_ret
    exact ⟨rfl, hB3⟩
  by_cases hm1 : 1048576 < m
  · go_wp2_with fail
    go_ret
    exact ⟨rfl, hB3⟩
  have hwr : IntKind.i64.wrap (d.fr + m) = d.fr + m := IntWalk.i64_in _ (by omega)
  by_cases hm2 : 1048576 < d.fr + m
  · go_wp2_with fail
    go_ret
    exact ⟨rfl, hB3⟩
  obtain ⟨day, hday⟩ : ∃ day, d.fr + m = day := ⟨_, rfl⟩
  rw [hday] at hwr hm2
  have HDF : Hid (d.fr ≤ day) := Lib.hid (by omega)
  have HDD : Hid (isDay day = true) := Lib.hid (by unfold isDay; exact decide_eq_true (by omega))
  go_wp2_with fail
  refine (new_yes d _ HD.out hmay).mono ?_
  rintro e w5 ⟨g, mb, rfl, hbill, hg, hmb, hb4⟩
  have HBI := Lib.hid hbill
  have HMAY := Lib.hid hmay
  have HB3 := Lib.hid hB3
  have y2 := cell_kept hb4 a2; have y3 := cell_kept hb4 a3; have y6 := cell_kept hb4 a6
  have y1 := cell_kept hb4 a1; have y8 := cell_kept hb4 a8
  have HX := Lib.hid hb4
  clear hbill hmay hb4 hk3 hB3
  have hgl : g < w5.heap.size := HBI.out.blk.lt
  have hml : mb < w5.heap.size := HBI.out.map.lt
  have hxl : w4.heap.size ≤ w5.heap.size := HX.out.size
  go_upto_region 10 with (fail)
  have HOS : Hid (SliceOf (w5.alloc (.cells #[.string d.drw] 9)) 1 strC (some ⟨w5.heap.size, 0, none⟩) 1 [d.drw]) := Lib.hid (SliceOf.blk (en := strC) (Blk.new_at _ 9 #[.string d.drw] _ rfl) [d.drw] rfl (fun _ => rfl) rfl)
  have HFA : Hid (Farr g mb (some ⟨w5.heap.size, 0, none⟩)) := Lib.hid (fun x off e => by injection e with e; injection e with e1 e2; exact ⟨by omega, by omega⟩)
  have HBW := Lib.hid (HBI.out.below (one_alloc w5 (.cells #[.string d.drw] 9)))
  have HXW := Lib.hid (HX.out.trans ((one_alloc w5 (.cells #[.string d.drw] 9)).mono HX.out.size))
  have HZW := Lib.hid (one_alloc w5 (.cells #[.string d.drw] 9)).size
  have x2 := cell_kept (one_alloc w5 (.cells #[.string d.drw] 9)) y2
  have x3 := cell_kept (one_alloc w5 (.cells #[.string d.drw] 9)) y3
  have x6 := cell_kept (one_alloc w5 (.cells #[.string d.drw] 9)) y6
  obtain ⟨P, hP⟩ : ∃ P, w5.heap.size = P := ⟨_, rfl⟩
  rw [hP] at HOS HFA HZW hgl hml hxl ⊢
  clear y1 y2 y3 y6 y8 hwr
  generalize w5.alloc (.cells #[.string d.drw] 9) = W at HOS HBW HXW HZW x2 x3 x6 ⊢
  clear hP HBI
  go_upto_if 64 with fail
  go_cut [10] (fun v wx => WayAt d day g mb P w4 v wx)
  case first =>
    by_cases hk : d.kind = 0
    · have dk : (d.kind != 0) = false := by simpa using hk
      have HWY := Lib.hid (way_new HMAY.out hk HDF.out)
      clear hk
      go_wp2_with fail
      go_meet
      exact ⟨newV d, 1, _, 1, [d.drw], rfl, Nat.le_refl _, by unfold maxLen; omega, by omega, rfl, rfl, HWY.out, HOS.out, HFA.out, HBW.out, HXW.out, HZW.out⟩
    · have dk : (d.kind != 0) = true := by simpa using hk
      have HWY := Lib.hid (way_acc HMAY.out hk HDF.out HDD.out ByteArray.empty)
      have hcode := way_acc_code HMAY.out hk HDF.out HDD.out ByteArray.empty
      clear hk
      go_wp2_with fail
      refine (accept_any g mb (newV d) d.dre ByteArray.empty day W HBW.out HD.out.e).mono ?_
      rw [hcode]
      rintro e u1 ⟨rfl, hb, ht⟩
      have HB1 := Lib.hid hb
      have HX1 := Lib.hid (ht.bel _ _ HXW.out hg hmb)
      have HZ1 := Lib.hid (Nat.le_trans HZW.out ht.size)
      have HO1 := Lib.hid (ht.slice HOS.out HFA.out)
      have v2 := (HX1.out.cell (p := ⟨w.heap.size, 2, none⟩) (World.block_lt_of_cell? w4 _ a2)).trans a2
      clear hb ht hcode x2 x3 x6
      go_wp2_with fail
      refine (rput_far _ 1 1 [d.drw] d.dre u1 HO1.out (by omega) (by omega) (by unfold maxLen; omega)).mono ?_
      rintro e u2 ⟨A7, m7, c7, rfl, q1, q2, q3, q4, q5⟩
      have HB2 := Lib.hid (HB1.out.below q4)
      have HX2 := Lib.hid (HX1.out.trans (q4.mono HX1.out.size))
      have HZ2 := Lib.hid (Nat.le_trans HZ1.out q4.size)
      have HF2 := Lib.hid (HFA.out.put q5 (Nat.lt_of_lt_of_le hgl HZ1.out) (Nat.lt_of_lt_of_le hml HZ1.out))
      have hm7 := q3.len
      have hm7' := put_len d.dre [d.drw]
      have HO2 := Lib.hid q3
      have HQ := Lib.hid q2
      have hpl : (nextV (newV d) 0 d.dre ByteArray.empty day).pas.length = 0 ∧ (nextV (newV d) 0 d.dre ByteArray.empty day).hol = d.pay := by
        unfold nextV doneV
        split
        · rw [if_pos rfl]; exact ⟨rfl, rfl⟩
        · exact ⟨rfl, rfl⟩
      have HPL := Lib.hid hpl
      clear q2 q3 q4 q5 hpl
      go_wp2_with fail
      go_meet
      exact ⟨_, m7, A7, c7, putS [d.drw] d.dre, rfl, q1, HQ.out, by simp at hm7'; omega, HPL.out.1, HPL.out.2, HWY.out, HO2.out, HF2.out, HB2.out, HX2.out, HZ2.out⟩
  case rest =>
    obtain ⟨b0, m0, A0, c0, want0, rfl, q1, q2, q3, q4, q5, q6, q7, q8, q9, q10, q11⟩ := hcut
    have HQ2 := Lib.hid q2
    have HQ6 := Lib.hid q6
    have HQ7 := Lib.hid q7
    have HQ8 := Lib.hid q8
    have HQ9 := Lib.hid q9
    have HQ10 := Lib.hid q10
    have HQ11 := Lib.hid q11
    have HQ5 := Lib.hid q5
    have e3 := (q10.cell (p := ⟨w.heap.size, 3, none⟩) (World.block_lt_of_cell? w4 _ a3)).trans a3
    clear q2 q5 q6 q7 q8 q9 q10 q11 x2 x3 x6 HOS HFA HBW HXW HZW
    go_wp2_with fail
    go_loopw [10, 11, 12] (fun v h i wr => ∃ (k : Nat) (b : Bl) (m : Nat) (A' : Option Addr) (c' : Nat) (want : List ByteArray), k ≤ n ∧ i = .int .i64 k ∧ h = .string b.hol ∧ v = .slice A' m c' ∧ m ≤ c' ∧ Hid (c' ≤ maxLen) ∧ m ≤ k + 2 ∧ b.pas.length = k ∧ Hid (OnWay d b want day) ∧ Hid (SliceOf wr 1 strC A' m want) ∧ Hid (Farr g mb A') ∧ Hid (IsBill wr g mb b) ∧ Hid (Below w4.heap.size w4 wr) ∧ Hid (P ≤ wr.heap.size)) (fun _ _ i _ => n - (intOf i).toNat)
    case atStart => exact ⟨0, b0, m0, A0, c0, want0, by omega, rfl, by rw [HQ5.out], rfl, q1, HQ2, by omega, q4, HQ6, HQ7, HQ8, HQ9, HQ10, HQ11⟩
    case round =>
      clear e3 q1 q3 q4 HQ2 HQ5 HQ6 HQ7 HQ8 HQ9 HQ10 HQ11
      obtain ⟨k, b, m1, A', c', want, hk, rfl, rfl, rfl, hmc, hcm, hmk, hpk, hwy, hsl, hfa, hbi, hbw, hzw⟩ := hrel
      have hxb := HB3.out.trans (hbw.out.mono HB3.out.size)
      have HXB := Lib.hid hxb
      clear hxb
      by_cases hlt : k < n
      · obtain ⟨bx, off, x, rfl, hxk, ww⟩ := get_str H.out hlt
        have w0 := cell_kept HXB.out ww
        have hxs := HW.out x (List.mem_of_getElem? hxk)
        clear hxk
        by_cases h1 : 100 < x.size
        · go_wp2_with fail
          go_ret
          exact ⟨rfl, HXB.out⟩
        have hbh := hbi.out.hol
        have HN := Lib.hid (rnm_any x wr hxs)
        obtain ⟨nb, hnb⟩ : ∃ nb, nmB x = nb := ⟨_, rfl⟩
        rw [hnb] at HN
        go_wp2_with fail
        refine HN.out.mono ?_
        rintro e w' ⟨rfl, rfl⟩
        cases nb
        · go_wp2_with fail
          go_ret
          exact ⟨rfl, HXB.out⟩
        have p1 := eq_str x b.hol
        by_cases hxh : x = b.hol
        · have d1 : (x.toList == b.hol.toList) = true := by rw [p1]; exact decide_eq_true hxh
          clear p1 hxh hnb
          go_wp2_with fail
          go_ret
          exact ⟨rfl, HXB.out⟩
        have d1 : (x.toList == b.hol.toList) = false := by rw [p1]; exact decide_eq_false hxh
        have hcode := way_pass_code hwy.out HDD.out hnb hxh
        have hnx := way_pass hwy.out HDD.out hnb hxh
        clear p1 hnb hxh
        go_wp2_with fail
        refine (pass_any g mb b b.hol x day wr hbi.out hbh hxs (by omega)).mono ?_
        rw [hcode]
        rintro e u1 ⟨rfl, hb, ht⟩
        have HB1 := Lib.hid hb
        have HX1 := Lib.hid (ht.bel _ _ hbw.out hg hmb)
        have HZ1 := Lib.hid (Nat.le_trans hzw.out ht.size)
        have HO1 := Lib.hid (ht.slice hsl.out hfa.out)
        have HNX := Lib.hid hnx
        have w1 := cell_kept (ht.bel _ _ HXB.out (Nat.le_trans HB3.out.size hg) (Nat.le_trans HB3.out.size hmb)) ww
        clear hb ht hcode hnx w0 ww
        go_wp2_with fail
        refine (rput_far A' m1 c' want b.hol u1 HO1.out (by omega) hmc hcm.out).mono ?_
        rintro e u2 ⟨A7, m7, c7, rfl, q1, q2, q3, q4, q5⟩
        have HB2 := Lib.hid (HB1.out.below q4)
        have HX2 := Lib.hid (HX1.out.trans (q4.mono HX1.out.size))
        have HZ2 := Lib.hid (Nat.le_trans HZ1.out q4.size)
        have HF2 := Lib.hid (hfa.out.put q5 (Nat.lt_of_lt_of_le hgl HZ1.out) (Nat.lt_of_lt_of_le hml HZ1.out))
        have hm7 := q3.len
        have hm7' := put_len b.hol want
        have hm1 := HO1.out.len
        have HO2 := Lib.hid q3
        have HQ := Lib.hid q2
        have w2 := cell_kept q4 w1
        clear q2 q3 q4 q5 w1
        go_wp2_with fail
        exact ⟨⟨k + 1, _, m7, A7, c7, putS want b.hol, by omega, by go_num, by rw [HNX.out.2.1], rfl, q1, HQ, by omega, by rw [HNX.out.2.2]; omega, Lib.hid HNX.out.1, HO2, HF2, HB2, HX2, HZ2⟩, by simp [intOf]; omega⟩
      · have hkn : n = k := by omega
        clear hlt
        subst hkn
        obtain ⟨V, hV⟩ : ∃ V : World, V = wr := ⟨_, rfl⟩
        subst hV
        have HOWN := Lib.hid (way_own hwy.out)
        have hml1 := hsl.out.len
        have HN1 := Lib.hid (own_nothing V V.heap.size (Nat.le_refl _))
        have dh : (b.hol.toList != b.hol.toList) = false := by rw [bne, eq_str, decide_eq_true rfl]; rfl
        obtain ⟨i0, hi, hz0, hz1, hz2⟩ := info_parts infoStr
        go_wp2_with fail
        go_loopw [13, 14] (fun v i W => ∃ (j mo : Nat) (Ao : Option Addr) (co : Nat), j ≤ m1 ∧ i = .int .i64 j ∧ v = .slice Ao mo co ∧ Hid ((sansS b.hol (want.take j)).length = mo) ∧ Hid (W.ownsRow V.heap.size 9 1 (.slice Ao mo co) mo ((sansS b.hol (want.take j)).flatMap strC)) ∧ Hid (Below V.heap.size V W)) (fun _ i _ => m1 - (intOf i).toNat)
        case atStart => exact ⟨0, 0, _, _, by omega, rfl, rfl, Lib.hid rfl, HN1, Lib.hid (one_alloc V _)⟩
        case round =>
          obtain ⟨j, mo, Ao, co, hj, rfl, rfl, hlo, hoo, hvw⟩ := hrel
          have HB2 := Lib.hid (hbi.out.below hvw.out)
          have hmo := sans_len b.hol (want.take j); have hmo2 := List.length_take_le j want; have hlo' := hlo.out
          by_cases hjm : j < m1
          · obtain ⟨bz, oz, z, rfl, hz, zz⟩ := get_str hsl.out hjm
            have z0 := cell_kept hvw.out zz
            have hst := sans_take (h := b.hol) hz
            have p1 := eq_str z b.hol
            clear hz zz
            by_cases hzh : z = b.hol
            · have d1 : (z.toList == b.hol.toList) = true := by rw [p1]; exact decide_eq_true hzh
              have d2 : (z.toList != b.hol.toList) = false := by rw [bne, p1, decide_eq_true hzh]; rfl
              rw [if_pos hzh, List.append_nil] at hst
              have HST := Lib.hid hst
              clear hst hzh p1
              go_wp2_with fail
              exact ⟨⟨j + 1, mo, Ao, co, by omega, by go_num, rfl, Lib.hid (by rw [HST.out]; exact hlo.out), Lib.hid (by rw [HST.out]; exact hoo.out), hvw⟩, by simp [intOf]; omega⟩
            · have d1 : (z.toList == b.hol.toList) = false := by rw [p1]; exact decide_eq_false hzh
              have d2 : (z.toList != b.hol.toList) = true := by rw [bne, p1, decide_eq_false hzh]; rfl
              rw [if_neg hzh] at hst
              have HST := Lib.hid hst
              have HSA : Hid (V.heap.size ≤ (wr.alloc (.cells #[.string z] 9)).heap.size) := Lib.hid (by rw [size_alloc]; have := hvw.out.size; omega)
              clear hst hzh p1
              go_wp2_with (at_builtin; refine wpList_append_any_s (wr.alloc (.cells #[.string z] 9)) rfl (.tmp 134) (.tmp 139) 26 rfl V.heap.size 9 i0 _ 1 16 Try.underlying26 hi hz0 hz1 hz2 rfl (by omega) (.slice Ao mo co) mo _ rfl (hoo.out.alloc _) _ (some ⟨wr.heap.size, 0, none⟩) 1 1 [.string z] rfl ((SliceOf.blk (en := strC) (Blk.new_at _ 9 #[.string z] _ rfl) [z] rfl (fun _ => rfl) rfl).reads (fun _ => rfl)) (by simp [Value.oneCell']) (by unfold maxLen; omega) (by omega) HSA.out ?_; intro A8 c8 w8 hown2 hg2 hloc2; have HB8 : Hid (Below V.heap.size V w8) := Lib.hid ((hvw.out.alloc hvw.out.size _).grown hg2 HSA.out (fun j hj => (hoo.out.lt j hj).1)); rw [show (sansS b.hol (want.take j)).flatMap strC ++ [Value.string z] = (sansS b.hol (want.take (j + 1))).flatMap strC by rw [HST.out, List.flatMap_append]; rfl] at hown2; have HO8 := Lib.hid hown2; clear hown2 hg2 hloc2)
              exact ⟨⟨j + 1, mo + 1, A8, c8, by omega, by go_num, rfl, Lib.hid (by rw [HST.out, List.length_append, hlo.out]; rfl), HO8, HB8⟩, by simp [intOf]; omega⟩
          · have e1 : sansS b.hol (want.take j) = liaV b := by rw [List.take_of_length_le (by omega)]; exact HOWN.out
            rw [e1] at hoo hlo
            have HSO := Lib.hid (SliceOf.of_own_s hoo.out (fun _ => rfl) rfl hlo.out : SliceOf wr 1 strC Ao mo (liaV b))
            have HLN := Lib.hid (lia_len b)
            have HWX := Lib.hid (hbw.out.trans (hvw.out.mono hbw.out.size))
            have hpay := way_pay_code hwy.out HMAY.out HDD.out ByteArray.empty
            have hpaid := way_paid hwy.out HMAY.out HDD.out ByteArray.empty
            have HPAY := Lib.hid hpay
            have HPAID := Lib.hid hpaid
            have HLO := hlo
            clear hoo hlo e1 hpay hpaid hmo hmo2 hlo'
            go_wp2_with fail
            refine (holder_any g mb b wr HB2.out).mono ?_
            rintro e w' ⟨rfl, rfl⟩
            go_wp2_with fail
            refine (liable_any g mb b wr HB2.out).mono ?_
            rintro e u3 ⟨v, rfl, A9, c9, rfl, hs9, hb3⟩
            have HS9 := Lib.hid hs9
            have HB3' := Lib.hid (HB2.out.below hb3)
            have HSO3 := Lib.hid (HSO.out.below hb3)
            have HX3 := Lib.hid (HWX.out.trans (hb3.mono HWX.out.size))
            clear hs9 hb3
            go_wp2_with fail
            refine (texts_any A9 _ c9 (liaV b) Ao mo co (liaV b) u3 HS9.out HSO3.out (by unfold maxLen; have := HLN.out; omega) (by unfold maxLen; have := HLN.out; have := HLO.out; omega)).mono ?_
            rw [decide_eq_true (rfl : liaV b = liaV b)]
            rintro e u4 ⟨rfl, hb4⟩
            have HB4 := Lib.hid (HB3'.out.below hb4)
            have HX4 := Lib.hid (HX3.out.trans (hb4.mono HX3.out.size))
            have v2 := (HX4.out.cell (p := ⟨w.heap.size, 2, none⟩) (World.block_lt_of_cell? w4 _ a2)).trans a2
            clear hb4
            go_wp2_with fail
            refine (pay_any g mb b d.dre ByteArray.empty day u4 HB4.out HD.out.e).mono ?_
            rw [HPAY.out]
            rintro e u5 ⟨rfl, hb5, ht5⟩
            have HB5 := Lib.hid hb5
            have HX5 := Lib.hid (ht5.bel _ _ HX4.out hg hmb)
            clear hb5 ht5 v2
            obtain ⟨b5, hb5e⟩ : ∃ b5, nextV b 2 d.dre ByteArray.empty day = b5 := ⟨_, rfl⟩
            rw [hb5e] at HB5 HPAID
            clear hb5e
            go_wp2_with fail
            refine (state_any g mb b5 u5 HB5.out).mono ?_
            rw [HPAID.out]
            rintro e w' ⟨rfl, rfl⟩
            go_wp2_with fail
            refine (liable_any g mb b5 u5 HB5.out).mono ?_
            rw [lia_nil HPAID.out]
            rintro e u6 ⟨v, rfl, A10, c10, rfl, hs10, hb6⟩
            have HX6 := Lib.hid (HX5.out.trans (hb6.mono HX5.out.size))
            clear hs10 hb6
            go_wp2_with fail
            go_ret
            exact ⟨rfl, HB3.out.trans (HX6.out.mono HB3.out.size)⟩
end Go.Proofs.Yteannbphaodadaa
