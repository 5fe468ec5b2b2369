/- TopTime: the law. Condition: the table of powers of ten. -/
import Derived.Test.YtlicmhgpldmliaaDoorPpF
import Derived.Test.YtlicmhgpldmliaaDoorLawCounts
import Derived.Test.YtlicmhgpldmliaaDoorAnswer
import Derived.Test.YtlicmhgpldmliaaDoorDyW
namespace Go.Proofs.YtlicmhgpldmliaaDoor
open Go.RowKit Go.PlainAid Go.Proofs.YtlicmhgpldmliaaDoor.kit Go.Proofs.YtlicmhgpldmliaaDoor.cal
set_option linter.unusedVariables false

theorem cnt_five {c : Cal} {p : Int} (h : (dlV c p).2 = true) : cntF c (p + 1) ((dlV c p).1 - p).toNat = 5 := by
  have := days_five h
  unfold daysV at this
  rw [if_pos h] at this
  simpa using this
theorem btw_four {c : Cal} {p : Int} (h : (dlV c p).2 = true) : betweenV c (p + 1) (dlV c p).1 = 4 := by
  have h5 := cnt_five h
  have hb := dl_bd h
  obtain ⟨k, hk⟩ : ∃ k : Nat, (dlV c p).1 = p + 1 + k := ⟨((dlV c p).1 - (p + 1)).toNat, by omega⟩
  rw [show ((dlV c p).1 - p).toNat = k + 1 by omega, cntF, ← hk, hb.2.2.2] at h5
  unfold betweenV
  rw [show max (p + 1) 0 = p + 1 by omega, show (min (dlV c p).1 1048577 - (p + 1)).toNat = k by omega]
  simp at h5
  omega
theorem next_rest {c : Cal} {d : Int} (h : (nextV c d).2 = true) (hne : (nextV c d).1 ≠ d) : restB c d = true := by
  unfold nextV at h hne
  cases hd : isDayB d
  · rw [hd] at h; simp at h
  · rw [hd] at h hne
    simp only [if_true] at h hne
    cases hr : restB c d
    · rw [up_in c d 1 hd, hr] at hne
      simp at hne
    · rfl
theorem next_bds {c : Cal} {d : Int} (h : (nextV c d).2 = true) : d ≤ (nextV c d).1 ∧ (nextV c d).1 ≤ 1048576 ∧ restB c (nextV c d).1 = false := by
  unfold nextV at h ⊢
  cases hd : isDayB d
  · rw [hd] at h; simp at h
  · rw [hd] at h
    have hd' : 0 ≤ d ∧ d ≤ 1048576 := of_decide_eq_true hd
    simp only [if_true] at h ⊢
    have := up_bd c _ 1 (by omega) (by omega) h
    exact ⟨by omega, by omega, this.2.2⟩
theorem infoFa : (Tryd.prog.info? 35).map (fun i => (i.zero, i.size, i.bytes)) = some (some (.agg #[.int .i64 0, .int .i64 0, .string ⟨#[]⟩, .int .i64 0]), 4, 40) := by kernel_rfl
def fx : Fa := (0, 0, ⟨#[115, 117, 109]⟩, 2)
theorem fx_i : faI fx := ⟨⟨by decide, by decide⟩, ⟨by decide, by decide⟩, by decide, ⟨by decide, by decide⟩⟩
theorem ans_none (c : Cal) (p a : Int) : answerV c p a [] [] = 0 := rfl
theorem ans_in {c : Cal} {p : Int} (h : (dlV c p).2 = true) : answerV c p (dlV c p).1 [fx] [fx] = 1 := by
  have hb := dl_bd h
  unfold answerV
  rw [if_neg (by simp), if_pos ⟨h, Int.le_refl _, by omega, by simp [countsV, hasF]⟩]
theorem ans_late {c : Cal} {p : Int} (h : (dlV c p).2 = true) : answerV c p ((dlV c p).1 + 1) [fx] [fx] = 2 := by
  unfold answerV
  rw [if_neg (by simp), if_neg (fun q => by have := q.2.1; omega)]
theorem prec_in {c : Cal} {p : Int} : preclV c p (dlV c p).1 false = false := by unfold preclV; simp
theorem prec_late {c : Cal} {p : Int} (h : (dlV c p).2 = true) : preclV c p ((dlV c p).1 + 1) false = true := by
  unfold preclV
  rw [h, decide_eq_true (by omega)]; rfl
set_option maxRecDepth 100000 in
set_option maxHeartbeats 6400000 in
theorem topTime_big (c : Cal) (A1 : Option Addr) (n1 c1 : Nat) (A2 : Option Addr) (n2 c2 : Nat) (pr ex : Int) (fa : Bool) (w : World) (h1 : SliceOf w 1 intC A1 n1 c.rest) (h2 : SliceOf w 1 intC A2 n2 c.hol) (m1 : n1 ≤ maxLen) (m2 : n2 ≤ maxLen) (ht : PowTab w) (hbig : 10 < n1 ∨ 30 < n2 ∨ mayB c = false) : Calls Tryd.prog 3 #[.agg #[.slice A1 n1 c1, .slice A2 n2 c2], .int .u16 pr, .int .u16 ex, .bool fa] w fun e w' => e = .returned (.bool true) ∧ Below w.heap.size w w' := by
  have HTB := Lib.hid (Lib.tabBelow_of_tabIs ht)
  clear ht
  have H1 := Lib.hid h1
  have H2 := Lib.hid h2
  have l1 := h1.len
  have l2 := h2.len
  clear h1 h2
  have hB0 : Below w.heap.size w (w.alloc (.cells #[.slice A1 n1 c1, .slice A2 n2 c2] 24)) := (Below.refl _ _).alloc (Nat.le_refl _) _
  have hk0 : Blk (w.alloc (.cells #[.slice A1 n1 c1, .slice A2 n2 c2] 24)) w.heap.size 24 #[.slice A1 n1 c1, .slice A2 n2 c2] := Blk.new _ _ _
  by_cases g1 : 10 < n1
  · have d1 : (10 : Int) < (n1 : Int) := by omega
    clear hbig
    go_enter Tryd.func3, Tryd.ntmps3
    go_wp2_with fail
    refine (asks_any _ (HTB.out.on hB0).here).mono ?_
    rintro e w1 ⟨rfl, hb1⟩
    have hB1 := hB0.trans (hb1.mono hB0.size)
    have hk1 := hk0.below hb1 hk0.lt
    clear hB0 hk0 hb1
    have a0 := hk1.cell 0; have a1 := hk1.cell 1; simp only [List.getElem?_toArray, List.getElem?_cons_zero, List.getElem?_cons_succ] at a0 a1
    go_wp2_with fail
    clear a0 a1
    refine (asks_any _ (HTB.out.on hB1).here).mono ?_
    rintro e w2 ⟨rfl, hb2⟩
    have hB2 := hB1.trans (hb2.mono hB1.size)
    have hk2 := hk1.below hb2 hk1.lt
    clear hB1 hk1 hb2
    have a0 := hk2.cell 0; have a1 := hk2.cell 1; simp only [List.getElem?_toArray, List.getElem?_cons_zero, List.getElem?_cons_succ] at a0 a1
    go_wp2_with fail
    go_ret
    exact ⟨rfl, hB2⟩
  have d1 : ¬ (10 : Int) < (n1 : Int) := by omega
  by_cases g2 : 30 < n2
  · have d2 : (30 : Int) < (n2 : Int) := by omega
    clear hbig
    go_enter Tryd.func3, Tryd.ntmps3
    go_wp2_with fail
    refine (asks_any _ (HTB.out.on hB0).here).mono ?_
    rintro e w1 ⟨rfl, hb1⟩
    have hB1 := hB0.trans (hb1.mono hB0.size)
    have hk1 := hk0.below hb1 hk0.lt
    clear hB0 hk0 hb1
    have a0 := hk1.cell 0; have a1 := hk1.cell 1; simp only [List.getElem?_toArray, List.getElem?_cons_zero, List.getElem?_cons_succ] at a0 a1
    go_wp2_with fail
    clear a0 a1
    refine (asks_any _ (HTB.out.on hB1).here).mono ?_
    rintro e w2 ⟨rfl, hb2⟩
    have hB2 := hB1.trans (hb2.mono hB1.size)
    have hk2 := hk1.below hb2 hk1.lt
    clear hB1 hk1 hb2
    have a0 := hk2.cell 0; have a1 := hk2.cell 1; simp only [List.getElem?_toArray, List.getElem?_cons_zero, List.getElem?_cons_succ] at a0 a1
    go_wp2_with fail
    go_ret
    exact ⟨rfl, hB2⟩
  have d2 : ¬ (30 : Int) < (n2 : Int) := by omega
  have hm : mayB c = false := by
    rcases hbig with h | h | h
    · omega
    · omega
    · exact h
  have HM := Lib.hid hm
  clear hbig hm
  go_enter Tryd.func3, Tryd.ntmps3
  go_wp2_with fail
  refine (asks_any _ (HTB.out.on hB0).here).mono ?_
  rintro e w1 ⟨rfl, hb1⟩
  have hB1 := hB0.trans (hb1.mono hB0.size)
  have hk1 := hk0.below hb1 hk0.lt
  clear hB0 hk0 hb1
  have a0 := hk1.cell 0; have a1 := hk1.cell 1; simp only [List.getElem?_toArray, List.getElem?_cons_zero, List.getElem?_cons_succ] at a0 a1
  go_wp2_with fail
  refine (may_any c A1 n1 c1 A2 n2 c2 _ (H1.out.below hB1) (H2.out.below hB1) m1 m2).mono ?_
  rw [HM.out]
  rintro e w2 ⟨rfl, hb2⟩
  clear a0 a1
  have hB2 := hB1.trans (hb2.mono hB1.size)
  have hk2 := hk1.below hb2 hk1.lt
  clear hB1 hk1 hb2
  have a0 := hk2.cell 0; have a1 := hk2.cell 1; simp only [List.getElem?_toArray, List.getElem?_cons_zero, List.getElem?_cons_succ] at a0 a1
  go_wp2_with fail
  clear a0 a1
  refine (asks_any _ (HTB.out.on hB2).here).mono ?_
  rintro e w3 ⟨rfl, hb3⟩
  have hB3 := hB2.trans (hb3.mono hB2.size)
  have hk3 := hk2.below hb3 hk2.lt
  clear hB2 hk2 hb3
  have a0 := hk3.cell 0; have a1 := hk3.cell 1; simp only [List.getElem?_toArray, List.getElem?_cons_zero, List.getElem?_cons_succ] at a0 a1
  go_wp2_with fail
  go_ret
  exact ⟨rfl, hB3⟩
set_option maxRecDepth 100000 in
set_option maxHeartbeats 12800000 in
theorem topTime_ok (c : Cal) (A1 : Option Addr) (n1 c1 : Nat) (A2 : Option Addr) (n2 c2 : Nat) (pr ex : Int) (fa : Bool) (w : World) (h1 : SliceOf w 1 intC A1 n1 c.rest) (h2 : SliceOf w 1 intC A2 n2 c.hol) (m1 : n1 ≤ maxLen) (m2 : n2 ≤ maxLen) (hp : 0 ≤ pr ∧ pr ≤ 65535) (hx : 0 ≤ ex ∧ ex ≤ 65535) (ht : PowTab w) (g1 : n1 ≤ 10) (g2 : n2 ≤ 30) (hm : mayB c = true) : Calls Tryd.prog 3 #[.agg #[.slice A1 n1 c1, .slice A2 n2 c2], .int .u16 pr, .int .u16 ex, .bool fa] w fun e w' => e = .returned (.bool true) ∧ Below w.heap.size w w' := by
  have HTB := Lib.hid (Lib.tabBelow_of_tabIs ht)
  clear ht
  have H1 := Lib.hid h1
  have H2 := Lib.hid h2
  have l1 := h1.len
  have l2 := h2.len
  clear h1 h2
  have hB0 : Below w.heap.size w (w.alloc (.cells #[.slice A1 n1 c1, .slice A2 n2 c2] 24)) := (Below.refl _ _).alloc (Nat.le_refl _) _
  have hk0 : Blk (w.alloc (.cells #[.slice A1 n1 c1, .slice A2 n2 c2] 24)) w.heap.size 24 #[.slice A1 n1 c1, .slice A2 n2 c2] := Blk.new _ _ _
  have d1 : ¬ (10 : Int) < (n1 : Int) := by omega
  have d2 : ¬ (30 : Int) < (n2 : Int) := by omega
  have HM := Lib.hid hm
  have q1 : IntKind.i64.wrap pr = pr := IntWalk.i64_in _ (by omega)
  have q2 : IntKind.i64.wrap ex = ex := IntWalk.i64_in _ (by omega)
  have q3 : IntKind.i64.wrap (pr + 1) = pr + 1 := IntWalk.i64_in _ (by omega)
  obtain ⟨p0, p1⟩ := hp
  obtain ⟨x0, x1⟩ := hx
  obtain ⟨L, hL⟩ : ∃ L, (dlV c pr).1 = L := ⟨_, rfl⟩
  obtain ⟨ok, hok⟩ : ∃ ok, (dlV c pr).2 = ok := ⟨_, rfl⟩
  have HK := Lib.hid hok
  have HL := Lib.hid hL
  clear hm
  cases ok
  · have HA1 : Hid ((addV c pr 5).1 = L) := Lib.hid hL
    have HA2 : Hid ((addV c pr 5).2 = false) := Lib.hid hok
    clear hok hL
    go_enter Tryd.func3, Tryd.ntmps3
    go_wp2_with fail
    refine (asks_any _ (HTB.out.on hB0).here).mono ?_
    rintro e w1 ⟨rfl, hb1⟩
    have hB1 := hB0.trans (hb1.mono hB0.size)
    have hk1 := hk0.below hb1 hk0.lt
    clear hB0 hk0 hb1
    have a0 := hk1.cell 0; have a1 := hk1.cell 1; simp only [List.getElem?_toArray, List.getElem?_cons_zero, List.getElem?_cons_succ] at a0 a1
    go_wp2_with fail
    refine (may_any c A1 n1 c1 A2 n2 c2 _ (H1.out.below hB1) (H2.out.below hB1) m1 m2).mono ?_
    rw [HM.out]
    rintro e w2 ⟨rfl, hb2⟩
    clear a0 a1
    have hB2 := hB1.trans (hb2.mono hB1.size)
    have hk2 := hk1.below hb2 hk1.lt
    clear hB1 hk1 hb2
    have a0 := hk2.cell 0; have a1 := hk2.cell 1; simp only [List.getElem?_toArray, List.getElem?_cons_zero, List.getElem?_cons_succ] at a0 a1
    go_wp2_with fail
    refine (deadline_any c A1 n1 c1 A2 n2 c2 pr _ (H1.out.below hB2) (H2.out.below hB2) m1 m2).mono ?_
    rw [HK.out, HL.out]
    rintro e w3 ⟨rfl, hb3⟩
    clear a0 a1
    have hB3 := hB2.trans (hb3.mono hB2.size)
    have hk3 := hk2.below hb3 hk2.lt
    clear hB2 hk2 hb3
    have a0 := hk3.cell 0; have a1 := hk3.cell 1; simp only [List.getElem?_toArray, List.getElem?_cons_zero, List.getElem?_cons_succ] at a0 a1
    go_wp2_with fail
    refine (add_up c A1 n1 c1 A2 n2 c2 pr 5 (by omega) _ (H1.out.below hB3) (H2.out.below hB3) m1 m2).mono ?_
    rw [HA1.out, HA2.out]
    rintro e w4 ⟨rfl, hb4⟩
    clear a0 a1
    have hB4 := hB3.trans (hb4.mono hB3.size)
    have hk4 := hk3.below hb4 hk3.lt
    clear hB3 hk3 hb4
    go_wp2_with fail
    go_ret
    exact ⟨rfl, hB4⟩
  have h5 := cnt_five hok
  have h4 := btw_four hok
  have hbd := dl_bd hok
  have hi1 := ans_in hok
  have hi2 := ans_late hok
  have hp1 : preclV c pr (dlV c pr).1 false = false := prec_in
  have hp2 := prec_late hok
  rw [hL] at h5 h4 hbd hi1 hi2 hp1 hp2
  have H5 := Lib.hid h5
  have H4 := Lib.hid h4
  have HI1 := Lib.hid hi1
  have HI2 := Lib.hid hi2
  have HP1 := Lib.hid hp1
  have HP2 := Lib.hid hp2
  have HRL : Hid ((isDayB L && restB c L) = false) := Lib.hid (by rw [hbd.2.2.2]; simp)
  obtain ⟨E, hE⟩ : ∃ E, (nextV c ex).1 = E := ⟨_, rfl⟩
  obtain ⟨is, his⟩ : ∃ is, (nextV c ex).2 = is := ⟨_, rfl⟩
  have HE := Lib.hid hE
  have HIS := Lib.hid his
  have HX1 : Hid (is = true → ex ≤ E) := Lib.hid (fun h => by rw [h] at his; rw [← hE]; exact (next_bds his).1)
  have HX2 : Hid (is = true → (isDayB E && restB c E) = false) := Lib.hid (fun h => by rw [h] at his; rw [← hE, (next_bds his).2.2]; simp)
  have HX3 : Hid (is = true → E ≠ ex → (isDayB ex && restB c ex) = true) := Lib.hid (fun h hne => by
    rw [h] at his
    rw [← hE] at hne
    rw [next_rest his hne, show isDayB ex = true from decide_eq_true ⟨by omega, by omega⟩]; rfl)
  obtain ⟨_, l0, l1, _⟩ := hbd
  have q4 : IntKind.i64.wrap (L + 1) = L + 1 := IntWalk.i64_in _ (by omega)
  clear h5 h4 hi1 hi2 hp1 hp2 hok hL hE his
  go_enter Tryd.func3, Tryd.ntmps3
  go_wp2_with fail
  refine (asks_any _ (HTB.out.on hB0).here).mono ?_
  rintro e w1 ⟨rfl, hb1⟩
  have hB1 := hB0.trans (hb1.mono hB0.size)
  have hk1 := hk0.below hb1 hk0.lt
  clear hB0 hk0 hb1
  have a0 := hk1.cell 0; have a1 := hk1.cell 1; simp only [List.getElem?_toArray, List.getElem?_cons_zero, List.getElem?_cons_succ] at a0 a1
  go_wp2_with fail
  refine (may_any c A1 n1 c1 A2 n2 c2 _ (H1.out.below hB1) (H2.out.below hB1) m1 m2).mono ?_
  rw [HM.out]
  rintro e w2 ⟨rfl, hb2⟩
  clear a0 a1
  have hB2 := hB1.trans (hb2.mono hB1.size)
  have hk2 := hk1.below hb2 hk1.lt
  clear hB1 hk1 hb2
  have a0 := hk2.cell 0; have a1 := hk2.cell 1; simp only [List.getElem?_toArray, List.getElem?_cons_zero, List.getElem?_cons_succ] at a0 a1
  go_wp2_with fail
  refine (deadline_any c A1 n1 c1 A2 n2 c2 pr _ (H1.out.below hB2) (H2.out.below hB2) m1 m2).mono ?_
  rw [HK.out, HL.out]
  rintro e w3 ⟨rfl, hb3⟩
  clear a0 a1
  have hB3 := hB2.trans (hb3.mono hB2.size)
  have hk3 := hk2.below hb3 hk2.lt
  clear hB2 hk2 hb3
  have a0 := hk3.cell 0; have a1 := hk3.cell 1; simp only [List.getElem?_toArray, List.getElem?_cons_zero, List.getElem?_cons_succ] at a0 a1
  go_wp2_with fail
  clear a0 a1
  go_loopw [14, 15] (fun vn vd wr => ∃ (k : Nat) (n : Int), vn = .int .i64 n ∧ vd = .int .i64 (pr + 1 + k) ∧ pr + 1 + k ≤ L + 1 ∧ 0 ≤ n ∧ n ≤ k ∧ Hid (n = cntF c (pr + 1) k) ∧ Below w.heap.size w wr ∧ Blk wr w.heap.size 24 #[.slice A1 n1 c1, .slice A2 n2 c2]) (fun _ vd _ => (L + 1 - intOf vd).toNat)
  case atStart => exact ⟨0, 0, rfl, by simp, by omega, by omega, by omega, Lib.hid rfl, hB3, hk3⟩
  case round =>
    obtain ⟨k, n, rfl, rfl, hkL, hn0, hnk, hcn, hB4, hk4⟩ := hrel
    clear hB3 hk3
    have a0 := hk4.cell 0; have a1 := hk4.cell 1; simp only [List.getElem?_toArray, List.getElem?_cons_zero, List.getElem?_cons_succ] at a0 a1
    by_cases hlt : pr + 1 + (k : Int) ≤ L
    · have hd : isDayB (pr + 1 + (k : Int)) = true := decide_eq_true ⟨by omega, by omega⟩
      have hs : cntF c (pr + 1) (k + 1) = cntF c (pr + 1) k + (if restB c (pr + 1 + k) then 0 else 1) := rfl
      rw [← hcn.out] at hs
      have w1 : IntKind.i64.wrap (pr + 1 + (k : Int) + 1) = pr + 1 + (k : Int) + 1 := IntWalk.i64_in _ (by omega)
      have w2 : IntKind.i64.wrap (n + 1) = n + 1 := IntWalk.i64_in _ (by omega)
      obtain ⟨d, hdd⟩ : ∃ d : Int, pr + 1 + (k : Int) = d := ⟨_, rfl⟩
      rw [hdd] at hlt hd hs w1 hkL ⊢
      have HDD := Lib.hid hdd
      clear hdd
      cases hr : restB c d
      · have HR : Hid ((isDayB d && restB c d) = false) := Lib.hid (by rw [hr]; simp)
        have e1 : Hid (n + 1 = cntF c (pr + 1) (k + 1)) := Lib.hid (by rw [hs, hr]; simp)
        clear hr hs hd
        go_wp2_with fail
        refine (rests_any c A1 n1 c1 A2 n2 c2 d _ (H1.out.below hB4) (H2.out.below hB4) m1 m2).mono ?_
        rw [HR.out]
        rintro e w5 ⟨rfl, hb5⟩
        clear a0 a1
        have hB5 := hB4.trans (hb5.mono hB4.size)
        have hk5 := hk4.below hb5 hk4.lt
        clear hB4 hk4 hb5
        have a0 := hk5.cell 0; have a1 := hk5.cell 1; simp only [List.getElem?_toArray, List.getElem?_cons_zero, List.getElem?_cons_succ] at a0 a1
        go_wp2_with fail
        go_roundw
        case rel => exact ⟨k + 1, n + 1, rfl, by rw [← HDD.out]; simp [Int.add_assoc], by have := HDD.out; omega, by omega, by omega, e1, hB5, hk5⟩
        case measure => simp [intOf]; omega
      · have HR : Hid ((isDayB d && restB c d) = true) := Lib.hid (by rw [hr, hd]; rfl)
        have e1 : Hid (n = cntF c (pr + 1) (k + 1)) := Lib.hid (by rw [hs, hr]; simp)
        clear hr hs hd
        go_wp2_with fail
        refine (rests_any c A1 n1 c1 A2 n2 c2 d _ (H1.out.below hB4) (H2.out.below hB4) m1 m2).mono ?_
        rw [HR.out]
        rintro e w5 ⟨rfl, hb5⟩
        clear a0 a1
        have hB5 := hB4.trans (hb5.mono hB4.size)
        have hk5 := hk4.below hb5 hk4.lt
        clear hB4 hk4 hb5
        have a0 := hk5.cell 0; have a1 := hk5.cell 1; simp only [List.getElem?_toArray, List.getElem?_cons_zero, List.getElem?_cons_succ] at a0 a1
        go_wp2_with fail
        go_roundw
        case rel => exact ⟨k + 1, n, rfl, by rw [← HDD.out]; simp [Int.add_assoc], by have := HDD.out; omega, by omega, by omega, e1, hB5, hk5⟩
        case measure => simp [intOf]; omega
    · have hk : k = (L - pr).toNat := by omega
      have hn : n = 5 := by rw [hcn.out, hk]; exact H5.out
      subst hn
      clear hcn hn0 hnk hk
      go_wp2_with fail
      refine (rests_any c A1 n1 c1 A2 n2 c2 L _ (H1.out.below hB4) (H2.out.below hB4) m1 m2).mono ?_
      rw [HRL.out]
      rintro e w5 ⟨rfl, hb5⟩
      clear a0 a1
      have hB5 := hB4.trans (hb5.mono hB4.size)
      have hk5 := hk4.below hb5 hk4.lt
      clear hB4 hk4 hb5
      have a0 := hk5.cell 0; have a1 := hk5.cell 1; simp only [List.getElem?_toArray, List.getElem?_cons_zero, List.getElem?_cons_succ] at a0 a1
      go_wp2_with fail
      refine (between_any c A1 n1 c1 A2 n2 c2 (pr + 1) L _ (H1.out.below hB5) (H2.out.below hB5) m1 m2).mono ?_
      rw [H4.out]
      rintro e w6 ⟨rfl, hb6⟩
      clear a0 a1
      have hB6 := hB5.trans (hb6.mono hB5.size)
      have hk6 := hk5.below hb6 hk5.lt
      clear hB5 hk5 hb6
      have a0 := hk6.cell 0; have a1 := hk6.cell 1; simp only [List.getElem?_toArray, List.getElem?_cons_zero, List.getElem?_cons_succ] at a0 a1
      cases fa
      · have QA : Hid (∀ x : BW w6, Calls Tryd.prog 10 #[.agg #[.slice A1 n1 c1, .slice A2 n2 c2], .int .i64 pr, .int .i64 L, .slice none 0 0, .slice none 0 0] (wof x) fun e w' => e = .returned (.int .i64 0) ∧ Below (wof x).heap.size (wof x) w') := Lib.hid (fun x => answer_any c A1 n1 c1 A2 n2 c2 pr L none 0 0 [] none 0 0 [] _ (H1.out.below (hB6.trans ((wof_below x).mono hB6.size))) (H2.out.below (hB6.trans ((wof_below x).mono hB6.size))) m1 m2 SliceOf.none_ SliceOf.none_ (by simp) (by simp) (by omega) (by omega))
        have QB : Hid (∀ x : BW w6, Calls Tryd.prog 10 #[.agg #[.slice A1 n1 c1, .slice A2 n2 c2], .int .i64 pr, .int .i64 (L + 1), .slice none 0 0, .slice none 0 0] (wof x) fun e w' => e = .returned (.int .i64 0) ∧ Below (wof x).heap.size (wof x) w') := Lib.hid (fun x => answer_any c A1 n1 c1 A2 n2 c2 pr (L + 1) none 0 0 [] none 0 0 [] _ (H1.out.below (hB6.trans ((wof_below x).mono hB6.size))) (H2.out.below (hB6.trans ((wof_below x).mono hB6.size))) m1 m2 SliceOf.none_ SliceOf.none_ (by simp) (by simp) (by omega) (by omega))
        have c0 := wof_cell a0; have c1 := wof_cell a1
        go_wp2_with fail
        refine wp_region_quiet_below (by kernel_rfl) (by kernel_rfl) ?_
        repeat (go_big_quiet_step ((first | (go_at_call 10; first | (with_reducible exact quiet_below (QA.out _)) | (with_reducible exact quiet_below (QB.out _))))))
        refine wpQuiet_nil ?_
        intro w7 hb7
        clear a0 a1
        have hB7 := hB6.trans (hb7.mono hB6.size)
        have hk7 := hk6.below hb7 hk6.lt
        clear hB6 hk6 hb7
        have a0 := hk7.cell 0; have a1 := hk7.cell 1; simp only [List.getElem?_toArray, List.getElem?_cons_zero, List.getElem?_cons_succ] at a0 a1
        clear c0 c1 QA QB
        go_wp2_with fail
        refine (precl_any c A1 n1 c1 A2 n2 c2 pr L false _ (H1.out.below hB7) (H2.out.below hB7) m1 m2).mono ?_
        rw [HP1.out]
        rintro e w8 ⟨rfl, hb8⟩
        clear a0 a1
        have hB8 := hB7.trans (hb8.mono hB7.size)
        have hk8 := hk7.below hb8 hk7.lt
        clear hB7 hk7 hb8
        have a0 := hk8.cell 0; have a1 := hk8.cell 1; simp only [List.getElem?_toArray, List.getElem?_cons_zero, List.getElem?_cons_succ] at a0 a1
        go_wp2_with fail
        refine (precl_any c A1 n1 c1 A2 n2 c2 pr (L + 1) false _ (H1.out.below hB8) (H2.out.below hB8) m1 m2).mono ?_
        rw [HP2.out]
        rintro e w9 ⟨rfl, hb9⟩
        clear a0 a1
        have hB9 := hB8.trans (hb9.mono hB8.size)
        have hk9 := hk8.below hb9 hk8.lt
        clear hB8 hk8 hb9
        have a0 := hk9.cell 0; have a1 := hk9.cell 1; simp only [List.getElem?_toArray, List.getElem?_cons_zero, List.getElem?_cons_succ] at a0 a1
        go_wp2_with fail
        refine (expiry_any c A1 n1 c1 A2 n2 c2 ex _ (H1.out.below hB9) (H2.out.below hB9) m1 m2).mono ?_
        rw [HE.out, HIS.out]
        rintro e w10 ⟨rfl, hb10⟩
        clear a0 a1
        have hB10 := hB9.trans (hb10.mono hB9.size)
        have hk10 := hk9.below hb10 hk9.lt
        clear hB9 hk9 hb10
        have a0 := hk10.cell 0; have a1 := hk10.cell 1; simp only [List.getElem?_toArray, List.getElem?_cons_zero, List.getElem?_cons_succ] at a0 a1
        cases is
        · go_wp2_with fail
          go_ret
          exact ⟨rfl, hB10⟩
        · have he1 := HX1.out (by first | rfl | trivial)
          have t1 : decide (ex ≤ E) = true := decide_eq_true he1
          have HR1 := Lib.hid (HX2.out (by first | rfl | trivial))
          go_wp2_with fail
          refine (rests_any c A1 n1 c1 A2 n2 c2 E _ (H1.out.below hB10) (H2.out.below hB10) m1 m2).mono ?_
          rw [HR1.out]
          rintro e w11 ⟨rfl, hb11⟩
          clear a0 a1
          have hB11 := hB10.trans (hb11.mono hB10.size)
          have hk11 := hk10.below hb11 hk10.lt
          clear hB10 hk10 hb11
          have a0 := hk11.cell 0; have a1 := hk11.cell 1; simp only [List.getElem?_toArray, List.getElem?_cons_zero, List.getElem?_cons_succ] at a0 a1
          by_cases hee : E = ex
          · have t2 : (E == ex) = true := by simpa using hee
            go_wp2_with fail
            go_ret
            exact ⟨rfl, hB11⟩
          · have t2 : (E == ex) = false := by simpa using hee
            have HR2 := Lib.hid (HX3.out (by first | rfl | trivial) (fun q => hee q))
            clear hee
            go_wp2_with fail
            refine (rests_any c A1 n1 c1 A2 n2 c2 ex _ (H1.out.below hB11) (H2.out.below hB11) m1 m2).mono ?_
            rw [HR2.out]
            rintro e w12 ⟨rfl, hb12⟩
            clear a0 a1
            have hB12 := hB11.trans (hb12.mono hB11.size)
            have hk12 := hk11.below hb12 hk11.lt
            clear hB11 hk11 hb12
            go_wp2_with fail
            go_ret
            exact ⟨rfl, hB12⟩
      · obtain ⟨i0, hi, hz0, hz1, hz2⟩ := info_parts infoFa
        have HO6 := Lib.hid ((World.ownsRow_nil w6 w.heap.size 35 4).alloc (.cells #[.int .i64 0, .int .i64 0, .string ⟨#[115, 117, 109]⟩, .int .i64 2] 35))
        have HX6 := Lib.hid (hB6.alloc hB6.size (.cells #[.int .i64 0, .int .i64 0, .string ⟨#[115, 117, 109]⟩, .int .i64 2] 35))
        have HK6 := Lib.hid (hk6.alloc (.cells #[.int .i64 0, .int .i64 0, .string ⟨#[115, 117, 109]⟩, .int .i64 2] 35))
        have HNW := Lib.hid (news_at w6 #[.int .i64 0, .int .i64 0, .string ⟨#[115, 117, 109]⟩, .int .i64 2] 35 w6.heap.size rfl)
        have HSX : Hid (w.heap.size ≤ (w6.alloc (.cells #[.int .i64 0, .int .i64 0, .string ⟨#[115, 117, 109]⟩, .int .i64 2] 35)).heap.size) := Lib.hid (by rw [size_alloc]; have := hB6.size; omega)
        have hq0 : 0 < 4 := by omega
        have hq3 : 0 + 1 ≤ maxLen := by unfold maxLen; omega
        have hq4 : (0 + 1) * 40 ≤ 140737488355328 := by omega
        have hq5 : ∀ u ∈ ([.int .i64 0, .int .i64 0, .string ⟨#[115, 117, 109]⟩, .int .i64 2] : List Value), u.oneCell' = true := by simp [Value.oneCell']
        clear a0 a1
        go_upto_region 19 with (at_builtin; refine wpList_append_own_at _ rfl (.tmp 88) (.tmp 90) 33 rfl w.heap.size 35 i0 _ 4 40 Tryd.underlying33 hi hz0 hz1 hz2 rfl hq0 (.slice none 0 0) 0 [] rfl HO6.out ⟨w6.heap.size, 0, none⟩ 1 1 [.int .i64 0, .int .i64 0, .string ⟨#[115, 117, 109]⟩, .int .i64 2] rfl rfl HNW.out hq5 hq3 hq4 HSX.out ?_; intro v9 w9 hown9 hg9 hl0 hl1; have hB7 := below_grown_own HX6.out HSX.out HO6.out hg9; have hk7 := HK6.out.grown hg9 (by simp [Value.ownBlock]); have HO9 := Lib.hid hown9; clear hown9 hg9 hl0 hl1)
        obtain ⟨A9, c9, rfl⟩ := own_slice HO9.out
        have HS9 : Hid (SliceOf w9 4 faC A9 1 [fx]) := Lib.hid (SliceOf.of_own_s HO9.out (fun _ => rfl) rfl rfl)
        clear hB6 hk6 HO6 HX6 HK6 HNW HSX HO9
        have a0 := hk7.cell 0; have a1 := hk7.cell 1; simp only [List.getElem?_toArray, List.getElem?_cons_zero, List.getElem?_cons_succ] at a0 a1
        have QA : Hid (∀ x : BW w9, Calls Tryd.prog 10 #[.agg #[.slice A1 n1 c1, .slice A2 n2 c2], .int .i64 pr, .int .i64 L, .slice A9 1 c9, .slice A9 1 c9] (wof x) fun e w' => e = .returned (.int .i64 1) ∧ Below (wof x).heap.size (wof x) w') := Lib.hid (fun x => by have := answer_any c A1 n1 c1 A2 n2 c2 pr L A9 1 c9 [fx] A9 1 c9 [fx] (wof x) (H1.out.below (hB7.trans ((wof_below x).mono hB7.size))) (H2.out.below (hB7.trans ((wof_below x).mono hB7.size))) m1 m2 (HS9.out.below (wof_below x)) (HS9.out.below (wof_below x)) (by simp; exact fx_i) (by simp; exact fx_i) (by omega) (by omega); rwa [HI1.out] at this)
        have QB : Hid (∀ x : BW w9, Calls Tryd.prog 10 #[.agg #[.slice A1 n1 c1, .slice A2 n2 c2], .int .i64 pr, .int .i64 (L + 1), .slice A9 1 c9, .slice A9 1 c9] (wof x) fun e w' => e = .returned (.int .i64 2) ∧ Below (wof x).heap.size (wof x) w') := Lib.hid (fun x => by have := answer_any c A1 n1 c1 A2 n2 c2 pr (L + 1) A9 1 c9 [fx] A9 1 c9 [fx] (wof x) (H1.out.below (hB7.trans ((wof_below x).mono hB7.size))) (H2.out.below (hB7.trans ((wof_below x).mono hB7.size))) m1 m2 (HS9.out.below (wof_below x)) (HS9.out.below (wof_below x)) (by simp; exact fx_i) (by simp; exact fx_i) (by omega) (by omega); rwa [HI2.out] at this)
        have c0 := wof_cell a0; have c1 := wof_cell a1
        refine wp_region_quiet_below (by kernel_rfl) (by kernel_rfl) ?_
        repeat (go_big_quiet_step ((first | (go_at_call 10; first | (with_reducible exact quiet_below (QA.out _)) | (with_reducible exact quiet_below (QB.out _))))))
        refine wpQuiet_nil ?_
        intro w8 hb8
        clear a0 a1
        have hB8 := hB7.trans (hb8.mono hB7.size)
        have hk8 := hk7.below hb8 hk7.lt
        clear hB7 hk7 hb8
        have a0 := hk8.cell 0; have a1 := hk8.cell 1; simp only [List.getElem?_toArray, List.getElem?_cons_zero, List.getElem?_cons_succ] at a0 a1
        clear c0 c1 QA QB
        go_wp2_with fail
        refine (precl_any c A1 n1 c1 A2 n2 c2 pr L false _ (H1.out.below hB8) (H2.out.below hB8) m1 m2).mono ?_
        rw [HP1.out]
        rintro e w10 ⟨rfl, hb10⟩
        clear a0 a1
        have hB10 := hB8.trans (hb10.mono hB8.size)
        have hk10 := hk8.below hb10 hk8.lt
        clear hB8 hk8 hb10
        have a0 := hk10.cell 0; have a1 := hk10.cell 1; simp only [List.getElem?_toArray, List.getElem?_cons_zero, List.getElem?_cons_succ] at a0 a1
        go_wp2_with fail
        refine (precl_any c A1 n1 c1 A2 n2 c2 pr (L + 1) false _ (H1.out.below hB10) (H2.out.below hB10) m1 m2).mono ?_
        rw [HP2.out]
        rintro e w11 ⟨rfl, hb11⟩
        clear a0 a1
        have hB11 := hB10.trans (hb11.mono hB10.size)
        have hk11 := hk10.below hb11 hk10.lt
        clear hB10 hk10 hb11
        have a0 := hk11.cell 0; have a1 := hk11.cell 1; simp only [List.getElem?_toArray, List.getElem?_cons_zero, List.getElem?_cons_succ] at a0 a1
        go_wp2_with fail
        refine (expiry_any c A1 n1 c1 A2 n2 c2 ex _ (H1.out.below hB11) (H2.out.below hB11) m1 m2).mono ?_
        rw [HE.out, HIS.out]
        rintro e w12 ⟨rfl, hb12⟩
        clear a0 a1
        have hB12 := hB11.trans (hb12.mono hB11.size)
        have hk12 := hk11.below hb12 hk11.lt
        clear hB11 hk11 hb12
        have a0 := hk12.cell 0; have a1 := hk12.cell 1; simp only [List.getElem?_toArray, List.getElem?_cons_zero, List.getElem?_cons_succ] at a0 a1
        cases is
        · go_wp2_with fail
          go_ret
          exact ⟨rfl, hB12⟩
        · have he1 := HX1.out (by first | rfl | trivial)
          have t1 : decide (ex ≤ E) = true := decide_eq_true he1
          have HR1 := Lib.hid (HX2.out (by first | rfl | trivial))
          go_wp2_with fail
          refine (rests_any c A1 n1 c1 A2 n2 c2 E _ (H1.out.below hB12) (H2.out.below hB12) m1 m2).mono ?_
          rw [HR1.out]
          rintro e w13 ⟨rfl, hb13⟩
          clear a0 a1
          have hB13 := hB12.trans (hb13.mono hB12.size)
          have hk13 := hk12.below hb13 hk12.lt
          clear hB12 hk12 hb13
          have a0 := hk13.cell 0; have a1 := hk13.cell 1; simp only [List.getElem?_toArray, List.getElem?_cons_zero, List.getElem?_cons_succ] at a0 a1
          by_cases hee : E = ex
          · have t2 : (E == ex) = true := by simpa using hee
            go_wp2_with fail
            go_ret
            exact ⟨rfl, hB13⟩
          · have t2 : (E == ex) = false := by simpa using hee
            have HR2 := Lib.hid (HX3.out (by first | rfl | trivial) (fun q => hee q))
            clear hee
            go_wp2_with fail
            refine (rests_any c A1 n1 c1 A2 n2 c2 ex _ (H1.out.below hB13) (H2.out.below hB13) m1 m2).mono ?_
            rw [HR2.out]
            rintro e w14 ⟨rfl, hb14⟩
            clear a0 a1
            have hB14 := hB13.trans (hb14.mono hB13.size)
            have hk14 := hk13.below hb14 hk13.lt
            clear hB13 hk13 hb14
            go_wp2_with fail
            go_ret
            exact ⟨rfl, hB14⟩
theorem topTime_walk (c : Cal) (A1 : Option Addr) (n1 c1 : Nat) (A2 : Option Addr) (n2 c2 : Nat) (pr ex : Int) (fa : Bool) (w : World) (h1 : SliceOf w 1 intC A1 n1 c.rest) (h2 : SliceOf w 1 intC A2 n2 c.hol) (m1 : n1 ≤ maxLen) (m2 : n2 ≤ maxLen) (hp : 0 ≤ pr ∧ pr ≤ 65535) (hx : 0 ≤ ex ∧ ex ≤ 65535) (ht : PowTab w) : Calls Tryd.prog 3 #[.agg #[.slice A1 n1 c1, .slice A2 n2 c2], .int .u16 pr, .int .u16 ex, .bool fa] w fun e w' => e = .returned (.bool true) ∧ Below w.heap.size w w' := by
  by_cases g : 10 < n1 ∨ 30 < n2 ∨ mayB c = false
  · exact topTime_big c A1 n1 c1 A2 n2 c2 pr ex fa w h1 h2 m1 m2 ht g
  · exact topTime_ok c A1 n1 c1 A2 n2 c2 pr ex fa w h1 h2 m1 m2 hp hx ht (by omega) (by omega) (by
      cases h : mayB c
      · exact absurd (.inr (.inr h)) g
      · rfl)
end Go.Proofs.YtlicmhgpldmliaaDoor
