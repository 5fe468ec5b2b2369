/- Whether papers are too late, by the program and by the reference; the law. No condition. -/
import Derived.Test.YtfiflmgjcmmomaaLateB
namespace Go.Proofs.Ytfiflmgjcmmomaa
open Go.RowKit Go.Proofs.Ytfiflmgjcmmomaa.kit Go.Proofs.Ytfiflmgjcmmomaa.cal
set_option linter.unusedVariables false

theorem size_alloc (w : World) (o : Obj) : (w.alloc o).heap.size = w.heap.size + 1 := Array.size_push _
theorem Blk.newAt {w : World} {g : Nat} (t : TypeId) (cs : Array Value) (h : g = w.heap.size) : Blk (w.alloc (.cells cs t)) g t cs := h ▸ Blk.new _ _ _
theorem Blk.more {w : World} {g : Nat} {t : TypeId} {cs : Array Value} (h : Blk w g t cs) (o : Obj) : Blk (w.alloc o) g t cs := h.below ((Below.refl _ _).alloc (Nat.le_refl _) o) h.lt

theorem mem_new (w : World) (c : Cal) (A1 : Option Addr) (n1 c1 : Nat) (A2 : Option Addr) (n2 c2 : Nat) (r : Cr) (sh pr : Int) (g : Nat) (hg : g = w.heap.size) :
    Mem w c A1 n1 c1 A2 n2 c2 r sh pr g ((((((w.alloc (.cells #[.slice A1 n1 c1, .slice A2 n2 c2] 24)).alloc (.cells #[.string r.s0, .string r.s1, .string r.s2, .string r.s3, .string r.s4, .string r.s5, .string r.s6, .string r.cur, .int .i64 r.am, .int .i64 r.ab, .int .i64 r.be, .int .i64 r.la, .int .i64 r.ex, .int .i64 r.wi, .int .i64 r.te, .bool r.pa, .bool r.ch, .slice r.nA r.nn r.nc] 42)).alloc (.cells #[.int .i64 sh] 3)).alloc (.cells #[.int .i64 pr] 3)).alloc (.cells #[.int .i64 0] 3)).alloc (.cells #[.int .i64 1, .func (.func 34) #[] #[.pointer (some ⟨g + 2, 0, none⟩), .pointer (some ⟨g + 3, 0, none⟩), .pointer (some ⟨g + 1, 0, none⟩)], .int .i64 4, .func (.func 36) #[] #[.pointer (some ⟨g, 0, none⟩), .pointer (some ⟨g + 1, 0, none⟩), .pointer (some ⟨g + 4, 0, none⟩)], .int .i64 6, .func (.func 37) #[] #[.pointer (some ⟨g + 3, 0, none⟩), .pointer (some ⟨g + 2, 0, none⟩)], .int .i64 11, .func (.func 38) #[] #[.pointer (some ⟨g + 2, 0, none⟩), .pointer (some ⟨g + 1, 0, none⟩)], .int .i64 11, .func (.func 39) #[] #[.pointer (some ⟨g + 3, 0, none⟩), .pointer (some ⟨g, 0, none⟩), .pointer (some ⟨g + 2, 0, none⟩), .pointer (some ⟨g + 1, 0, none⟩), .pointer (some ⟨g + 4, 0, none⟩)]] 55)) 0 := by
  subst hg
  refine ⟨?_, Nat.le_refl _, ?_, ?_, ?_, ?_, ?_, ?_⟩
  · refine Below.alloc (Below.alloc (Below.alloc (Below.alloc (Below.alloc (Below.alloc (Below.refl _ _) ?_ _) ?_ _) ?_ _) ?_ _) ?_ _) ?_ _
    all_goals (try simp only [size_alloc]); omega
  · exact Blk.more (Blk.more (Blk.more (Blk.more (Blk.more (Blk.newAt _ _ rfl) _) _) _) _) _
  · exact Blk.more (Blk.more (Blk.more (Blk.more (Blk.newAt _ _ (by simp only [size_alloc])) _) _) _) _
  · exact Blk.more (Blk.more (Blk.more (Blk.newAt _ _ (by simp only [size_alloc])) _) _) _
  · exact Blk.more (Blk.more (Blk.newAt _ _ (by simp only [size_alloc])) _) _
  · exact Blk.more (Blk.newAt _ _ (by simp only [size_alloc])) _
  · exact Blk.newAt _ _ (by simp only [size_alloc])

theorem late_any (c : Cal) (A1 : Option Addr) (n1 c1 : Nat) (A2 : Option Addr) (n2 c2 : Nat) (r : Cr) (sh pr : Int) (w : World) (h1 : SliceOf w 1 intC A1 n1 c.rest) (h2 : SliceOf w 1 intC A2 n2 c.hol) (m1 : n1 ≤ maxLen) (m2 : n2 ≤ maxLen) :
    Calls Try.prog 22 #[.agg #[.slice A1 n1 c1, .slice A2 n2 c2], .agg #[.string r.s0, .string r.s1, .string r.s2, .string r.s3, .string r.s4, .string r.s5, .string r.s6, .string r.cur, .int .i64 r.am, .int .i64 r.ab, .int .i64 r.be, .int .i64 r.la, .int .i64 r.ex, .int .i64 r.wi, .int .i64 r.te, .bool r.pa, .bool r.ch, .slice r.nA r.nn r.nc], .int .i64 sh, .int .i64 pr] w fun e w' => e = .returned (.int .i64 (lateV c r sh pr)) ∧ Below w.heap.size w w' := by
  have HM := Lib.hid (mem_new w c A1 n1 c1 A2 n2 c2 r sh pr _ rfl)
  have H1 := Lib.hid h1; have H2 := Lib.hid h2
  clear h1 h2
  go_enter Try.func22, Try.ntmps22
  go_wp2_with fail
  refine (first_any w c A1 n1 c1 A2 n2 c2 r sh pr w.heap.size _ H1.out H2.out m1 m2 HM.out).mono ?_
  rintro e w1 ⟨rfl, hb1⟩
  go_wp2_with fail
  go_ret
  exact ⟨rfl, hb1⟩

theorem five_eq (r : Cr) (sh pr : Int) : fiveDays r sh pr = (isDayB sh && (isDayB pr && (isDayB r.la && (isDayB r.ex && isDayB r.wi)))) := by
  simp [fiveDays, allDays]
theorem lateV_eq (c : Cal) (r : Cr) (sh pr : Int) : lateV c r sh pr = if fiveDays r sh pr = true then (if (nextV c r.ex).2 = true then if pr < sh then 6 else if r.la < sh then 11 else if shipV c sh r.wi (nextV c r.ex).1 < pr then 11 else 0 else 4) else 1 := by
  unfold lateV badsV firstV firstV firstV firstV firstV firstV
  cases fiveDays r sh pr <;> cases (nextV c r.ex).2 <;> simp

set_option maxHeartbeats 1600000 in
theorem rlate_any (c : Cal) (A1 : Option Addr) (n1 c1 : Nat) (A2 : Option Addr) (n2 c2 : Nat) (r : Cr) (sh pr : Int) (w : World) (h1 : SliceOf w 1 intC A1 n1 c.rest) (h2 : SliceOf w 1 intC A2 n2 c.hol) (m1 : n1 ≤ maxLen) (m2 : n2 ≤ maxLen) :
    Calls Try.prog 23 #[.agg #[.slice A1 n1 c1, .slice A2 n2 c2], .agg #[.string r.s0, .string r.s1, .string r.s2, .string r.s3, .string r.s4, .string r.s5, .string r.s6, .string r.cur, .int .i64 r.am, .int .i64 r.ab, .int .i64 r.be, .int .i64 r.la, .int .i64 r.ex, .int .i64 r.wi, .int .i64 r.te, .bool r.pa, .bool r.ch, .slice r.nA r.nn r.nc], .int .i64 sh, .int .i64 pr] w fun e w' => e = .returned (.int .i64 (lateV c r sh pr)) ∧ Below w.heap.size w w' := by
  have H1 := Lib.hid h1
  have H2 := Lib.hid h2
  have l1 := h1.len
  have l2 := h2.len
  clear h1 h2
  have hB0 : Below w.heap.size w ((w.alloc (.cells #[.slice A1 n1 c1, .slice A2 n2 c2] 24)).alloc (.cells #[.string r.s0, .string r.s1, .string r.s2, .string r.s3, .string r.s4, .string r.s5, .string r.s6, .string r.cur, .int .i64 r.am, .int .i64 r.ab, .int .i64 r.be, .int .i64 r.la, .int .i64 r.ex, .int .i64 r.wi, .int .i64 r.te, .bool r.pa, .bool r.ch, .slice r.nA r.nn r.nc] 42)) := ((Below.refl _ _).alloc (Nat.le_refl _) _).alloc (by simp only [size_alloc]; omega) _
  have hk0 : Blk ((w.alloc (.cells #[.slice A1 n1 c1, .slice A2 n2 c2] 24)).alloc (.cells #[.string r.s0, .string r.s1, .string r.s2, .string r.s3, .string r.s4, .string r.s5, .string r.s6, .string r.cur, .int .i64 r.am, .int .i64 r.ab, .int .i64 r.be, .int .i64 r.la, .int .i64 r.ex, .int .i64 r.wi, .int .i64 r.te, .bool r.pa, .bool r.ch, .slice r.nA r.nn r.nc] 42)) w.heap.size 24 #[.slice A1 n1 c1, .slice A2 n2 c2] := Blk.more (Blk.new _ _ _) _
  have hj0 : Blk ((w.alloc (.cells #[.slice A1 n1 c1, .slice A2 n2 c2] 24)).alloc (.cells #[.string r.s0, .string r.s1, .string r.s2, .string r.s3, .string r.s4, .string r.s5, .string r.s6, .string r.cur, .int .i64 r.am, .int .i64 r.ab, .int .i64 r.be, .int .i64 r.la, .int .i64 r.ex, .int .i64 r.wi, .int .i64 r.te, .bool r.pa, .bool r.ch, .slice r.nA r.nn r.nc] 42)) (w.heap.size + 1) 42 #[.string r.s0, .string r.s1, .string r.s2, .string r.s3, .string r.s4, .string r.s5, .string r.s6, .string r.cur, .int .i64 r.am, .int .i64 r.ab, .int .i64 r.be, .int .i64 r.la, .int .i64 r.ex, .int .i64 r.wi, .int .i64 r.te, .bool r.pa, .bool r.ch, .slice r.nA r.nn r.nc] := Blk.newAt _ _ (by simp only [size_alloc])
  have hv := lateV_eq c r sh pr
  have h5 := five_eq r sh pr
  have hw5 : isDayB r.wi = decide (0 ≤ r.wi ∧ r.wi ≤ 1048576) := rfl
  cases q1 : isDayB sh
  · have ev : Hid (1 = lateV c r sh pr) := Lib.hid (by rw [hv, h5, q1]; rfl)
    have Q1 := Lib.hid q1
    clear hv h5 q1 hw5
    go_enter Try.func23, Try.ntmps23
    go_wp2_with fail; refine (ris_any sh _).mono ?_; rw [Q1.out]; rintro e w1 ⟨rfl, rfl⟩
    go_wp2_with fail; go_ret; exact ⟨ret_int ev.out, hB0⟩
  cases q2 : isDayB pr
  · have ev : Hid (1 = lateV c r sh pr) := Lib.hid (by rw [hv, h5, q1, q2]; rfl)
    have Q1 := Lib.hid q1; have Q2 := Lib.hid q2
    clear hv h5 q1 q2 hw5
    go_enter Try.func23, Try.ntmps23
    go_wp2_with fail; refine (ris_any sh _).mono ?_; rw [Q1.out]; rintro e w1 ⟨rfl, rfl⟩
    go_wp2_with fail; refine (ris_any pr _).mono ?_; rw [Q2.out]; rintro e w2 ⟨rfl, rfl⟩
    go_wp2_with fail; go_ret; exact ⟨ret_int ev.out, hB0⟩
  cases q3 : isDayB r.la
  · have ev : Hid (1 = lateV c r sh pr) := Lib.hid (by rw [hv, h5, q1, q2, q3]; rfl)
    have Q1 := Lib.hid q1; have Q2 := Lib.hid q2; have Q3 := Lib.hid q3
    clear hv h5 q1 q2 q3 hw5
    go_enter Try.func23, Try.ntmps23
    go_wp2_with fail; refine (ris_any sh _).mono ?_; rw [Q1.out]; rintro e w1 ⟨rfl, rfl⟩
    go_wp2_with fail; refine (ris_any pr _).mono ?_; rw [Q2.out]; rintro e w2 ⟨rfl, rfl⟩
    go_wp2_with fail; refine (ris_any r.la _).mono ?_; rw [Q3.out]; rintro e w3 ⟨rfl, rfl⟩
    go_wp2_with fail; go_ret; exact ⟨ret_int ev.out, hB0⟩
  cases q4 : isDayB r.ex
  · have ev : Hid (1 = lateV c r sh pr) := Lib.hid (by rw [hv, h5, q1, q2, q3, q4]; rfl)
    have Q1 := Lib.hid q1; have Q2 := Lib.hid q2; have Q3 := Lib.hid q3; have Q4 := Lib.hid q4
    clear hv h5 q1 q2 q3 q4 hw5
    go_enter Try.func23, Try.ntmps23
    go_wp2_with fail; refine (ris_any sh _).mono ?_; rw [Q1.out]; rintro e w1 ⟨rfl, rfl⟩
    go_wp2_with fail; refine (ris_any pr _).mono ?_; rw [Q2.out]; rintro e w2 ⟨rfl, rfl⟩
    go_wp2_with fail; refine (ris_any r.la _).mono ?_; rw [Q3.out]; rintro e w3 ⟨rfl, rfl⟩
    go_wp2_with fail; refine (ris_any r.ex _).mono ?_; rw [Q4.out]; rintro e w4 ⟨rfl, rfl⟩
    go_wp2_with fail; go_ret; exact ⟨ret_int ev.out, hB0⟩
  by_cases q5 : r.wi < 0
  · have ev : Hid (1 = lateV c r sh pr) := Lib.hid (by rw [hv, h5, hw5, decide_eq_false (by omega), q1, q2, q3, q4]; rfl)
    have Q1 := Lib.hid q1; have Q2 := Lib.hid q2; have Q3 := Lib.hid q3; have Q4 := Lib.hid q4
    clear hv h5 q1 q2 q3 q4 hw5
    go_enter Try.func23, Try.ntmps23
    go_wp2_with fail; refine (ris_any sh _).mono ?_; rw [Q1.out]; rintro e w1 ⟨rfl, rfl⟩
    go_wp2_with fail; refine (ris_any pr _).mono ?_; rw [Q2.out]; rintro e w2 ⟨rfl, rfl⟩
    go_wp2_with fail; refine (ris_any r.la _).mono ?_; rw [Q3.out]; rintro e w3 ⟨rfl, rfl⟩
    go_wp2_with fail; refine (ris_any r.ex _).mono ?_; rw [Q4.out]; rintro e w4 ⟨rfl, rfl⟩
    go_wp2_with fail; go_ret; exact ⟨ret_int ev.out, hB0⟩
  by_cases q6 : 1048576 < r.wi
  · have ev : Hid (1 = lateV c r sh pr) := Lib.hid (by rw [hv, h5, hw5, decide_eq_false (by omega), q1, q2, q3, q4]; rfl)
    have Q1 := Lib.hid q1; have Q2 := Lib.hid q2; have Q3 := Lib.hid q3; have Q4 := Lib.hid q4
    clear hv h5 q1 q2 q3 q4 hw5
    go_enter Try.func23, Try.ntmps23
    go_wp2_with fail; refine (ris_any sh _).mono ?_; rw [Q1.out]; rintro e w1 ⟨rfl, rfl⟩
    go_wp2_with fail; refine (ris_any pr _).mono ?_; rw [Q2.out]; rintro e w2 ⟨rfl, rfl⟩
    go_wp2_with fail; refine (ris_any r.la _).mono ?_; rw [Q3.out]; rintro e w3 ⟨rfl, rfl⟩
    go_wp2_with fail; refine (ris_any r.ex _).mono ?_; rw [Q4.out]; rintro e w4 ⟨rfl, rfl⟩
    go_wp2_with fail; go_ret; exact ⟨ret_int ev.out, hB0⟩
  have hs5 : 0 ≤ sh ∧ sh ≤ 1048576 := of_decide_eq_true q1
  obtain ⟨z0, z1⟩ := hs5
  have hv2 : lateV c r sh pr = if (nextV c r.ex).2 = true then if pr < sh then 6 else if r.la < sh then 11 else if shipV c sh r.wi (nextV c r.ex).1 < pr then 11 else 0 else 4 := by
    rw [hv, if_pos (by rw [h5, hw5, decide_eq_true (by omega), q1, q2, q3, q4]; rfl)]
  have Q1 := Lib.hid q1; have Q2 := Lib.hid q2; have Q3 := Lib.hid q3; have Q4 := Lib.hid q4
  unfold shipV at hv2
  clear hv h5 q1 q2 q3 q4 hw5
  obtain ⟨N, hN⟩ : ∃ N, (nextV c r.ex).1 = N := ⟨_, rfl⟩
  obtain ⟨ok, hok⟩ : ∃ ok, (nextV c r.ex).2 = ok := ⟨_, rfl⟩
  obtain ⟨M, hM⟩ : ∃ N, (nextV c (sh + r.wi)).1 = N := ⟨_, rfl⟩
  obtain ⟨ko, hko⟩ : ∃ ok, (nextV c (sh + r.wi)).2 = ok := ⟨_, rfl⟩
  rw [hN, hok, hM, hko] at hv2
  have HN := Lib.hid hN; have HO := Lib.hid hok; have HM := Lib.hid hM; have HK := Lib.hid hko
  have HV := Lib.hid hv2
  clear hN hok hM hko hv2
  go_enter Try.func23, Try.ntmps23
  go_wp2_with fail; refine (ris_any sh _).mono ?_; rw [Q1.out]; rintro e w1 ⟨rfl, rfl⟩
  go_wp2_with fail; refine (ris_any pr _).mono ?_; rw [Q2.out]; rintro e w2 ⟨rfl, rfl⟩
  go_wp2_with fail; refine (ris_any r.la _).mono ?_; rw [Q3.out]; rintro e w3 ⟨rfl, rfl⟩
  go_wp2_with fail; refine (ris_any r.ex _).mono ?_; rw [Q4.out]; rintro e w4 ⟨rfl, rfl⟩
  go_wp2_with fail
  refine (rexpiry_any c A1 n1 c1 A2 n2 c2 r.ex _ (H1.out.below hB0) (H2.out.below hB0) m1 m2).mono ?_
  rw [HN.out, HO.out]
  rintro e w1 ⟨rfl, hb1⟩
  have hj1 := hj0.below hb1 hj0.lt
  have hB1 := hB0.trans (hb1.mono hB0.size)
  have hk1 := hk0.below hb1 hk0.lt
  clear hB0 hk0 hb1
  clear hj0
  have a0 := hk1.cell 0; have a1 := hk1.cell 1; simp only [List.getElem?_toArray, List.getElem?_cons_zero, List.getElem?_cons_succ] at a0 a1
  have b11 := hj1.cell 11; have b12 := hj1.cell 12; have b13 := hj1.cell 13
  simp only [List.getElem?_toArray, List.getElem?_cons_zero, List.getElem?_cons_succ] at b11 b12 b13
  cases ok
  · have ev : Hid (4 = lateV c r sh pr) := Lib.hid (by rw [HV.out]; rfl)
    go_wp2_with fail
    go_ret
    exact ⟨ret_int ev.out, hB1⟩
  by_cases p1 : pr < sh
  · have ev : Hid (6 = lateV c r sh pr) := Lib.hid (by rw [HV.out, if_pos rfl, if_pos p1])
    go_wp2_with fail
    go_ret
    exact ⟨ret_int ev.out, hB1⟩
  have HV2 : Hid (lateV c r sh pr = if r.la < sh then 11 else if (if ko = true ∧ M ≤ N then M else N) < pr then 11 else 0) := Lib.hid (by rw [HV.out, if_pos rfl, if_neg p1])
  clear HV
  go_wp2_with fail
  refine (rexpiry_any c A1 n1 c1 A2 n2 c2 (sh + r.wi) _ (H1.out.below hB1) (H2.out.below hB1) m1 m2).mono ?_
  rw [HM.out, HK.out]
  rintro e w2 ⟨rfl, hb2⟩
  have hj2 := hj1.below hb2 hj1.lt
  clear a0 a1
  have hB2 := hB1.trans (hb2.mono hB1.size)
  have hk2 := hk1.below hb2 hk1.lt
  clear hB1 hk1 hb2
  clear hj1 b11 b12 b13
  have a0 := hk2.cell 0; have a1 := hk2.cell 1; simp only [List.getElem?_toArray, List.getElem?_cons_zero, List.getElem?_cons_succ] at a0 a1
  have b11 := hj2.cell 11; have b12 := hj2.cell 12; have b13 := hj2.cell 13
  simp only [List.getElem?_toArray, List.getElem?_cons_zero, List.getElem?_cons_succ] at b11 b12 b13
  by_cases p2 : r.la < sh
  · have ev : Hid (11 = lateV c r sh pr) := Lib.hid (by rw [HV2.out, if_pos p2])
    by_cases p3 : M < N
    all_goals
      cases ko
      all_goals
        go_wp2_with fail
        go_ret
        exact ⟨ret_int ev.out, hB2⟩
  by_cases p3 : M < N
  · cases ko
    · by_cases p4 : N < pr
      · have ev : Hid (11 = lateV c r sh pr) := Lib.hid (by rw [HV2.out, if_neg p2, if_neg (c := false = true ∧ M ≤ N) (by simp), if_pos p4])
        go_wp2_with fail
        go_ret
        exact ⟨ret_int ev.out, hB2⟩
      · have ev : Hid (0 = lateV c r sh pr) := Lib.hid (by rw [HV2.out, if_neg p2, if_neg (c := false = true ∧ M ≤ N) (by simp), if_neg p4])
        go_wp2_with fail
        go_ret
        exact ⟨ret_int ev.out, hB2⟩
    · by_cases p4 : M < pr
      · have ev : Hid (11 = lateV c r sh pr) := Lib.hid (by rw [HV2.out, if_neg p2, if_pos (c := true = true ∧ M ≤ N) ⟨rfl, by omega⟩, if_pos p4])
        go_wp2_with fail
        go_ret
        exact ⟨ret_int ev.out, hB2⟩
      · have ev : Hid (0 = lateV c r sh pr) := Lib.hid (by rw [HV2.out, if_neg p2, if_pos (c := true = true ∧ M ≤ N) ⟨rfl, by omega⟩, if_neg p4])
        go_wp2_with fail
        go_ret
        exact ⟨ret_int ev.out, hB2⟩
  · have hE : (if ko = true ∧ M ≤ N then M else N) = N := by
      by_cases h : ko = true ∧ M ≤ N
      · rw [if_pos h]; omega
      · rw [if_neg h]
    by_cases p4 : N < pr
    · have ev : Hid (11 = lateV c r sh pr) := Lib.hid (by rw [HV2.out, if_neg p2, hE, if_pos p4])
      clear hE
      cases ko
      all_goals
        go_wp2_with fail
        go_ret
        exact ⟨ret_int ev.out, hB2⟩
    · have ev : Hid (0 = lateV c r sh pr) := Lib.hid (by rw [HV2.out, if_neg p2, hE, if_neg p4])
      clear hE
      cases ko
      all_goals
        go_wp2_with fail
        go_ret
        exact ⟨ret_int ev.out, hB2⟩

end Go.Proofs.Ytfiflmgjcmmomaa
