/- NoticeTold: whoever tells one fault that there is, in time, refuses rightly; a fault that there isn't counts for nothing. No condition. -/
import Derived.Test.YtfiflmgjcmmomaaAnswer
import Derived.Deep.RegionLaw
import Derived.Deep.DeepCutAuto
namespace Go.Proofs.Ytfiflmgjcmmomaa
open Go.RowKit Go.Proofs.Ytfiflmgjcmmomaa.kit Go.Proofs.Ytfiflmgjcmmomaa.cal
set_option linter.unusedVariables false

theorem infoFa : (Try.prog.info? 36).map (fun i => (i.zero, i.size, i.bytes)) = some (some (.agg #[.int .i64 0, .int .i64 0, .string ⟨#[]⟩, .int .i64 0]), 4, 40) := by kernel_rfl
theorem fas_one (u : List Fa) : ∀ v ∈ u.flatMap faC, v.oneCell' = true := by
  intro v hv
  obtain ⟨x, _, hx⟩ := List.mem_flatMap.1 hv
  simp [faC] at hx
  rcases hx with rfl | rfl | rfl | rfl <;> rfl
theorem counts_with {fs ts : List Fa} {k : Nat} {x : Fa} (hx : fs[k]? = some x) : countsV fs (ts ++ [x]) = true := by
  unfold countsV
  rw [List.any_append]
  simp [hasF_at hx]
def otherF (fs ts : List Fa) : List Fa := ts.filter (fun t => !hasF fs t)
theorem counts_other (fs ts : List Fa) : countsV fs (otherF fs ts) = false := by
  unfold countsV otherF
  rw [List.any_eq_false]
  intro x hx
  have := (List.mem_filter.1 hx).2
  simpa using this
theorem other_take {fs ts : List Fa} {k : Nat} {x : Fa} (hx : ts[k]? = some x) : otherF fs (ts.take (k + 1)) = otherF fs (ts.take k) ++ (if hasF fs x then [] else [x]) := by
  unfold otherF
  rw [List.take_add_one, hx, List.filter_append]
  cases h : hasF fs x <;> simp [h]
theorem own_drewN {w : World} {B : Nat} {e : TypeId} {size m : Nat} {v : Value} {ys : List Value} (h : w.ownsRow B e size v m ys) (q : Nat) : (w.drewN q).ownsRow B e size v m ys := h
theorem other_len (fs ts : List Fa) : (otherF fs ts).length ≤ ts.length := List.length_filter_le _ _
theorem fa_all {fs : List Fa} {x : Fa} (h : ∀ y ∈ fs, faI y) (hx : x ∈ fs) : faI x := h x hx

set_option maxRecDepth 100000 in
set_option maxHeartbeats 1600000 in
theorem noticeTold_walk (c : Cal) (A1 : Option Addr) (n1 c1 : Nat) (A2 : Option Addr) (n2 c2 : Nat) (p a : Int) (A : Option Addr) (n cn : Nat) (fs : List Fa) (A' : Option Addr) (n' cn' : Nat) (ts : List Fa) (kk : Int) (w : World) (h1 : SliceOf w 1 intC A1 n1 c.rest) (h2 : SliceOf w 1 intC A2 n2 c.hol) (m1 : n1 ≤ maxLen) (m2 : n2 ≤ maxLen) (hx : SliceOf w 4 faC A n fs) (hx' : SliceOf w 4 faC A' n' ts) (hi : ∀ y ∈ fs, faI y) (hi' : ∀ y ∈ ts, faI y) (hm : n ≤ maxLen) (hm' : n' ≤ maxLen) :
    Calls Try.prog 6 #[.agg #[.slice A1 n1 c1, .slice A2 n2 c2], .int .i64 p, .int .i64 a, .slice A n cn, .slice A' n' cn', .int .i64 kk] w fun e w' => e = .returned (.bool true) ∧ Below w.heap.size w w' := by
  have HX := Lib.hid hx
  have HX' := Lib.hid hx'
  have HI := Lib.hid hi
  have HI' := Lib.hid hi'
  have hxl := hx.len
  have hxl' := hx'.len
  clear hx hx' hi hi'
  have H1 := Lib.hid h1
  have H2 := Lib.hid h2
  have l1 := h1.len
  have l2 := h2.len
  clear h1 h2
  have hB0 : Below w.heap.size w (w.alloc (.cells #[.slice A1 n1 c1, .slice A2 n2 c2] 24)) := (Below.refl _ _).alloc (Nat.le_refl _) _
  have hk0 : Blk (w.alloc (.cells #[.slice A1 n1 c1, .slice A2 n2 c2] 24)) w.heap.size 24 #[.slice A1 n1 c1, .slice A2 n2 c2] := Blk.new _ _ _
  go_enter Try.func6, Try.ntmps6
  go_wp2_with fail
  refine (awake_any _).mono ?_
  rintro e w1 ⟨rfl, hb1⟩
  have hB1 := hB0.trans (hb1.mono hB0.size)
  have hk1 := hk0.below hb1 hk0.lt
  clear hB0 hk0 hb1
  have a0 := hk1.cell 0; have a1 := hk1.cell 1; simp only [List.getElem?_toArray, List.getElem?_cons_zero, List.getElem?_cons_succ] at a0 a1
  obtain ⟨L, hL⟩ : ∃ L, (dlV c p).1 = L := ⟨_, rfl⟩
  obtain ⟨ok, hok⟩ : ∃ ok, (dlV c p).2 = ok := ⟨_, rfl⟩
  have HK := Lib.hid hok; have HL := Lib.hid hL
  clear hL hok
  by_cases hall : fewB n1 n2 = true ∧ ok = true ∧ n ≠ 0 ∧ n ≤ 30 ∧ n' ≤ 30 ∧ 0 ≤ kk ∧ kk < n
  case neg =>
    obtain ⟨F, hF⟩ : ∃ F, fewB n1 n2 = F := ⟨_, rfl⟩
    have HF := Lib.hid hF
    rw [hF] at hall
    clear hF
    cases F
    · clear hall
      go_wp2_with fail
      refine (deadline_any c A1 n1 c1 A2 n2 c2 p _ (H1.out.below hB1) (H2.out.below hB1) m1 m2).mono ?_
      rw [HK.out, HL.out]
      rintro e w2 ⟨rfl, hb2⟩
      clear a0 a1
      have hB2 := hB1.trans (hb2.mono hB1.size)
      have hk2 := hk1.below hb2 hk1.lt
      clear hB1 hk1 hb2
      have a0 := hk2.cell 0; have a1 := hk2.cell 1; simp only [List.getElem?_toArray, List.getElem?_cons_zero, List.getElem?_cons_succ] at a0 a1
      go_wp2_with fail
      refine (few_any A1 n1 c1 A2 n2 c2 _ m1 m2).mono ?_
      rw [HF.out]
      rintro e w3 ⟨rfl, hb3⟩
      clear a0 a1
      have hB3 := hB2.trans (hb3.mono hB2.size)
      have hk3 := hk2.below hb3 hk2.lt
      clear hB2 hk2 hb3
      have a0 := hk3.cell 0; have a1 := hk3.cell 1; simp only [List.getElem?_toArray, List.getElem?_cons_zero, List.getElem?_cons_succ] at a0 a1
      cases ok
      all_goals
        go_wp2_with fail
        all_goals go_ret
        all_goals exact ⟨rfl, hB3⟩
    cases ok
    · clear hall
      go_wp2_with fail
      refine (deadline_any c A1 n1 c1 A2 n2 c2 p _ (H1.out.below hB1) (H2.out.below hB1) m1 m2).mono ?_
      rw [HK.out, HL.out]
      rintro e w2 ⟨rfl, hb2⟩
      clear a0 a1
      have hB2 := hB1.trans (hb2.mono hB1.size)
      have hk2 := hk1.below hb2 hk1.lt
      clear hB1 hk1 hb2
      have a0 := hk2.cell 0; have a1 := hk2.cell 1; simp only [List.getElem?_toArray, List.getElem?_cons_zero, List.getElem?_cons_succ] at a0 a1
      go_wp2_with fail
      refine (few_any A1 n1 c1 A2 n2 c2 _ m1 m2).mono ?_
      rw [HF.out]
      rintro e w3 ⟨rfl, hb3⟩
      clear a0 a1
      have hB3 := hB2.trans (hb3.mono hB2.size)
      have hk3 := hk2.below hb3 hk2.lt
      clear hB2 hk2 hb3
      have a0 := hk3.cell 0; have a1 := hk3.cell 1; simp only [List.getElem?_toArray, List.getElem?_cons_zero, List.getElem?_cons_succ] at a0 a1
      go_wp2_with fail
      all_goals go_ret
      all_goals exact ⟨rfl, hB3⟩
    have HALL := Lib.hid hall
    clear hall
    go_wp2_with fail
    refine (deadline_any c A1 n1 c1 A2 n2 c2 p _ (H1.out.below hB1) (H2.out.below hB1) m1 m2).mono ?_
    rw [HK.out, HL.out]
    rintro e w2 ⟨rfl, hb2⟩
    clear a0 a1
    have hB2 := hB1.trans (hb2.mono hB1.size)
    have hk2 := hk1.below hb2 hk1.lt
    clear hB1 hk1 hb2
    have a0 := hk2.cell 0; have a1 := hk2.cell 1; simp only [List.getElem?_toArray, List.getElem?_cons_zero, List.getElem?_cons_succ] at a0 a1
    go_wp2_with fail
    refine (few_any A1 n1 c1 A2 n2 c2 _ m1 m2).mono ?_
    rw [HF.out]
    rintro e w3 ⟨rfl, hb3⟩
    clear a0 a1
    have hB3 := hB2.trans (hb3.mono hB2.size)
    have hk3 := hk2.below hb3 hk2.lt
    clear hB2 hk2 hb3
    have a0 := hk3.cell 0; have a1 := hk3.cell 1; simp only [List.getElem?_toArray, List.getElem?_cons_zero, List.getElem?_cons_succ] at a0 a1
    by_cases q1 : n = 0
    · have q1' : ((n : Int) == 0) = true := by simp [q1]
      clear q1
      go_wp2_with fail
      all_goals go_ret
      all_goals exact ⟨rfl, hB3⟩
    have q1' : ((n : Int) == 0) = false := by simp [q1]
    by_cases q2 : 30 < n
    · have q2' : (30 : Int) < (n : Int) := by omega
      clear q1
      go_wp2_with fail
      all_goals go_ret
      all_goals exact ⟨rfl, hB3⟩
    have q2' : ¬ (30 : Int) < (n : Int) := by omega
    by_cases q3 : 30 < n'
    · have q3' : (30 : Int) < (n' : Int) := by omega
      clear q1
      go_wp2_with fail
      all_goals go_ret
      all_goals exact ⟨rfl, hB3⟩
    have q3' : ¬ (30 : Int) < (n' : Int) := by omega
    by_cases q4 : kk < 0
    · clear q1
      go_wp2_with fail
      all_goals go_ret
      all_goals exact ⟨rfl, hB3⟩
    have q5 : (n : Int) ≤ kk := by
      rcases Int.lt_or_le kk n with h | h
      · exact (HALL.out (by first | exact ⟨trivial, trivial, q1, by omega, by omega, by omega, h⟩ | exact ⟨rfl, rfl, q1, by omega, by omega, by omega, h⟩)).elim
      · exact h
    clear q1
    go_wp2_with fail
    all_goals go_ret
    all_goals exact ⟨rfl, hB3⟩
  obtain ⟨hF, rfl, q1, q2, q3, q4, q5⟩ := hall
  obtain ⟨k, rfl⟩ : ∃ k : Nat, kk = k := ⟨kk.toNat, by omega⟩
  have hkn : k < n := by omega
  have HF := Lib.hid hF
  have q1' : ((n : Int) == 0) = false := by simp [q1]
  have q2' : ¬ (30 : Int) < (n : Int) := by omega
  have q3' : ¬ (30 : Int) < (n' : Int) := by omega
  obtain ⟨x, hxk⟩ : ∃ x, fs[k]? = some x := ⟨_, List.getElem?_eq_getElem (by omega)⟩
  obtain ⟨b, off, rfl, hb_c, hc⟩ := HX.out.at_ (by omega)
  have HK2 := Lib.hid hxk
  have HC := Lib.hid hc
  clear hF q1 hxk hc
  go_wp2_with fail
  refine (deadline_any c A1 n1 c1 A2 n2 c2 p _ (H1.out.below hB1) (H2.out.below hB1) m1 m2).mono ?_
  rw [HK.out, HL.out]
  rintro e w2 ⟨rfl, hb2⟩
  clear a0 a1
  have hB2 := hB1.trans (hb2.mono hB1.size)
  have hk2 := hk1.below hb2 hk1.lt
  clear hB1 hk1 hb2
  have a0 := hk2.cell 0; have a1 := hk2.cell 1; simp only [List.getElem?_toArray, List.getElem?_cons_zero, List.getElem?_cons_succ] at a0 a1
  go_wp2_with fail
  refine (few_any A1 n1 c1 A2 n2 c2 _ m1 m2).mono ?_
  rw [HF.out]
  rintro e w3 ⟨rfl, hb3⟩
  clear a0 a1
  have hB3 := hB2.trans (hb3.mono hB2.size)
  have hk3 := hk2.below hb3 hk2.lt
  clear hB2 hk2 hb3
  have a0 := hk3.cell 0; have a1 := hk3.cell 1; simp only [List.getElem?_toArray, List.getElem?_cons_zero, List.getElem?_cons_succ] at a0 a1
  obtain ⟨inn, hin⟩ : ∃ inn, decide (p ≤ a ∧ a ≤ L) = inn := ⟨_, rfl⟩
  have HIN := Lib.hid hin
  clear hin
  go_upto_region 6 with (fail)
  go_cut [15] (fun v wx => v = .bool inn ∧ wx = w3)
  case first =>
    by_cases r1 : p ≤ a
    · have r1' : decide (p ≤ a) = true := decide_eq_true r1
      go_wp2_with fail
      go_meet
      exact ⟨by rw [← HIN.out]; simp [r1], rfl⟩
    · have e1 : Hid (inn = false) := Lib.hid (by rw [← HIN.out]; simp [r1])
      go_wp2_with fail
      go_meet
      exact ⟨by rw [e1.out], rfl⟩
  case rest =>
    obtain ⟨rfl, hw⟩ := hcut
    have hw := hw.symm
    subst hw
    go_upto_region 7 with (fail)
    have hxk := HK2.out
    have hc := HC.out
    have c0_c : w3.cell? ⟨b, off + k * 4, none⟩ = some (.int .i64 x.1) := (hB3.cell hb_c).trans (hc k _ hxk 0 _ rfl)
    have c1_c : w3.cell? ⟨b, off + k * 4 + 1, none⟩ = some (.int .i64 x.2.1) := (hB3.cell hb_c).trans (hc k _ hxk 1 _ rfl)
    have c2_c : w3.cell? ⟨b, off + k * 4 + 2, none⟩ = some (.string x.2.2.1) := (hB3.cell hb_c).trans (hc k _ hxk 2 _ rfl)
    have c3_c : w3.cell? ⟨b, off + k * 4 + 3, none⟩ = some (.int .i64 x.2.2.2) := (hB3.cell hb_c).trans (hc k _ hxk 3 _ rfl)
    have HS := Lib.hid (HX'.out.below hB3)
    have hk0' : (0 : Int) ≤ (k : Int) := by omega
    have hb_w : b < w3.heap.size := Nat.lt_of_lt_of_le hb_c hB3.size
    obtain ⟨i0, hi, hz0, hz1, hz2⟩ := info_parts infoFa
    clear hxk hc
    go_cut [16] (fun v wx => Made w3 4 faC (ts ++ [x]) (n' + 1) v wx)
    case first =>
      have hq0 : 0 < 4 := by omega
      have hq1 : 0 + n' ≤ maxLen := by unfold maxLen; omega
      have hq2 : (0 + n') * 40 ≤ 140737488355328 := by omega
      have hq3 : 0 + n' + 1 ≤ maxLen := by unfold maxLen; omega
      have hq4 : (0 + n' + 1) * 40 ≤ 140737488355328 := by omega
      have hq5 : ∀ u ∈ ([.int .i64 x.1, .int .i64 x.2.1, .string x.2.2.1, .int .i64 x.2.2.2] : List Value), u.oneCell' = true := by simp [Value.oneCell']
      go_region_law (first
        | (refine step_append_any _ rfl (.tmp 69) (.tmp 70) 32 rfl w3.heap.size 36 i0 _ 4 40 Try.underlying32 hi hz0 hz1 hz2 rfl hq0 (.slice (some ⟨w3.heap.size, 0, none⟩) 0 0) 0 [] ?_ ?_ w3.heap.size A' n' cn' (ts.flatMap faC) ?_ ?_ (fas_one _) hq1 hq2 ?_ ?_; rfl; exact own_first w3; rfl; exact reads_drew ((HS.out.reads fa_len).below (one_alloc _ _)); exact size_first _ _; intro v1 w9 hown1 hg1 hloc1; have HB9 : Hid (Below w3.heap.size w3 w9) := grown_emp (one_alloc _ _) hg1 (Nat.le_refl _); have HO1 := Lib.hid hown1; (have d0 := (HB9.out.cell (p := ⟨b, off + k * 4, none⟩) hb_w).trans c0_c; have d1 := (HB9.out.cell (p := ⟨b, off + k * 4 + 1, none⟩) hb_w).trans c1_c; have d2 := (HB9.out.cell (p := ⟨b, off + k * 4 + 2, none⟩) hb_w).trans c2_c; have d3 := (HB9.out.cell (p := ⟨b, off + k * 4 + 3, none⟩) hb_w).trans c3_c); clear hown1 hg1 hloc1)
        | (refine step_append_any _ rfl (.tmp 69) (.tmp 70) 32 rfl w3.heap.size 36 i0 _ 4 40 Try.underlying32 hi hz0 hz1 hz2 rfl hq0 (.slice (some ⟨w3.heap.size, 0, none⟩) 0 0) 0 [] ?_ ?_ w3.heap.size A' n' cn' (ts.flatMap faC) ?_ ?_ (fas_one _) hq1 hq2 ?_ ?_; rfl; exact own_first' w3 _; rfl; exact reads_drew ((HS.out.reads fa_len).below (two_alloc w3 _ _)); exact size_second _ _ _; intro v1 w9 hown1 hg1 hloc1; have HB9 : Hid (Below w3.heap.size w3 w9) := grown_emp (two_alloc w3 _ _) hg1 (Nat.le_refl _); have HO1 := Lib.hid hown1; (have d0 := (HB9.out.cell (p := ⟨b, off + k * 4, none⟩) hb_w).trans c0_c; have d1 := (HB9.out.cell (p := ⟨b, off + k * 4 + 1, none⟩) hb_w).trans c1_c; have d2 := (HB9.out.cell (p := ⟨b, off + k * 4 + 2, none⟩) hb_w).trans c2_c; have d3 := (HB9.out.cell (p := ⟨b, off + k * 4 + 3, none⟩) hb_w).trans c3_c); have HXB : Hid (Blk w9 (w3.heap.size + 1) 36 (List.toArray ([.int .i64 x.1, .int .i64 x.2.1, .string x.2.2.1, .int .i64 x.2.2.2] : List Value))) := blk_emp (blk_second w3 _ _ _) hg1 (Nat.succ_ne_self _); clear hown1 hg1 hloc1)
        | (refine step_append_any _ rfl (.tmp 69) (.tmp 70) 32 rfl w3.heap.size 36 i0 _ 4 40 Try.underlying32 hi hz0 hz1 hz2 rfl hq0 (.slice (some ⟨w3.heap.size + 1, 0, none⟩) 0 0) 0 [] ?_ ?_ w3.heap.size A' n' cn' (ts.flatMap faC) ?_ ?_ (fas_one _) hq1 hq2 ?_ ?_; rfl; exact own_second w3 _; rfl; exact reads_drew ((HS.out.reads fa_len).below (two_alloc w3 _ _)); exact size_second _ _ _; intro v1 w9 hown1 hg1 hloc1; have HB9 : Hid (Below w3.heap.size w3 w9) := grown_emp (two_alloc w3 _ _) hg1 (Nat.le_succ _); have HO1 := Lib.hid hown1; (have d0 := (HB9.out.cell (p := ⟨b, off + k * 4, none⟩) hb_w).trans c0_c; have d1 := (HB9.out.cell (p := ⟨b, off + k * 4 + 1, none⟩) hb_w).trans c1_c; have d2 := (HB9.out.cell (p := ⟨b, off + k * 4 + 2, none⟩) hb_w).trans c2_c; have d3 := (HB9.out.cell (p := ⟨b, off + k * 4 + 3, none⟩) hb_w).trans c3_c); have HXC : Hid (Blk w9 w3.heap.size 36 (List.toArray ([.int .i64 x.1, .int .i64 x.2.1, .string x.2.2.1, .int .i64 x.2.2.2] : List Value))) := blk_emp ((Blk.new w3 _ _).alloc _) hg1 (Nat.ne_of_lt (Nat.lt_succ_self _)); clear hown1 hg1 hloc1)
        | (refine step_append_any _ rfl (.tmp 71) (.tmp 76) 32 rfl w3.heap.size 36 i0 _ 4 40 Try.underlying32 hi hz0 hz1 hz2 rfl hq0 v1 (0 + n') _ ?_ (HO1.out.alloc _) _ (some ⟨w9.heap.size, 0, none⟩) 1 1 [.int .i64 x.1, .int .i64 x.2.1, .string x.2.2.1, .int .i64 x.2.2.2] ?_ ((SliceOf.blk (en := faC) (Blk.new w9 36 (List.toArray ([.int .i64 x.1, .int .i64 x.2.1, .string x.2.2.1, .int .i64 x.2.2.2] : List Value))) [x] rfl fa_len rfl).reads fa_len) hq5 hq3 hq4 ?_ ?_; rfl; rfl; exact (HB9.out.alloc HB9.out.size _).size; intro v2 w10 hown2 hg2 hloc2; have HE : Hid (Made w3 4 faC (ts ++ [x]) (n' + 1) v2 w10) := Lib.hid (by have hr : 0 + n' + 1 = n' + 1 := (by omega); rw [hr] at hown2; exact made_of hown2 fa_len (by simp; rfl) (by simp; omega) ((HB9.out.alloc HB9.out.size _).grown hg2 (HB9.out.alloc HB9.out.size _).size (fun j hj => (HO1.out.lt j hj).1))); clear hown2 hg2 hloc2)
        | (refine step_append_any _ rfl (.tmp 71) (.tmp 76) 32 rfl w3.heap.size 36 i0 _ 4 40 Try.underlying32 hi hz0 hz1 hz2 rfl hq0 v1 (0 + n') _ ?_ HO1.out _ (some ⟨w3.heap.size + 1, 0, none⟩) 1 1 [.int .i64 x.1, .int .i64 x.2.1, .string x.2.2.1, .int .i64 x.2.2.2] ?_ ((SliceOf.blk (en := faC) HXB.out [x] rfl fa_len rfl).reads fa_len) hq5 hq3 hq4 ?_ ?_; rfl; rfl; exact HB9.out.size; intro v2 w10 hown2 hg2 hloc2; have HE : Hid (Made w3 4 faC (ts ++ [x]) (n' + 1) v2 w10) := Lib.hid (by have hr : 0 + n' + 1 = n' + 1 := (by omega); rw [hr] at hown2; exact made_of hown2 fa_len (by simp; rfl) (by simp; omega) (HB9.out.grown hg2 HB9.out.size (fun j hj => (HO1.out.lt j hj).1))); clear hown2 hg2 hloc2)
        | (refine step_append_any _ rfl (.tmp 71) (.tmp 76) 32 rfl w3.heap.size 36 i0 _ 4 40 Try.underlying32 hi hz0 hz1 hz2 rfl hq0 v1 (0 + n') _ ?_ HO1.out _ (some ⟨w3.heap.size, 0, none⟩) 1 1 [.int .i64 x.1, .int .i64 x.2.1, .string x.2.2.1, .int .i64 x.2.2.2] ?_ ((SliceOf.blk (en := faC) HXC.out [x] rfl fa_len rfl).reads fa_len) hq5 hq3 hq4 ?_ ?_; rfl; rfl; exact HB9.out.size; intro v2 w10 hown2 hg2 hloc2; have HE : Hid (Made w3 4 faC (ts ++ [x]) (n' + 1) v2 w10) := Lib.hid (by have hr : 0 + n' + 1 = n' + 1 := (by omega); rw [hr] at hown2; exact made_of hown2 fa_len (by simp; rfl) (by simp; omega) (HB9.out.grown hg2 HB9.out.size (fun j hj => (HO1.out.lt j hj).1))); clear hown2 hg2 hloc2))
      all_goals (go_wp2_with fail; go_meet; exact HE.out)
    case rest =>
      obtain ⟨Aw, cw, rfl, hsw, hbw⟩ := hcut
      have hw4 : ∃ w4 : World, w4 = wc := ⟨_, rfl⟩
      obtain ⟨w4, hw4⟩ := hw4
      rw [← hw4] at hsw hbw ⊢
      clear hw4
      have HW := Lib.hid hsw
      have hB4 := hB3.trans (hbw.mono hB3.size)
      have hk4 := hk3.below hbw hk3.lt
      clear hB3 hk3 hsw hbw HS c0_c c1_c c2_c c3_c
      have qg := eqFaGuard
      go_wp2_with fail
      have hkl4 := hk4.lt
      go_loopw [17, 18] (fun v i wr => ∃ (j m : Nat) (Av : Option Addr) (cv : Nat), j ≤ n' ∧ i = .int .i64 j ∧ v = .slice Av m cv ∧ Below w4.heap.size w4 wr ∧ Hid ((otherF fs (ts.take j)).length = m ∧ wr.ownsRow w4.heap.size 36 4 (.slice Av m cv) m ((otherF fs (ts.take j)).flatMap faC))) (fun _ i _ => n' - (intOf i).toNat)
      case atStart => exact ⟨0, 0, none, 0, by omega, rfl, rfl, Below.refl _ _, Lib.hid ⟨rfl, World.ownsRow_nil _ _ _ _⟩⟩
      case round =>
        obtain ⟨j, m, Av, cv, hj, rfl, rfl, hbel, hown⟩ := hrel
        by_cases hjl : j < n'
        · obtain ⟨y, hyk⟩ : ∃ y, ts[j]? = some y := ⟨_, List.getElem?_eq_getElem (by omega)⟩
          obtain ⟨b', off', rfl, hb_d, hd⟩ := HX'.out.at_ (by omega)
          have HY := Lib.hid hyk
          have HD := Lib.hid hd
          have HT := Lib.hid (other_take (fs := fs) hyk)
          have j0 : (0 : Int) ≤ (j : Int) := by omega
          have jn : (j : Int) < (n' : Int) := by omega
          clear hyk hd
          go_wp2_with fail
          rename World => wq
          go_loopw [19, 20] (fun th i wr => ∃ (t : Nat), t ≤ n ∧ i = .int .i64 t ∧ th = .bool (hasF (fs.take t) y) ∧ Below w4.heap.size w4 wr ∧ Hid ((otherF fs (ts.take j)).length = m ∧ wr.ownsRow w4.heap.size 36 4 (.slice Av m cv) m ((otherF fs (ts.take j)).flatMap faC))) (fun _ i _ => n - (intOf i).toNat)
          case atStart => exact ⟨0, by omega, rfl, rfl, hbel, hown⟩
          case round =>
            obtain ⟨t, ht, rfl, rfl, hX5, hown5⟩ := hrel
            clear hbel hown
            have hB5 := hB4.trans (hX5.mono hB4.size)
            have hk5 := hk4.below hX5 hk4.lt
            by_cases htl : t < n
            · obtain ⟨z, hzk⟩ : ∃ z, fs[t]? = some z := ⟨_, List.getElem?_eq_getElem (by omega)⟩
              have hyk := HY.out
              have hd := HD.out
              have hc := HC.out
              have c0_d : wr.cell? ⟨b', off' + j * 4, none⟩ = some (.int .i64 y.1) := (hB5.cell hb_d).trans (hd j _ hyk 0 _ rfl)
              have c1_d : wr.cell? ⟨b', off' + j * 4 + 1, none⟩ = some (.int .i64 y.2.1) := (hB5.cell hb_d).trans (hd j _ hyk 1 _ rfl)
              have c2_d : wr.cell? ⟨b', off' + j * 4 + 2, none⟩ = some (.string y.2.2.1) := (hB5.cell hb_d).trans (hd j _ hyk 2 _ rfl)
              have c3_d : wr.cell? ⟨b', off' + j * 4 + 3, none⟩ = some (.int .i64 y.2.2.2) := (hB5.cell hb_d).trans (hd j _ hyk 3 _ rfl)
              have c0_c : wr.cell? ⟨b, off + t * 4, none⟩ = some (.int .i64 z.1) := (hB5.cell hb_c).trans (hc t _ hzk 0 _ rfl)
              have c1_c : wr.cell? ⟨b, off + t * 4 + 1, none⟩ = some (.int .i64 z.2.1) := (hB5.cell hb_c).trans (hc t _ hzk 1 _ rfl)
              have c2_c : wr.cell? ⟨b, off + t * 4 + 2, none⟩ = some (.string z.2.2.1) := (hB5.cell hb_c).trans (hc t _ hzk 2 _ rfl)
              have c3_c : wr.cell? ⟨b, off + t * 4 + 3, none⟩ = some (.int .i64 z.2.2.2) := (hB5.cell hb_c).trans (hc t _ hzk 3 _ rfl)
              have HF2 := Lib.hid (hasF_take (y := y) hzk)
              have t0 : (0 : Int) ≤ (t : Int) := by omega
              have tn : (t : Int) < (n : Int) := by omega
              clear hyk hd hc hzk
              cases hth : hasF (fs.take t) y
              · have HTH := Lib.hid hth
                clear hth
                by_cases hxy : z = y
                · have qe : ∀ w : World, (binOp .eql 36 (.agg #[.int .i64 z.1, .int .i64 z.2.1, .string z.2.2.1, .int .i64 z.2.2.2]) (.agg #[.int .i64 y.1, .int .i64 y.2.1, .string y.2.2.1, .int .i64 y.2.2.2])).run Try.prog w = .ok (.bool true) w := fun w => (eqFa z y w).trans (by rw [decide_eq_true hxy])
                  have e0 : Hid (hasF (fs.take (t + 1)) y = true) := Lib.hid (by rw [HF2.out, decide_eq_true hxy]; rfl)
                  clear hxy
                  go_wp2_with fail
                  go_quiet (fail)
                  go_wp2_with fail
                  go_roundw
                  case rel => exact ⟨t + 1, by omega, by go_num, by rw [e0.out], below_drewN hX5 _, hown5⟩
                  case measure => simp [intOf]; omega
                · have qe : ∀ w : World, (binOp .eql 36 (.agg #[.int .i64 z.1, .int .i64 z.2.1, .string z.2.2.1, .int .i64 z.2.2.2]) (.agg #[.int .i64 y.1, .int .i64 y.2.1, .string y.2.2.1, .int .i64 y.2.2.2])).run Try.prog w = .ok (.bool false) w := fun w => (eqFa z y w).trans (by rw [decide_eq_false hxy])
                  have e0 : Hid (hasF (fs.take (t + 1)) y = false) := Lib.hid (by rw [HF2.out, decide_eq_false hxy, HTH.out]; rfl)
                  clear hxy
                  go_wp2_with fail
                  go_quiet (fail)
                  go_wp2_with fail
                  go_roundw
                  case rel => exact ⟨t + 1, by omega, by go_num, by rw [e0.out], below_drewN hX5 _, hown5⟩
                  case measure => simp [intOf]; omega
              · have e0 : Hid (hasF (fs.take (t + 1)) y = true) := Lib.hid (by rw [HF2.out, hth]; simp)
                clear hth
                go_wp2_with fail
                go_quiet (fail)
                go_wp2_with fail
                go_roundw
                case rel => exact ⟨t + 1, by omega, by go_num, by rw [e0.out], below_drewN hX5 _, hown5⟩
                case measure => simp [intOf]; omega
            · have hfull : hasF (fs.take t) y = hasF fs y := by rw [List.take_of_length_le (by omega)]
              rw [hfull]
              have hyk := HY.out
              have hd := HD.out
              have c0_d : wr.cell? ⟨b', off' + j * 4, none⟩ = some (.int .i64 y.1) := (hB5.cell hb_d).trans (hd j _ hyk 0 _ rfl)
              have c1_d : wr.cell? ⟨b', off' + j * 4 + 1, none⟩ = some (.int .i64 y.2.1) := (hB5.cell hb_d).trans (hd j _ hyk 1 _ rfl)
              have c2_d : wr.cell? ⟨b', off' + j * 4 + 2, none⟩ = some (.string y.2.2.1) := (hB5.cell hb_d).trans (hd j _ hyk 2 _ rfl)
              have c3_d : wr.cell? ⟨b', off' + j * 4 + 3, none⟩ = some (.int .i64 y.2.2.2) := (hB5.cell hb_d).trans (hd j _ hyk 3 _ rfl)
              clear hfull hyk hd
              cases hth : hasF fs y
              · have e1 : Hid (otherF fs (ts.take (j + 1)) = otherF fs (ts.take j) ++ [y]) := Lib.hid (by rw [HT.out, hth]; rfl)
                have hml := other_len fs (ts.take j)
                rw [hown5.out.1, List.length_take] at hml
                have hml2 : m ≤ 30 := by omega
                clear hth hml
                have hwl := hk5.lt
                go_wp2_with (at_builtin; refine wpList_append_any_s _ rfl (.tmp 104) (.tmp 109) _ rfl w4.heap.size 36 i0 _ 4 40 Try.underlying32 hi hz0 hz1 hz2 rfl (by omega) (.slice Av m cv) m _ rfl (hown5.out.2.alloc _) _ (some ⟨wr.heap.size, 0, none⟩) 1 1 [.int .i64 y.1, .int .i64 y.2.1, .string y.2.2.1, .int .i64 y.2.2.2] rfl ((SliceOf.blk (en := faC) (Blk.new wr 36 #[.int .i64 y.1, .int .i64 y.2.1, .string y.2.2.1, .int .i64 y.2.2.2]) [y] rfl fa_len rfl).reads fa_len) (by simp [Value.oneCell']) (by unfold maxLen; omega) (by omega) (by have := hX5.size; simp; omega) ?_; intro A4 c4 w5 hown1 hg1 hloc1; have hX6 : Below w4.heap.size w4 w5 := (hX5.alloc hX5.size _).grown hg1 (hX5.alloc hX5.size _).size (fun i hi => (hown5.out.2.lt i hi).1); have HO6 := Lib.hid hown1; clear hown1 hg1 hloc1)
                go_roundw
                case rel => exact ⟨j + 1, m + 1, A4, c4, by omega, by go_num, rfl, hX6, Lib.hid ⟨by rw [e1.out, List.length_append, hown5.out.1]; rfl, by rw [e1.out, List.flatMap_append]; exact HO6.out⟩⟩
                case measure => simp [intOf]; omega
              · have e1 : Hid (otherF fs (ts.take (j + 1)) = otherF fs (ts.take j)) := Lib.hid (by rw [HT.out, hth]; simp)
                clear hth
                go_wp2_with fail
                go_roundw
                case rel => exact ⟨j + 1, m, Av, cv, by omega, by go_num, rfl, hX5, Lib.hid ⟨by rw [e1.out]; exact hown5.out.1, by rw [e1.out]; exact hown5.out.2⟩⟩
                case measure => simp [intOf]; omega
        · have htk : ts.take j = ts := List.take_of_length_le (by omega)
          rw [htk] at hown
          have hB5 := hB4.trans (hbel.mono hB4.size)
          have hk5 := hk4.below hbel hk4.lt
          have HW5 := Lib.hid (HW.out.below hbel)
          have HO5 : Hid (SliceOf wr 4 faC Av m (otherF fs ts)) := Lib.hid (SliceOf.of_own_s hown.out.2 fa_len rfl hown.out.1)
          have hml := other_len fs ts
          rw [hown.out.1] at hml
          have IW : Hid (∀ y ∈ ts ++ [x], faI y) := Lib.hid (fun y hy => by
            rcases List.mem_append.1 hy with h | h
            · exact HI'.out y h
            · simp at h; subst h; exact HI.out _ (List.mem_of_getElem? HK2.out))
          have IO : Hid (∀ y ∈ otherF fs ts, faI y) := Lib.hid (fun y hy => HI'.out y (List.mem_filter.1 hy).1)
          have V1 : Hid (answerV c p a fs (ts ++ [x]) = if inn then 1 else 2) := Lib.hid (by
            unfold answerV
            rw [if_neg (by omega), HK.out, HL.out, counts_with HK2.out, ← HIN.out]
            by_cases h : p ≤ a ∧ a ≤ L
            · rw [if_pos ⟨rfl, h.2, h.1, rfl⟩, decide_eq_true h]; rfl
            · rw [if_neg (fun h' => h ⟨h'.2.2.1, h'.2.1⟩), decide_eq_false h]; rfl)
          have V2 : Hid (answerV c p a fs (otherF fs ts) = 2) := Lib.hid (by
            unfold answerV
            rw [if_neg (by omega), counts_other]
            exact if_neg (fun h => by cases h.2.2.2))
          have V3 : Hid (answerV c p a [] (ts ++ [x]) = 0) := Lib.hid rfl
          clear hB4 hk4 HW hkl4 hbel hown htk
          have a0 := hk5.cell 0; have a1 := hk5.cell 1; simp only [List.getElem?_toArray, List.getElem?_cons_zero, List.getElem?_cons_succ] at a0 a1
          cases inn
          all_goals
            go_wp2_with fail
            refine (answer_any c A1 n1 c1 A2 n2 c2 p a (some ⟨b, off, none⟩) n cn fs Aw (n' + 1) cw (ts ++ [x]) _ (H1.out.below hB5) (H2.out.below hB5) m1 m2 (HX.out.below hB5) HW5.out HI.out IW.out (by omega) (by omega)).mono ?_
            rw [V1.out]
            rintro e w6 ⟨rfl, hb6⟩
            have HW6 := Lib.hid (HW5.out.below hb6)
            have HO6 := Lib.hid (HO5.out.below hb6)
            clear a0 a1
            have hB6 := hB5.trans (hb6.mono hB5.size)
            have hk6 := hk5.below hb6 hk5.lt
            clear hB5 hk5 hb6
            have a0 := hk6.cell 0; have a1 := hk6.cell 1; simp only [List.getElem?_toArray, List.getElem?_cons_zero, List.getElem?_cons_succ] at a0 a1
            go_wp2_with fail
            refine (answer_any c A1 n1 c1 A2 n2 c2 p a (some ⟨b, off, none⟩) n cn fs Av m cv (otherF fs ts) _ (H1.out.below hB6) (H2.out.below hB6) m1 m2 (HX.out.below hB6) HO6.out HI.out IO.out (by omega) (by omega)).mono ?_
            rw [V2.out]
            rintro e w7 ⟨rfl, hb7⟩
            have HW7 := Lib.hid (HW6.out.below hb7)
            clear a0 a1
            have hB7 := hB6.trans (hb7.mono hB6.size)
            have hk7 := hk6.below hb7 hk6.lt
            clear hB6 hk6 hb7
            have a0 := hk7.cell 0; have a1 := hk7.cell 1; simp only [List.getElem?_toArray, List.getElem?_cons_zero, List.getElem?_cons_succ] at a0 a1
            go_wp2_with fail
            refine (answer_any c A1 n1 c1 A2 n2 c2 p a none 0 0 [] Aw (n' + 1) cw (ts ++ [x]) _ (H1.out.below hB7) (H2.out.below hB7) m1 m2 SliceOf.none_ HW7.out (by simp) IW.out (by omega) (by omega)).mono ?_
            rw [V3.out]
            rintro e w8 ⟨rfl, hb8⟩
            clear a0 a1
            have hB8 := hB7.trans (hb8.mono hB7.size)
            have hk8 := hk7.below hb8 hk7.lt
            clear hB7 hk7 hb8
            go_wp2_with fail
            go_ret
            exact ⟨ret_bool (by simp), hB8⟩
end Go.Proofs.Ytfiflmgjcmmomaa
