/- What an answer is worth, by the program and by the reference. No condition. -/
import Derived.Test.YtfiflmgjcmmomaaCount
namespace Go.Proofs.Ytfiflmgjcmmomaa
open Go.RowKit Go.Proofs.Ytfiflmgjcmmomaa.kit Go.Proofs.Ytfiflmgjcmmomaa.cal
set_option linter.unusedVariables false

theorem hasF_at {fs : List Fa} {k : Nat} {x : Fa} (hx : fs[k]? = some x) : hasF fs x = true := hasF_iff.2 (List.mem_of_getElem? hx)
theorem hasF_no {fs : List Fa} {x : Fa} (h : ∀ (k : Nat) (y : Fa), fs[k]? = some y → ¬ x = y) : hasF fs x = false := by
  rw [Bool.eq_false_iff, ne_eq, hasF_iff]
  intro hm
  obtain ⟨k, hk⟩ := List.getElem?_of_mem hm
  exact h k x hk rfl

set_option maxHeartbeats 1600000 in
theorem rcounts_any (A : Option Addr) (n c : Nat) (fs : List Fa) (A' : Option Addr) (n' c' : Nat) (ts : List Fa) (w : World) (hx : SliceOf w 4 faC A n fs) (hx' : SliceOf w 4 faC A' n' ts) (hm : n ≤ 4096) (hm' : n' ≤ 4096) :
    Calls Try.prog 32 #[.slice A n c, .slice A' n' c'] w fun e w' => e = .returned (.bool (countsV fs ts)) ∧ Below w.heap.size w w' := by
  have HX := Lib.hid hx
  have HX' := Lib.hid hx'
  have hxl := hx.len
  have hxl' := hx'.len
  have qg := eqFaGuard
  clear hx hx'
  go_enter Try.func32, Try.ntmps32
  go_wp2_with fail
  go_loopw [5] (fun i wr => ∃ (j : Nat), j ≤ n' ∧ i = .int .i64 j ∧ Below w.heap.size w wr ∧ Hid (∀ (t : Nat) (x : Fa), t < j → ts[t]? = some x → hasF fs x = false)) (fun i _ => n' - (intOf i).toNat)
  case atStart => exact ⟨0, by omega, rfl, Below.refl _ _, Lib.hid (fun t x h => absurd h (by omega))⟩
  case round =>
    obtain ⟨j, hj, rfl, hB1, hno⟩ := hrel
    by_cases hjl : j < n'
    · obtain ⟨x, hxk⟩ : ∃ x, ts[j]? = some x := ⟨_, List.getElem?_eq_getElem (by omega)⟩
      obtain ⟨b, off, rfl, hb_c, hc⟩ := HX'.out.at_ (by omega)
      have HK := Lib.hid hxk
      have HC := Lib.hid hc
      have j0 : (0 : Int) ≤ (j : Int) := by omega
      have jn : (j : Int) < (n' : Int) := by omega
      clear hxk hc
      go_wp2_with fail
      rename World => wq
      go_loopw [6] (fun i wr => ∃ (k : Nat), k ≤ n ∧ i = .int .i64 k ∧ Below w.heap.size w wr ∧ Hid (∀ (t : Nat) (y : Fa), t < k → fs[t]? = some y → ¬ x = y)) (fun i _ => n - (intOf i).toNat)
      case atStart => exact ⟨0, by omega, rfl, hB1, Lib.hid (fun t x h => absurd h (by omega))⟩
      case round =>
        obtain ⟨k, hk, rfl, hbel, hmiss⟩ := hrel
        clear hB1
        by_cases hkl : k < n
        · obtain ⟨y, hyk⟩ : ∃ y, fs[k]? = some y := ⟨_, List.getElem?_eq_getElem (by omega)⟩
          obtain ⟨b', off', rfl, hb_d, hd⟩ := HX.out.at_ (by omega)
          have hxk := HK.out
          have hc := HC.out
          have c0_c : wr.cell? ⟨b, off + j * 4, none⟩ = some (.int .i64 x.1) := (hbel.cell hb_c).trans (hc j _ hxk 0 _ rfl)
          have c1_c : wr.cell? ⟨b, off + j * 4 + 1, none⟩ = some (.int .i64 x.2.1) := (hbel.cell hb_c).trans (hc j _ hxk 1 _ rfl)
          have c2_c : wr.cell? ⟨b, off + j * 4 + 2, none⟩ = some (.string x.2.2.1) := (hbel.cell hb_c).trans (hc j _ hxk 2 _ rfl)
          have c3_c : wr.cell? ⟨b, off + j * 4 + 3, none⟩ = some (.int .i64 x.2.2.2) := (hbel.cell hb_c).trans (hc j _ hxk 3 _ rfl)
          have c0_d : wr.cell? ⟨b', off' + k * 4, none⟩ = some (.int .i64 y.1) := (hbel.cell hb_d).trans (hd k _ hyk 0 _ rfl)
          have c1_d : wr.cell? ⟨b', off' + k * 4 + 1, none⟩ = some (.int .i64 y.2.1) := (hbel.cell hb_d).trans (hd k _ hyk 1 _ rfl)
          have c2_d : wr.cell? ⟨b', off' + k * 4 + 2, none⟩ = some (.string y.2.2.1) := (hbel.cell hb_d).trans (hd k _ hyk 2 _ rfl)
          have c3_d : wr.cell? ⟨b', off' + k * 4 + 3, none⟩ = some (.int .i64 y.2.2.2) := (hbel.cell hb_d).trans (hd k _ hyk 3 _ rfl)
          have HY := Lib.hid hyk
          have k0 : (0 : Int) ≤ (k : Int) := by omega
          have kn : (k : Int) < (n : Int) := by omega
          clear hxk hc hyk hd
          by_cases hxy : x = y
          · have qe : ∀ w : World, (binOp .eql 36 (.agg #[.int .i64 x.1, .int .i64 x.2.1, .string x.2.2.1, .int .i64 x.2.2.2]) (.agg #[.int .i64 y.1, .int .i64 y.2.1, .string y.2.2.1, .int .i64 y.2.2.2])).run Try.prog w = .ok (.bool true) w := fun w => (eqFa x y w).trans (by rw [decide_eq_true hxy])
            have e0 : Hid (countsV fs ts = true) := Lib.hid (counts_hit HK.out (by rw [hxy]; exact hasF_at HY.out))
            clear hxy
            go_wp2_with fail
            go_quiet (fail)
            go_wp2_with fail
            go_ret
            exact ⟨ret_bool e0.out.symm, below_drewN hbel _⟩
          · have qe : ∀ w : World, (binOp .eql 36 (.agg #[.int .i64 x.1, .int .i64 x.2.1, .string x.2.2.1, .int .i64 x.2.2.2]) (.agg #[.int .i64 y.1, .int .i64 y.2.1, .string y.2.2.1, .int .i64 y.2.2.2])).run Try.prog w = .ok (.bool false) w := fun w => (eqFa x y w).trans (by rw [decide_eq_false hxy])
            have HXY := Lib.hid hxy
            clear hxy
            go_wp2_with fail
            go_quiet (fail)
            go_wp2_with fail
            go_roundw
            case rel => exact ⟨k + 1, by omega, by go_num, below_drewN hbel _, Lib.hid (fun t z ht hz => by
              rcases Nat.lt_or_ge t k with h | h
              · exact hmiss.out t z h hz
              · obtain rfl : t = k := by omega
                rw [HY.out] at hz
                cases hz
                exact HXY.out)⟩
            case measure => simp [intOf]; omega
        · have e0 : Hid (hasF fs x = false) := Lib.hid (hasF_no (fun t y hy => hmiss.out t y (by have := (List.getElem?_eq_some_iff.1 hy).1; omega) hy))
          go_wp2_with fail
          go_roundw
          case rel => exact ⟨j + 1, by omega, by go_num, hbel, Lib.hid (fun t z ht hz => by
            rcases Nat.lt_or_ge t j with h | h
            · exact hno.out t z h hz
            · obtain rfl : t = j := by omega
              rw [HK.out] at hz
              cases hz
              exact e0.out)⟩
          case measure => simp [intOf]; omega
    · have e0 : Hid (countsV fs ts = false) := Lib.hid (counts_no (fun t x ht => hno.out t x (by have := (List.getElem?_eq_some_iff.1 ht).1; omega) ht))
      go_wp2_with fail
      go_ret
      exact ⟨ret_bool e0.out.symm, hB1⟩

def answerV (c : Cal) (p a : Int) (fs ts : List Fa) : Int :=
  if fs.length = 0 then 0 else if (dlV c p).2 = true ∧ a ≤ (dlV c p).1 ∧ p ≤ a ∧ countsV fs ts = true then 1 else 2
--%
set_option maxHeartbeats 1600000 in
theorem answer_any (c : Cal) (A1 : Option Addr) (n1 c1 : Nat) (A2 : Option Addr) (n2 c2 : Nat) (p a : Int) (A : Option Addr) (n cn : Nat) (fs : List Fa) (A' : Option Addr) (n' cn' : Nat) (ts : List Fa) (w : World) (h1 : SliceOf w 1 intC A1 n1 c.rest) (h2 : SliceOf w 1 intC A2 n2 c.hol) (m1 : n1 ≤ maxLen) (m2 : n2 ≤ maxLen) (hx : SliceOf w 4 faC A n fs) (hx' : SliceOf w 4 faC A' n' ts) (hi : ∀ y ∈ fs, faI y) (hi' : ∀ y ∈ ts, faI y) (hm : n ≤ 4096) (hm' : n' ≤ 4096) :
    Calls Try.prog 20 #[.agg #[.slice A1 n1 c1, .slice A2 n2 c2], .int .i64 p, .int .i64 a, .slice A n cn, .slice A' n' cn'] w fun e w' => e = .returned (.int .i64 (answerV c p a fs ts)) ∧ Below w.heap.size w w' := by
  have H1 := Lib.hid h1
  have H2 := Lib.hid h2
  have l1 := h1.len
  have l2 := h2.len
  clear h1 h2
  have hB0 : Below w.heap.size w (w.alloc (.cells #[.slice A1 n1 c1, .slice A2 n2 c2] 24)) := (Below.refl _ _).alloc (Nat.le_refl _) _
  have hk0 : Blk (w.alloc (.cells #[.slice A1 n1 c1, .slice A2 n2 c2] 24)) w.heap.size 24 #[.slice A1 n1 c1, .slice A2 n2 c2] := Blk.new _ _ _
  have HX := Lib.hid hx
  have HX' := Lib.hid hx'
  have HI := Lib.hid hi
  have HI' := Lib.hid hi'
  have hxl := hx.len
  clear hx hx' hi hi'
  by_cases h0 : n = 0
  · have e0 : answerV c p a fs ts = 0 := if_pos (by omega)
    have h0' : ((n : Int) == 0) = true := by simp [h0]
    rw [e0]
    clear e0 h0
    go_enter Try.func20, Try.ntmps20
    go_wp2_with fail
    go_ret
    exact ⟨rfl, hB0⟩
  have h0' : ((n : Int) == 0) = false := by simp [h0]
  obtain ⟨L, hL⟩ : ∃ L, (dlV c p).1 = L := ⟨_, rfl⟩
  obtain ⟨ok, hok⟩ : ∃ ok, (dlV c p).2 = ok := ⟨_, rfl⟩
  obtain ⟨cv, hcv⟩ : ∃ cv, countsV fs ts = cv := ⟨_, rfl⟩
  have e0 : answerV c p a fs ts = if ok = true ∧ a ≤ L ∧ p ≤ a ∧ cv = true then 1 else 2 := by unfold answerV; rw [if_neg (by omega), hL, hok, hcv]
  have HK := Lib.hid hok; have HL := Lib.hid hL; have HV := Lib.hid hcv
  rw [e0]
  clear e0 h0 hok hL hcv
  by_cases q1 : ok = true ∧ a ≤ L ∧ p ≤ a
  · obtain ⟨rfl, q2, q3⟩ := q1
    have e1 : Hid ((if true = true ∧ a ≤ L ∧ p ≤ a ∧ cv = true then (1 : Int) else 2) = if cv then 1 else 2) := Lib.hid (by cases cv <;> simp [q2, q3])
    rw [e1.out]
    cases cv
    all_goals
      simp only [if_true, if_false, Bool.false_eq_true]
      go_enter Try.func20, Try.ntmps20
      go_wp2_with fail
      refine (deadline_any c A1 n1 c1 A2 n2 c2 p _ (H1.out.below hB0) (H2.out.below hB0) m1 m2).mono ?_
      rw [HK.out, HL.out]
      rintro e w1 ⟨rfl, hb1⟩
      have hB1 := hB0.trans (hb1.mono hB0.size)
      have hk1 := hk0.below hb1 hk0.lt
      clear hB0 hk0 hb1
      go_wp2_with fail
      refine (counts_any A n cn fs A' n' cn' ts _ (HX.out.below hB1) (HX'.out.below hB1) HI.out HI'.out hm hm').mono ?_
      rw [HV.out]
      rintro e w2 ⟨rfl, hb2⟩
      have hB2 := hB1.trans (hb2.mono hB1.size)
      have hk2 := hk1.below hb2 hk1.lt
      clear hB1 hk1 hb2
      go_wp2_with fail
      go_ret
      exact ⟨rfl, hB2⟩
  · have e1 : Hid ((if ok = true ∧ a ≤ L ∧ p ≤ a ∧ cv = true then (1 : Int) else 2) = 2) := Lib.hid (if_neg (fun h => q1 ⟨h.1, h.2.1, h.2.2.1⟩))
    rw [e1.out]
    cases ok
    · clear q1
      go_enter Try.func20, Try.ntmps20
      go_wp2_with fail
      refine (deadline_any c A1 n1 c1 A2 n2 c2 p _ (H1.out.below hB0) (H2.out.below hB0) m1 m2).mono ?_
      rw [HK.out, HL.out]
      rintro e w1 ⟨rfl, hb1⟩
      have hB1 := hB0.trans (hb1.mono hB0.size)
      have hk1 := hk0.below hb1 hk0.lt
      clear hB0 hk0 hb1
      go_wp2_with fail
      all_goals go_ret
      all_goals exact ⟨rfl, hB1⟩
    · by_cases q2 : L < a
      · clear q1
        go_enter Try.func20, Try.ntmps20
        go_wp2_with fail
        refine (deadline_any c A1 n1 c1 A2 n2 c2 p _ (H1.out.below hB0) (H2.out.below hB0) m1 m2).mono ?_
        rw [HK.out, HL.out]
        rintro e w1 ⟨rfl, hb1⟩
        have hB1 := hB0.trans (hb1.mono hB0.size)
        have hk1 := hk0.below hb1 hk0.lt
        clear hB0 hk0 hb1
        go_wp2_with fail
        all_goals go_ret
        all_goals exact ⟨rfl, hB1⟩
      · have q3 : a < p := by
          rcases Int.lt_or_le a p with h | h
          · exact h
          · exact absurd ⟨rfl, by omega, h⟩ q1
        clear q1
        go_enter Try.func20, Try.ntmps20
        go_wp2_with fail
        refine (deadline_any c A1 n1 c1 A2 n2 c2 p _ (H1.out.below hB0) (H2.out.below hB0) m1 m2).mono ?_
        rw [HK.out, HL.out]
        rintro e w1 ⟨rfl, hb1⟩
        have hB1 := hB0.trans (hb1.mono hB0.size)
        have hk1 := hk0.below hb1 hk0.lt
        clear hB0 hk0 hb1
        go_wp2_with fail
        all_goals go_ret
        all_goals exact ⟨rfl, hB1⟩
set_option maxHeartbeats 1600000 in
theorem ranswer_any (c : Cal) (A1 : Option Addr) (n1 c1 : Nat) (A2 : Option Addr) (n2 c2 : Nat) (p a : Int) (A : Option Addr) (n cn : Nat) (fs : List Fa) (A' : Option Addr) (n' cn' : Nat) (ts : List Fa) (w : World) (h1 : SliceOf w 1 intC A1 n1 c.rest) (h2 : SliceOf w 1 intC A2 n2 c.hol) (m1 : n1 ≤ maxLen) (m2 : n2 ≤ maxLen) (hx : SliceOf w 4 faC A n fs) (hx' : SliceOf w 4 faC A' n' ts) (hm : n ≤ 4096) (hm' : n' ≤ 4096) :
    Calls Try.prog 21 #[.agg #[.slice A1 n1 c1, .slice A2 n2 c2], .int .i64 p, .int .i64 a, .slice A n cn, .slice A' n' cn'] w fun e w' => e = .returned (.int .i64 (answerV c p a fs ts)) ∧ Below w.heap.size w w' := by
  have H1 := Lib.hid h1
  have H2 := Lib.hid h2
  have l1 := h1.len
  have l2 := h2.len
  clear h1 h2
  have hB0 : Below w.heap.size w (w.alloc (.cells #[.slice A1 n1 c1, .slice A2 n2 c2] 24)) := (Below.refl _ _).alloc (Nat.le_refl _) _
  have hk0 : Blk (w.alloc (.cells #[.slice A1 n1 c1, .slice A2 n2 c2] 24)) w.heap.size 24 #[.slice A1 n1 c1, .slice A2 n2 c2] := Blk.new _ _ _
  have HX := Lib.hid hx
  have HX' := Lib.hid hx'
  have hxl := hx.len
  clear hx hx'
  by_cases h0 : n = 0
  · have e0 : answerV c p a fs ts = 0 := if_pos (by omega)
    have h0' : ((n : Int) == 0) = true := by simp [h0]
    rw [e0]
    clear e0 h0
    go_enter Try.func21, Try.ntmps21
    go_wp2_with fail
    go_ret
    exact ⟨rfl, hB0⟩
  have h0' : ((n : Int) == 0) = false := by simp [h0]
  obtain ⟨L, hL⟩ : ∃ L, (dlV c p).1 = L := ⟨_, rfl⟩
  obtain ⟨ok, hok⟩ : ∃ ok, (dlV c p).2 = ok := ⟨_, rfl⟩
  obtain ⟨cv, hcv⟩ : ∃ cv, countsV fs ts = cv := ⟨_, rfl⟩
  have e0 : answerV c p a fs ts = if ok = true ∧ a ≤ L ∧ p ≤ a ∧ cv = true then 1 else 2 := by unfold answerV; rw [if_neg (by omega), hL, hok, hcv]
  have HK := Lib.hid hok; have HL := Lib.hid hL; have HV := Lib.hid hcv
  rw [e0]
  clear e0 h0 hok hL hcv
  by_cases q1 : ok = true ∧ a ≤ L ∧ p ≤ a
  · obtain ⟨rfl, q2, q3⟩ := q1
    have e1 : Hid ((if true = true ∧ a ≤ L ∧ p ≤ a ∧ cv = true then (1 : Int) else 2) = if cv then 1 else 2) := Lib.hid (by cases cv <;> simp [q2, q3])
    rw [e1.out]
    cases cv
    all_goals
      simp only [if_true, if_false, Bool.false_eq_true]
      go_enter Try.func21, Try.ntmps21
      go_wp2_with fail
      refine (rdeadline_any c A1 n1 c1 A2 n2 c2 p _ (H1.out.below hB0) (H2.out.below hB0) m1 m2).mono ?_
      rw [HK.out, HL.out]
      rintro e w1 ⟨rfl, hb1⟩
      have hB1 := hB0.trans (hb1.mono hB0.size)
      have hk1 := hk0.below hb1 hk0.lt
      clear hB0 hk0 hb1
      go_wp2_with fail
      refine (rcounts_any A n cn fs A' n' cn' ts _ (HX.out.below hB1) (HX'.out.below hB1) hm hm').mono ?_
      rw [HV.out]
      rintro e w2 ⟨rfl, hb2⟩
      have hB2 := hB1.trans (hb2.mono hB1.size)
      have hk2 := hk1.below hb2 hk1.lt
      clear hB1 hk1 hb2
      go_wp2_with fail
      go_ret
      exact ⟨rfl, hB2⟩
  · have e1 : Hid ((if ok = true ∧ a ≤ L ∧ p ≤ a ∧ cv = true then (1 : Int) else 2) = 2) := Lib.hid (if_neg (fun h => q1 ⟨h.1, h.2.1, h.2.2.1⟩))
    rw [e1.out]
    cases ok
    · clear q1
      go_enter Try.func21, Try.ntmps21
      go_wp2_with fail
      refine (rdeadline_any c A1 n1 c1 A2 n2 c2 p _ (H1.out.below hB0) (H2.out.below hB0) m1 m2).mono ?_
      rw [HK.out, HL.out]
      rintro e w1 ⟨rfl, hb1⟩
      have hB1 := hB0.trans (hb1.mono hB0.size)
      have hk1 := hk0.below hb1 hk0.lt
      clear hB0 hk0 hb1
      go_wp2_with fail
      all_goals go_ret
      all_goals exact ⟨rfl, hB1⟩
    · by_cases q2 : L < a
      · clear q1
        go_enter Try.func21, Try.ntmps21
        go_wp2_with fail
        refine (rdeadline_any c A1 n1 c1 A2 n2 c2 p _ (H1.out.below hB0) (H2.out.below hB0) m1 m2).mono ?_
        rw [HK.out, HL.out]
        rintro e w1 ⟨rfl, hb1⟩
        have hB1 := hB0.trans (hb1.mono hB0.size)
        have hk1 := hk0.below hb1 hk0.lt
        clear hB0 hk0 hb1
        go_wp2_with fail
        all_goals go_ret
        all_goals exact ⟨rfl, hB1⟩
      · have q3 : a < p := by
          rcases Int.lt_or_le a p with h | h
          · exact h
          · exact absurd ⟨rfl, by omega, h⟩ q1
        clear q1
        go_enter Try.func21, Try.ntmps21
        go_wp2_with fail
        refine (rdeadline_any c A1 n1 c1 A2 n2 c2 p _ (H1.out.below hB0) (H2.out.below hB0) m1 m2).mono ?_
        rw [HK.out, HL.out]
        rintro e w1 ⟨rfl, hb1⟩
        have hB1 := hB0.trans (hb1.mono hB0.size)
        have hk1 := hk0.below hb1 hk0.lt
        clear hB0 hk0 hb1
        go_wp2_with fail
        all_goals go_ret
        all_goals exact ⟨rfl, hB1⟩

set_option maxRecDepth 100000 in
set_option maxHeartbeats 1600000 in
theorem noticeAnswers_walk (c : Cal) (A1 : Option Addr) (n1 c1 : Nat) (A2 : Option Addr) (n2 c2 : Nat) (p a : Int) (A : Option Addr) (n cn : Nat) (fs : List Fa) (A' : Option Addr) (n' cn' : Nat) (ts : List Fa) (w : World) (h1 : SliceOf w 1 intC A1 n1 c.rest) (h2 : SliceOf w 1 intC A2 n2 c.hol) (m1 : n1 ≤ maxLen) (m2 : n2 ≤ maxLen) (hx : SliceOf w 4 faC A n fs) (hx' : SliceOf w 4 faC A' n' ts) (hi : ∀ y ∈ fs, faI y) (hi' : ∀ y ∈ ts, faI y) (hm : n ≤ maxLen) (hm' : n' ≤ maxLen) :
    Calls Try.prog 5 #[.agg #[.slice A1 n1 c1, .slice A2 n2 c2], .int .i64 p, .int .i64 a, .slice A n cn, .slice A' n' cn'] w fun e w' => e = .returned (.bool true) ∧ Below w.heap.size w w' := by
  have HX := Lib.hid hx
  have HX' := Lib.hid hx'
  have HI := Lib.hid hi
  have HI' := Lib.hid hi'
  clear hx hx' hi hi'
  have H1 := Lib.hid h1
  have H2 := Lib.hid h2
  have l1 := h1.len
  have l2 := h2.len
  clear h1 h2
  have hB0 : Below w.heap.size w (w.alloc (.cells #[.slice A1 n1 c1, .slice A2 n2 c2] 24)) := (Below.refl _ _).alloc (Nat.le_refl _) _
  have hk0 : Blk (w.alloc (.cells #[.slice A1 n1 c1, .slice A2 n2 c2] 24)) w.heap.size 24 #[.slice A1 n1 c1, .slice A2 n2 c2] := Blk.new _ _ _
  go_enter Try.func5, Try.ntmps5
  go_wp2_with fail
  refine (awake_any _).mono ?_
  rintro e w1 ⟨rfl, hb1⟩
  have hB1 := hB0.trans (hb1.mono hB0.size)
  have hk1 := hk0.below hb1 hk0.lt
  clear hB0 hk0 hb1
  have a0 := hk1.cell 0; have a1 := hk1.cell 1; simp only [List.getElem?_toArray, List.getElem?_cons_zero, List.getElem?_cons_succ] at a0 a1
  cases hf : fewB n1 n2
  · have F := Lib.hid hf
    clear hf
    go_wp2_with fail
    refine (few_any A1 n1 c1 A2 n2 c2 _ m1 m2).mono ?_
    rw [F.out]
    rintro e w2 ⟨rfl, hb2⟩
    clear a0 a1
    have hB2 := hB1.trans (hb2.mono hB1.size)
    have hk2 := hk1.below hb2 hk1.lt
    clear hB1 hk1 hb2
    have a0 := hk2.cell 0; have a1 := hk2.cell 1; simp only [List.getElem?_toArray, List.getElem?_cons_zero, List.getElem?_cons_succ] at a0 a1
    go_wp2_with fail
    go_ret
    exact ⟨rfl, hB2⟩
  have F := Lib.hid hf
  clear hf
  by_cases q1 : 30 < n
  · have q1' : (30 : Int) < (n : Int) := by omega
    go_wp2_with fail
    refine (few_any A1 n1 c1 A2 n2 c2 _ m1 m2).mono ?_
    rw [F.out]
    rintro e w2 ⟨rfl, hb2⟩
    clear a0 a1
    have hB2 := hB1.trans (hb2.mono hB1.size)
    have hk2 := hk1.below hb2 hk1.lt
    clear hB1 hk1 hb2
    have a0 := hk2.cell 0; have a1 := hk2.cell 1; simp only [List.getElem?_toArray, List.getElem?_cons_zero, List.getElem?_cons_succ] at a0 a1
    go_wp2_with fail
    go_ret
    exact ⟨rfl, hB2⟩
  have q1' : ¬ (30 : Int) < (n : Int) := by omega
  by_cases q2 : 30 < n'
  · have q2' : (30 : Int) < (n' : Int) := by omega
    go_wp2_with fail
    refine (few_any A1 n1 c1 A2 n2 c2 _ m1 m2).mono ?_
    rw [F.out]
    rintro e w2 ⟨rfl, hb2⟩
    clear a0 a1
    have hB2 := hB1.trans (hb2.mono hB1.size)
    have hk2 := hk1.below hb2 hk1.lt
    clear hB1 hk1 hb2
    have a0 := hk2.cell 0; have a1 := hk2.cell 1; simp only [List.getElem?_toArray, List.getElem?_cons_zero, List.getElem?_cons_succ] at a0 a1
    go_wp2_with fail
    go_ret
    exact ⟨rfl, hB2⟩
  have q2' : ¬ (30 : Int) < (n' : Int) := by omega
  go_wp2_with fail
  refine (few_any A1 n1 c1 A2 n2 c2 _ m1 m2).mono ?_
  rw [F.out]
  rintro e w2 ⟨rfl, hb2⟩
  clear a0 a1
  have hB2 := hB1.trans (hb2.mono hB1.size)
  have hk2 := hk1.below hb2 hk1.lt
  clear hB1 hk1 hb2
  have a0 := hk2.cell 0; have a1 := hk2.cell 1; simp only [List.getElem?_toArray, List.getElem?_cons_zero, List.getElem?_cons_succ] at a0 a1
  clear a0 a1
  have a0 := hk2.cell 0; have a1 := hk2.cell 1; simp only [List.getElem?_toArray, List.getElem?_cons_zero, List.getElem?_cons_succ] at a0 a1
  have p0 := wof_cell a0; have p1 := wof_cell a1
  have HB : Hid (∀ x : BW w2, Below w.heap.size w (wof x)) := fun x => hB2.trans ((wof_below x).mono hB2.size)
  obtain ⟨V, hV⟩ : ∃ V, answerV c p a fs ts = V := ⟨_, rfl⟩
  have HV := Lib.hid hV
  clear hV
  have QA : Hid (∀ x : BW w2, Calls Try.prog 20 #[.agg #[.slice A1 n1 c1, .slice A2 n2 c2], .int .i64 p, .int .i64 a, .slice A n cn, .slice A' n' cn'] (wof x) fun e w' => e = .returned (.int .i64 V) ∧ Below (wof x).heap.size (wof x) w') := fun x => by
    have := answer_any c A1 n1 c1 A2 n2 c2 p a A n cn fs A' n' cn' ts (wof x) (H1.out.below (HB.out x)) (H2.out.below (HB.out x)) m1 m2 (HX.out.below (HB.out x)) (HX'.out.below (HB.out x)) HI.out HI'.out (by omega) (by omega)
    rw [HV.out] at this
    exact this
  have QR : Hid (∀ x : BW w2, Calls Try.prog 21 #[.agg #[.slice A1 n1 c1, .slice A2 n2 c2], .int .i64 p, .int .i64 a, .slice A n cn, .slice A' n' cn'] (wof x) fun e w' => e = .returned (.int .i64 V) ∧ Below (wof x).heap.size (wof x) w') := fun x => by
    have := ranswer_any c A1 n1 c1 A2 n2 c2 p a A n cn fs A' n' cn' ts (wof x) (H1.out.below (HB.out x)) (H2.out.below (HB.out x)) m1 m2 (HX.out.below (HB.out x)) (HX'.out.below (HB.out x)) (by omega) (by omega)
    rw [HV.out] at this
    exact this
  go_wp2_with fail
  refine wp_region_quiet_below (by kernel_rfl) (by kernel_rfl) ?_
  repeat (go_big_quiet_step ((first | (go_at_call 20; exact quiet_below (QA.out _)) | (go_at_call 21; exact quiet_below (QR.out _)))))
  refine wpQuiet_nil ?_
  intro w7 hb7
  go_wp2_with fail
  go_ret
  exact ⟨ret_bool (by simp), hB2.trans (hb7.mono hB2.size)⟩
end Go.Proofs.Ytfiflmgjcmmomaa
