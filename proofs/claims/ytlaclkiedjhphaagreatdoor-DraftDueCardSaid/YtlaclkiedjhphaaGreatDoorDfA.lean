/- Which draft may be: the program. No condition. -/
import Derived.Test.YtlaclkiedjhphaaGreatDoorDf
import Derived.Test.YtlaclkiedjhphaaGreatDoorNameA
import Derived.Test.YtlaclkiedjhphaaGreatDoorNameB
import Derived.Handy
namespace Go.Proofs.YtlaclkiedjhphaaGreatDoor.kit
open Go.RowKit Go.PlainAid
set_option linter.unusedVariables false

theorem nm_any (s : ByteArray) (w : World) (hs : s.size ≤ maxLen) : Calls Tryz.prog 23 #[.string s] w fun e w' => e = .returned (.bool (nmB s)) ∧ w = w' := name_any s w hs
theorem rnm_any (s : ByteArray) (w : World) (hs : s.size ≤ maxLen) : Calls Tryz.prog 26 #[.string s] w fun e w' => e = .returned (.bool (nmB s)) ∧ w = w' := rname_any s w hs
theorem isDay_any (x : Int) (w : World) : Calls Tryz.prog 25 #[.int .i64 x] w fun e w' => e = .returned (.bool (isDay x)) ∧ w = w' := by
  by_cases h0 : 0 ≤ x
  all_goals
    go_enter Tryz.func25, Tryz.ntmps25
    go_wp2
    go_ret
    exact ⟨ret_bool (by unfold isDay; first | (simp; done) | (simp; omega)), rfl⟩
theorem upB_iff {c : Int} : upB c = true ↔ 65 ≤ c ∧ c ≤ 90 := by unfold upB; simp
theorem upB_not {c : Int} : upB c = false ↔ ¬ (65 ≤ c ∧ c ≤ 90) := by rw [← upB_iff]; simp
theorem curF_at {s : ByteArray} : ∀ {k : Nat}, curF s k = true → ∀ i, i < k → upB (bt s i) = true
  | 0, _, i, h => by omega
  | k + 1, h, i, hi => by
    simp only [curF, Bool.and_eq_true] at h
    rcases Nat.lt_or_ge i k with h1 | h1
    · exact curF_at h.1 i h1
    · have : i = k := by omega
      subst this; exact h.2
theorem curF_bad {s : ByteArray} {k n : Nat} (hk : k < n) (h : upB (bt s k) = false) : curF s n = false := by
  cases e : curF s n
  · rfl
  · rw [curF_at e k hk] at h; cases h
set_option maxHeartbeats 1600000 in
theorem isCur_any (s : ByteArray) (w : World) (hs : s.size ≤ maxLen) :
    Calls Tryz.prog 47 #[.string s] w fun e w' => e = .returned (.bool (curB s)) ∧ w = w' := by
  unfold maxLen at hs
  by_cases h3 : s.size = 3
  rotate_left
  · have e : Hid (false = curB s) := Lib.hid (by unfold curB; rw [decide_eq_false h3]; rfl)
    have d0 : ((s.size : Int) != 3) = true := by simp; omega
    have d1 : (s.size != 3) = true := by simp; omega
    go_enter Tryz.func47, Tryz.ntmps47
    go_wp2
    go_ret
    exact ⟨ret_bool e.out, rfl⟩
  have hb := get_bt s
  have HH : Hid (curB s = curF s 3) := Lib.hid (by unfold curB; rw [decide_eq_true h3]; rfl)
  go_enter Tryz.func47, Tryz.ntmps47
  go_wp2
  go_loop [9] (fun i => ∃ k : Nat, k ≤ 3 ∧ i = .int .i64 k ∧ Hid (curF s k = true)) (fun i => 3 - (intOf i).toNat)
  case atStart => exact ⟨0, Nat.zero_le _, rfl, Lib.hid rfl⟩
  case round =>
    obtain ⟨k, hk, rfl, hd⟩ := hrel
    by_cases hlt : k < 3
    · have hks : k < s.size := by omega
      have HOK := Lib.hid (curF_bad (s := s) hlt)
      have HD1 : Hid (upB (bt s k) = true → curF s (k + 1) = true) := Lib.hid (fun h => by unfold curF; rw [hd.out, h]; rfl)
      by_cases q0 : bt s k < 65
      · have HE : Hid (false = curB s) := Lib.hid (by rw [HH.out]; exact (HOK.out (upB_not.2 (by omega))).symm)
        go_wp2
        go_ret
        exact ⟨ret_bool HE.out, rfl⟩
      by_cases q1 : 90 < bt s k
      · have HE : Hid (false = curB s) := Lib.hid (by rw [HH.out]; exact (HOK.out (upB_not.2 (by omega))).symm)
        go_wp2
        go_ret
        exact ⟨ret_bool HE.out, rfl⟩
      have HD2 := Lib.hid (HD1.out (upB_iff.2 (by omega)))
      go_wp2
      go_round
      case rel => exact ⟨k + 1, by omega, by go_num, HD2⟩
      case measure => simp [intOf]; omega
    · have hk3 : k = 3 := by omega
      subst hk3
      have HE : Hid (true = curB s) := Lib.hid (by rw [HH.out, hd.out])
      go_wp2
      go_ret
      exact ⟨ret_bool HE.out, rfl⟩
def mayM (s : ByteArray) (n : Int) : Bool := curB s && (decide (-1099511627776 ≤ n) && decide (n ≤ 1099511627776))
set_option maxHeartbeats 1600000 in
theorem money_any (s : ByteArray) (n : Int) (w : World) (hs : s.size ≤ maxLen) :
    Calls Tryz.prog 24 #[.agg #[.string s, .int .i64 n]] w fun e w' => e = .returned (.bool (mayM s n)) ∧ Below w.heap.size w w' := by
  have hB0 : Below w.heap.size w (w.alloc (.cells #[.string s, .int .i64 n] 26)) := (Below.refl _ _).alloc (Nat.le_refl _) _
  have HC := Lib.hid (fun w => isCur_any s w hs)
  clear hs
  cases h0 : curB s
  · have e : Hid (false = mayM s n) := Lib.hid (by unfold mayM; rw [h0]; rfl)
    rw [h0] at HC
    go_enter Tryz.func24, Tryz.ntmps24
    go_wp2_with fail
    refine (HC.out _).mono ?_
    rintro e w' ⟨rfl, rfl⟩
    go_wp2
    go_ret
    exact ⟨ret_bool e.out, hB0⟩
  rw [h0] at HC
  by_cases h1 : -1099511627776 ≤ n
  rotate_left
  · have e : Hid (false = mayM s n) := Lib.hid (by unfold mayM; rw [decide_eq_false h1, h0]; rfl)
    have d1 : decide (-1099511627776 ≤ n) = false := decide_eq_false h1
    go_enter Tryz.func24, Tryz.ntmps24
    go_wp2_with fail
    refine (HC.out _).mono ?_
    rintro e w' ⟨rfl, rfl⟩
    go_wp2
    go_ret
    exact ⟨ret_bool e.out, hB0⟩
  by_cases h2 : n ≤ 1099511627776
  rotate_left
  · have e : Hid (false = mayM s n) := Lib.hid (by unfold mayM; rw [decide_eq_false h2, h0]; simp)
    have d1 : decide (-1099511627776 ≤ n) = true := decide_eq_true h1
    have d2 : decide (n ≤ 1099511627776) = false := decide_eq_false h2
    go_enter Tryz.func24, Tryz.ntmps24
    go_wp2_with fail
    refine (HC.out _).mono ?_
    rintro e w' ⟨rfl, rfl⟩
    go_wp2
    go_ret
    exact ⟨ret_bool e.out, hB0⟩
  have e : Hid (true = mayM s n) := Lib.hid (by unfold mayM; rw [decide_eq_true h1, decide_eq_true h2, h0]; rfl)
  have d1 : decide (-1099511627776 ≤ n) = true := decide_eq_true h1
  have d2 : decide (n ≤ 1099511627776) = true := decide_eq_true h2
  go_enter Tryz.func24, Tryz.ntmps24
  go_wp2_with fail
  refine (HC.out _).mono ?_
  rintro e w' ⟨rfl, rfl⟩
  go_wp2
  go_ret
  exact ⟨ret_bool e.out, hB0⟩
theorem mayD_eq (d : Dr) : mayD d = (nmB d.num && (nmB d.drw && (nmB d.dre && (nmB d.pay && (!decide (d.drw = d.dre) && (!decide (d.pay = d.dre) && (mayM d.cur d.amt && (decide (1 ≤ d.amt) && (isDay d.fr && kindB d.kind d.days))))))))) := by
  unfold mayD mayM
  cases nmB d.num <;> cases nmB d.drw <;> cases nmB d.dre <;> cases nmB d.pay <;> cases curB d.cur <;> simp only [Bool.false_and, Bool.and_false, Bool.true_and]
  congr 2
  rw [← Bool.and_assoc, ← Bool.and_assoc, ← Bool.and_assoc]
  congr 2
  rw [Bool.eq_iff_iff]
  simp
  omega
set_option maxRecDepth 100000 in
set_option maxHeartbeats 6400000 in
theorem mayD_any (d : Dr) (w : World) (hd : d.ok) : Calls Tryz.prog 8 #[.agg #[.string d.num, .string d.drw, .string d.dre, .string d.pay, .string d.cur, .int .i64 d.amt, .int .i64 d.kind, .int .i64 d.days, .int .i64 d.fr]] w fun e w' => e = .returned (.bool (mayD d)) ∧ Below w.heap.size w w' := by
  have h1 := hd.n; have h2 := hd.w; have h3 := hd.e; have h4 := hd.p; have h5 := hd.c
  clear hd
  have hB0 : Below w.heap.size w (w.alloc (.cells #[.string d.num, .string d.drw, .string d.dre, .string d.pay, .string d.cur, .int .i64 d.amt, .int .i64 d.kind, .int .i64 d.days, .int .i64 d.fr] 28)) := (Below.refl _ _).alloc (Nat.le_refl _) _
  have hk0 : Blk (w.alloc (.cells #[.string d.num, .string d.drw, .string d.dre, .string d.pay, .string d.cur, .int .i64 d.amt, .int .i64 d.kind, .int .i64 d.days, .int .i64 d.fr] 28)) w.heap.size 28 #[.string d.num, .string d.drw, .string d.dre, .string d.pay, .string d.cur, .int .i64 d.amt, .int .i64 d.kind, .int .i64 d.days, .int .i64 d.fr] := Blk.new _ _ _
  have s1 := eq_str d.drw d.dre
  have s2 := eq_str d.pay d.dre
  cases e0 : nmB d.num
  · have E : Hid (false = mayD d) := Lib.hid (by rw [mayD_eq]; simp [e0])
    go_enter Tryz.func8, Tryz.ntmps8
    go_wp2_with (first | (go_at_call 23; (with_reducible refine (nm_any _ _ (by assumption)).mono ?_); rintro e w' ⟨rfl, rfl⟩))
    go_ret
    exact ⟨ret_bool E.out, hB0⟩
  cases e1 : nmB d.drw
  · have E : Hid (false = mayD d) := Lib.hid (by rw [mayD_eq]; simp [e1])
    go_enter Tryz.func8, Tryz.ntmps8
    go_wp2_with (first | (go_at_call 23; (with_reducible refine (nm_any _ _ (by assumption)).mono ?_); rintro e w' ⟨rfl, rfl⟩))
    go_ret
    exact ⟨ret_bool E.out, hB0⟩
  cases e2 : nmB d.dre
  · have E : Hid (false = mayD d) := Lib.hid (by rw [mayD_eq]; simp [e2])
    go_enter Tryz.func8, Tryz.ntmps8
    go_wp2_with (first | (go_at_call 23; (with_reducible refine (nm_any _ _ (by assumption)).mono ?_); rintro e w' ⟨rfl, rfl⟩))
    go_ret
    exact ⟨ret_bool E.out, hB0⟩
  cases e3 : nmB d.pay
  · have E : Hid (false = mayD d) := Lib.hid (by rw [mayD_eq]; simp [e3])
    go_enter Tryz.func8, Tryz.ntmps8
    go_wp2_with (first | (go_at_call 23; (with_reducible refine (nm_any _ _ (by assumption)).mono ?_); rintro e w' ⟨rfl, rfl⟩))
    go_ret
    exact ⟨ret_bool E.out, hB0⟩
  cases e4 : decide (d.drw = d.dre)
  rotate_left
  · rw [e4] at s1
    have E : Hid (false = mayD d) := Lib.hid (by rw [mayD_eq]; simp [e4])
    go_enter Tryz.func8, Tryz.ntmps8
    go_wp2_with (first | (go_at_call 23; (with_reducible refine (nm_any _ _ (by assumption)).mono ?_); rintro e w' ⟨rfl, rfl⟩))
    go_ret
    exact ⟨ret_bool E.out, hB0⟩
  rw [e4] at s1
  cases e5 : decide (d.pay = d.dre)
  rotate_left
  · rw [e5] at s2
    have E : Hid (false = mayD d) := Lib.hid (by rw [mayD_eq]; simp [e5])
    go_enter Tryz.func8, Tryz.ntmps8
    go_wp2_with (first | (go_at_call 23; (with_reducible refine (nm_any _ _ (by assumption)).mono ?_); rintro e w' ⟨rfl, rfl⟩))
    go_ret
    exact ⟨ret_bool E.out, hB0⟩
  rw [e5] at s2
  cases e6 : mayM d.cur d.amt
  · have E : Hid (false = mayD d) := Lib.hid (by rw [mayD_eq]; simp [e6])
    go_enter Tryz.func8, Tryz.ntmps8
    go_wp2_with (first | (go_at_call 23; (with_reducible refine (nm_any _ _ (by assumption)).mono ?_); rintro e w' ⟨rfl, rfl⟩) | (go_at_call 24; (with_reducible refine (money_any _ _ _ (by assumption)).mono ?_); rintro e w2 ⟨rfl, hb2⟩; have hk2 := hk0.below hb2 hk0.lt; have hB2 := hB0.trans (hb2.mono hB0.size); have c5 := hk2.cell 5; have c6 := hk2.cell 6; have c7 := hk2.cell 7; have c8 := hk2.cell 8; simp only [List.getElem?_toArray, List.getElem?_cons_zero, List.getElem?_cons_succ] at c5 c6 c7 c8))
    go_ret
    exact ⟨ret_bool E.out, hB2⟩
  by_cases q7 : 1 ≤ d.amt
  rotate_left
  · have e7 : decide (1 ≤ d.amt) = false := decide_eq_false q7
    have p7 : d.amt ≤ 0 := by omega
    have E : Hid (false = mayD d) := Lib.hid (by rw [mayD_eq]; simp [e7])
    go_enter Tryz.func8, Tryz.ntmps8
    go_wp2_with (first | (go_at_call 23; (with_reducible refine (nm_any _ _ (by assumption)).mono ?_); rintro e w' ⟨rfl, rfl⟩) | (go_at_call 24; (with_reducible refine (money_any _ _ _ (by assumption)).mono ?_); rintro e w2 ⟨rfl, hb2⟩; have hk2 := hk0.below hb2 hk0.lt; have hB2 := hB0.trans (hb2.mono hB0.size); have c5 := hk2.cell 5; have c6 := hk2.cell 6; have c7 := hk2.cell 7; have c8 := hk2.cell 8; simp only [List.getElem?_toArray, List.getElem?_cons_zero, List.getElem?_cons_succ] at c5 c6 c7 c8))
    go_ret
    exact ⟨ret_bool E.out, hB2⟩
  have e7 : decide (1 ≤ d.amt) = true := decide_eq_true q7
  have p7 : ¬ d.amt ≤ 0 := by omega
  cases e8 : isDay d.fr
  · have E : Hid (false = mayD d) := Lib.hid (by rw [mayD_eq]; simp [e8])
    go_enter Tryz.func8, Tryz.ntmps8
    go_wp2_with (first | (go_at_call 23; (with_reducible refine (nm_any _ _ (by assumption)).mono ?_); rintro e w' ⟨rfl, rfl⟩) | (go_at_call 24; (with_reducible refine (money_any _ _ _ (by assumption)).mono ?_); rintro e w2 ⟨rfl, hb2⟩; have hk2 := hk0.below hb2 hk0.lt; have hB2 := hB0.trans (hb2.mono hB0.size); have c5 := hk2.cell 5; have c6 := hk2.cell 6; have c7 := hk2.cell 7; have c8 := hk2.cell 8; simp only [List.getElem?_toArray, List.getElem?_cons_zero, List.getElem?_cons_succ] at c5 c6 c7 c8) | (go_at_call 25; (with_reducible refine (isDay_any _ _).mono ?_); rintro e w' ⟨rfl, rfl⟩))
    go_ret
    exact ⟨ret_bool E.out, hB2⟩
  have E : Hid (kindB d.kind d.days = mayD d) := Lib.hid (by rw [mayD_eq, e0, e1, e2, e3, e4, e5, e6, e7, e8]; simp)
  by_cases k0 : d.kind = 0
  · by_cases n0 : d.days = 0
    all_goals
      have E1 : Hid (kindB d.kind d.days = decide (d.days = 0)) := Lib.hid (by unfold kindB; rw [if_pos k0])
      have K0 : (d.kind == 0) = true := by rw [k0]; rfl
      have N0 := (rfl : (d.days == 0) = (d.days == 0))
      rw [show (d.days == 0) = decide (d.days = 0) by rw [Bool.eq_iff_iff]; simp] at N0
      clear k0 n0
      go_enter Tryz.func8, Tryz.ntmps8
      go_wp2_with (first | (go_at_call 23; (with_reducible refine (nm_any _ _ (by assumption)).mono ?_); rintro e w' ⟨rfl, rfl⟩) | (go_at_call 24; (with_reducible refine (money_any _ _ _ (by assumption)).mono ?_); rintro e w2 ⟨rfl, hb2⟩; have hk2 := hk0.below hb2 hk0.lt; have hB2 := hB0.trans (hb2.mono hB0.size); have c5 := hk2.cell 5; have c6 := hk2.cell 6; have c7 := hk2.cell 7; have c8 := hk2.cell 8; simp only [List.getElem?_toArray, List.getElem?_cons_zero, List.getElem?_cons_succ] at c5 c6 c7 c8) | (go_at_call 25; (with_reducible refine (isDay_any _ _).mono ?_); rintro e w' ⟨rfl, rfl⟩))
      go_ret
      exact ⟨ret_bool (by rw [← E.out, E1.out]; rw [Bool.eq_iff_iff]; simp), hB2⟩
  have K0 : (d.kind == 0) = false := by simpa using k0
  by_cases k1 : d.kind = 1
  · have E1 : Hid (kindB d.kind d.days = (decide (1 ≤ d.days) && decide (d.days ≤ 1000))) := Lib.hid (by unfold kindB; rw [if_neg k0]; simp [k1])
    have K1 : (d.kind == 1) = true := by rw [k1]; rfl
    clear k0 k1
    by_cases n1 : 1 ≤ d.days
    all_goals
      go_enter Tryz.func8, Tryz.ntmps8
      go_wp2_with (first | (go_at_call 23; (with_reducible refine (nm_any _ _ (by assumption)).mono ?_); rintro e w' ⟨rfl, rfl⟩) | (go_at_call 24; (with_reducible refine (money_any _ _ _ (by assumption)).mono ?_); rintro e w2 ⟨rfl, hb2⟩; have hk2 := hk0.below hb2 hk0.lt; have hB2 := hB0.trans (hb2.mono hB0.size); have c5 := hk2.cell 5; have c6 := hk2.cell 6; have c7 := hk2.cell 7; have c8 := hk2.cell 8; simp only [List.getElem?_toArray, List.getElem?_cons_zero, List.getElem?_cons_succ] at c5 c6 c7 c8) | (go_at_call 25; (with_reducible refine (isDay_any _ _).mono ?_); rintro e w' ⟨rfl, rfl⟩))
      go_ret
      exact ⟨ret_bool (by rw [← E.out, E1.out]; simp <;> omega), hB2⟩
  have K1 : (d.kind == 1) = false := by simpa using k1
  by_cases k2 : d.kind = 2
  · have E1 : Hid (kindB d.kind d.days = (decide (1 ≤ d.days) && decide (d.days ≤ 1000))) := Lib.hid (by unfold kindB; rw [if_neg k0]; simp [k2])
    have K2 : (d.kind == 2) = true := by rw [k2]; rfl
    clear k0 k1 k2
    by_cases n1 : 1 ≤ d.days
    all_goals
      go_enter Tryz.func8, Tryz.ntmps8
      go_wp2_with (first | (go_at_call 23; (with_reducible refine (nm_any _ _ (by assumption)).mono ?_); rintro e w' ⟨rfl, rfl⟩) | (go_at_call 24; (with_reducible refine (money_any _ _ _ (by assumption)).mono ?_); rintro e w2 ⟨rfl, hb2⟩; have hk2 := hk0.below hb2 hk0.lt; have hB2 := hB0.trans (hb2.mono hB0.size); have c5 := hk2.cell 5; have c6 := hk2.cell 6; have c7 := hk2.cell 7; have c8 := hk2.cell 8; simp only [List.getElem?_toArray, List.getElem?_cons_zero, List.getElem?_cons_succ] at c5 c6 c7 c8) | (go_at_call 25; (with_reducible refine (isDay_any _ _).mono ?_); rintro e w' ⟨rfl, rfl⟩))
      go_ret
      exact ⟨ret_bool (by rw [← E.out, E1.out]; simp <;> omega), hB2⟩
  have K2 : (d.kind == 2) = false := by simpa using k2
  have E1 : Hid (kindB d.kind d.days = false) := Lib.hid (by unfold kindB; rw [if_neg k0]; simp [k1, k2])
  clear k0 k1 k2
  go_enter Tryz.func8, Tryz.ntmps8
  go_wp2_with (first | (go_at_call 23; (with_reducible refine (nm_any _ _ (by assumption)).mono ?_); rintro e w' ⟨rfl, rfl⟩) | (go_at_call 24; (with_reducible refine (money_any _ _ _ (by assumption)).mono ?_); rintro e w2 ⟨rfl, hb2⟩; have hk2 := hk0.below hb2 hk0.lt; have hB2 := hB0.trans (hb2.mono hB0.size); have c5 := hk2.cell 5; have c6 := hk2.cell 6; have c7 := hk2.cell 7; have c8 := hk2.cell 8; simp only [List.getElem?_toArray, List.getElem?_cons_zero, List.getElem?_cons_succ] at c5 c6 c7 c8) | (go_at_call 25; (with_reducible refine (isDay_any _ _).mono ?_); rintro e w' ⟨rfl, rfl⟩))
  go_ret
  exact ⟨ret_bool (by rw [← E.out, E1.out]), hB2⟩
end Go.Proofs.YtlaclkiedjhphaaGreatDoor.kit
