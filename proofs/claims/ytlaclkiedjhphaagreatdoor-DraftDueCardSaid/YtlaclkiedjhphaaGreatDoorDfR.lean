/- Which draft may be: the document. No condition. -/
import Derived.Test.YtlaclkiedjhphaaGreatDoorDfA
namespace Go.Proofs.YtlaclkiedjhphaaGreatDoor.kit
open Go.RowKit Go.PlainAid
set_option linter.unusedVariables false

def monR (s : ByteArray) (n : Int) : Bool := curB s && decide (1 ≤ n ∧ n ≤ 1099511627776)
set_option maxHeartbeats 3200000 in
theorem rmoney_any (s : ByteArray) (n : Int) (w : World) (hs : s.size ≤ maxLen) :
    Calls Tryz.prog 27 #[.agg #[.string s, .int .i64 n]] w fun e w' => e = .returned (.bool (monR s n)) ∧ Below w.heap.size w w' := by
  unfold maxLen at hs
  have hB0 : Below w.heap.size w (w.alloc (.cells #[.string s, .int .i64 n] 26)) := (Below.refl _ _).alloc (Nat.le_refl _) _
  have hk0 : Blk (w.alloc (.cells #[.string s, .int .i64 n] 26)) w.heap.size 26 #[.string s, .int .i64 n] := Blk.new _ _ _
  have a0 := hk0.cell 0
  have a1 := hk0.cell 1
  simp only [List.getElem?_toArray, List.getElem?_cons_zero, List.getElem?_cons_succ] at a0 a1
  by_cases h3 : s.size = 3
  rotate_left
  · have e : Hid (false = monR s n) := Lib.hid (by unfold monR curB; rw [decide_eq_false h3]; rfl)
    have d0 : ((s.size : Int) != 3) = true := by simp; omega
    have d1 : (s.size != 3) = true := by simp; omega
    go_enter Tryz.func27, Tryz.ntmps27
    go_wp2
    go_ret
    exact ⟨ret_bool e.out, hB0⟩
  by_cases h1 : n < 1
  · have e : Hid (false = monR s n) := Lib.hid (by unfold monR; rw [decide_eq_false (p := 1 ≤ n ∧ n ≤ 1099511627776) (by omega), Bool.and_false])
    go_enter Tryz.func27, Tryz.ntmps27
    go_wp2
    go_ret
    exact ⟨ret_bool e.out, hB0⟩
  by_cases h2 : 1099511627776 < n
  · have e : Hid (false = monR s n) := Lib.hid (by unfold monR; rw [decide_eq_false (p := 1 ≤ n ∧ n ≤ 1099511627776) (by omega), Bool.and_false])
    go_enter Tryz.func27, Tryz.ntmps27
    go_wp2
    go_ret
    exact ⟨ret_bool e.out, hB0⟩
  have hb := get_bt s
  have HH : Hid (monR s n = curF s 3) := Lib.hid (by unfold monR curB; rw [decide_eq_true h3, decide_eq_true (p := 1 ≤ n ∧ n ≤ 1099511627776) (by omega), Bool.and_true, Bool.true_and])
  go_enter Tryz.func27, Tryz.ntmps27
  go_wp2
  go_loop [3] (fun i => ∃ k : Nat, k ≤ 3 ∧ i = .int .i64 k ∧ Hid (curF s k = true)) (fun i => 3 - (intOf i).toNat)
  case atStart => exact ⟨0, Nat.zero_le _, rfl, Lib.hid rfl⟩
  case round =>
    obtain ⟨k, hk, rfl, hd⟩ := hrel
    by_cases hlt : k < 3
    · have hks : k < s.size := by omega
      have HOK := Lib.hid (curF_bad (s := s) hlt)
      have HD1 : Hid (upB (bt s k) = true → curF s (k + 1) = true) := Lib.hid (fun h => by unfold curF; rw [hd.out, h]; rfl)
      by_cases q0 : bt s k < 65
      · have HE : Hid (false = monR s n) := Lib.hid (by rw [HH.out]; exact (HOK.out (upB_not.2 (by omega))).symm)
        go_wp2
        go_ret
        exact ⟨ret_bool HE.out, hB0⟩
      by_cases q1 : 90 < bt s k
      · have HE : Hid (false = monR s n) := Lib.hid (by rw [HH.out]; exact (HOK.out (upB_not.2 (by omega))).symm)
        go_wp2
        go_ret
        exact ⟨ret_bool HE.out, hB0⟩
      have HD2 := Lib.hid (HD1.out (upB_iff.2 (by omega)))
      go_wp2
      go_round
      case rel => exact ⟨k + 1, by omega, by go_num, HD2⟩
      case measure => simp [intOf]; omega
    · have hk3 : k = 3 := by omega
      subst hk3
      have HE : Hid (true = monR s n) := Lib.hid (by rw [HH.out, hd.out])
      go_wp2
      go_ret
      exact ⟨ret_bool HE.out, hB0⟩
theorem mayD_eqR (d : Dr) : mayD d = (nmB d.num && (nmB d.drw && (nmB d.dre && (nmB d.pay && (!decide (d.drw = d.dre) && (!decide (d.pay = d.dre) && (monR d.cur d.amt && (isDay d.fr && kindB d.kind d.days)))))))) := by
  unfold mayD monR
  simp only [Bool.and_assoc]
set_option maxRecDepth 100000 in
set_option maxHeartbeats 6400000 in
theorem rmayD_any (d : Dr) (w : World) (hd : d.ok) : Calls Tryz.prog 9 #[.agg #[.string d.num, .string d.drw, .string d.dre, .string d.pay, .string d.cur, .int .i64 d.amt, .int .i64 d.kind, .int .i64 d.days, .int .i64 d.fr]] w fun e w' => e = .returned (.bool (mayD d)) ∧ Below w.heap.size w w' := by
  have h1 := hd.n; have h2 := hd.w; have h3 := hd.e; have h4 := hd.p; have h5 := hd.c
  clear hd
  have hB0 : Below w.heap.size w (w.alloc (.cells #[.string d.num, .string d.drw, .string d.dre, .string d.pay, .string d.cur, .int .i64 d.amt, .int .i64 d.kind, .int .i64 d.days, .int .i64 d.fr] 28)) := (Below.refl _ _).alloc (Nat.le_refl _) _
  have hk0 : Blk (w.alloc (.cells #[.string d.num, .string d.drw, .string d.dre, .string d.pay, .string d.cur, .int .i64 d.amt, .int .i64 d.kind, .int .i64 d.days, .int .i64 d.fr] 28)) w.heap.size 28 #[.string d.num, .string d.drw, .string d.dre, .string d.pay, .string d.cur, .int .i64 d.amt, .int .i64 d.kind, .int .i64 d.days, .int .i64 d.fr] := Blk.new _ _ _
  have s1 := eq_str d.drw d.dre
  have s2 := eq_str d.pay d.dre
  cases e0 : nmB d.num
  · have E : Hid (false = mayD d) := Lib.hid (by rw [mayD_eqR]; simp [e0])
    go_enter Tryz.func9, Tryz.ntmps9
    go_wp2_with (first | (go_at_call 26; (with_reducible refine (rnm_any _ _ (by assumption)).mono ?_); rintro e w' ⟨rfl, rfl⟩))
    go_ret
    exact ⟨ret_bool E.out, hB0⟩
  cases e1 : nmB d.drw
  · have E : Hid (false = mayD d) := Lib.hid (by rw [mayD_eqR]; simp [e1])
    go_enter Tryz.func9, Tryz.ntmps9
    go_wp2_with (first | (go_at_call 26; (with_reducible refine (rnm_any _ _ (by assumption)).mono ?_); rintro e w' ⟨rfl, rfl⟩))
    go_ret
    exact ⟨ret_bool E.out, hB0⟩
  cases e2 : nmB d.dre
  · have E : Hid (false = mayD d) := Lib.hid (by rw [mayD_eqR]; simp [e2])
    go_enter Tryz.func9, Tryz.ntmps9
    go_wp2_with (first | (go_at_call 26; (with_reducible refine (rnm_any _ _ (by assumption)).mono ?_); rintro e w' ⟨rfl, rfl⟩))
    go_ret
    exact ⟨ret_bool E.out, hB0⟩
  cases e3 : nmB d.pay
  · have E : Hid (false = mayD d) := Lib.hid (by rw [mayD_eqR]; simp [e3])
    go_enter Tryz.func9, Tryz.ntmps9
    go_wp2_with (first | (go_at_call 26; (with_reducible refine (rnm_any _ _ (by assumption)).mono ?_); rintro e w' ⟨rfl, rfl⟩))
    go_ret
    exact ⟨ret_bool E.out, hB0⟩
  cases e4 : decide (d.drw = d.dre)
  rotate_left
  · rw [e4] at s1
    have E : Hid (false = mayD d) := Lib.hid (by rw [mayD_eqR]; simp [e4])
    go_enter Tryz.func9, Tryz.ntmps9
    go_wp2_with (first | (go_at_call 26; (with_reducible refine (rnm_any _ _ (by assumption)).mono ?_); rintro e w' ⟨rfl, rfl⟩))
    go_ret
    exact ⟨ret_bool E.out, hB0⟩
  rw [e4] at s1
  cases e5 : decide (d.pay = d.dre)
  rotate_left
  · rw [e5] at s2
    have E : Hid (false = mayD d) := Lib.hid (by rw [mayD_eqR]; simp [e5])
    go_enter Tryz.func9, Tryz.ntmps9
    go_wp2_with (first | (go_at_call 26; (with_reducible refine (rnm_any _ _ (by assumption)).mono ?_); rintro e w' ⟨rfl, rfl⟩))
    go_ret
    exact ⟨ret_bool E.out, hB0⟩
  rw [e5] at s2
  cases e6 : monR d.cur d.amt
  · have E : Hid (false = mayD d) := Lib.hid (by rw [mayD_eqR]; simp [e6])
    go_enter Tryz.func9, Tryz.ntmps9
    go_wp2_with (first | (go_at_call 26; (with_reducible refine (rnm_any _ _ (by assumption)).mono ?_); rintro e w' ⟨rfl, rfl⟩) | (go_at_call 27; (with_reducible refine (rmoney_any _ _ _ (by assumption)).mono ?_); rintro e w2 ⟨rfl, hb2⟩; have hk2 := hk0.below hb2 hk0.lt; have hB2 := hB0.trans (hb2.mono hB0.size); have c5 := hk2.cell 5; have c6 := hk2.cell 6; have c7 := hk2.cell 7; have c8 := hk2.cell 8; simp only [List.getElem?_toArray, List.getElem?_cons_zero, List.getElem?_cons_succ] at c5 c6 c7 c8))
    go_ret
    exact ⟨ret_bool E.out, hB2⟩
  by_cases q8 : d.fr < 0
  · have e8 : isDay d.fr = false := decide_eq_false (by omega)
    have E : Hid (false = mayD d) := Lib.hid (by rw [mayD_eqR]; simp [e8])
    go_enter Tryz.func9, Tryz.ntmps9
    go_wp2_with (first | (go_at_call 26; (with_reducible refine (rnm_any _ _ (by assumption)).mono ?_); rintro e w' ⟨rfl, rfl⟩) | (go_at_call 27; (with_reducible refine (rmoney_any _ _ _ (by assumption)).mono ?_); rintro e w2 ⟨rfl, hb2⟩; have hk2 := hk0.below hb2 hk0.lt; have hB2 := hB0.trans (hb2.mono hB0.size); have c5 := hk2.cell 5; have c6 := hk2.cell 6; have c7 := hk2.cell 7; have c8 := hk2.cell 8; simp only [List.getElem?_toArray, List.getElem?_cons_zero, List.getElem?_cons_succ] at c5 c6 c7 c8))
    go_ret
    exact ⟨ret_bool E.out, hB2⟩
  by_cases q9 : 1048576 < d.fr
  · have e8 : isDay d.fr = false := decide_eq_false (by omega)
    have E : Hid (false = mayD d) := Lib.hid (by rw [mayD_eqR]; simp [e8])
    go_enter Tryz.func9, Tryz.ntmps9
    go_wp2_with (first | (go_at_call 26; (with_reducible refine (rnm_any _ _ (by assumption)).mono ?_); rintro e w' ⟨rfl, rfl⟩) | (go_at_call 27; (with_reducible refine (rmoney_any _ _ _ (by assumption)).mono ?_); rintro e w2 ⟨rfl, hb2⟩; have hk2 := hk0.below hb2 hk0.lt; have hB2 := hB0.trans (hb2.mono hB0.size); have c5 := hk2.cell 5; have c6 := hk2.cell 6; have c7 := hk2.cell 7; have c8 := hk2.cell 8; simp only [List.getElem?_toArray, List.getElem?_cons_zero, List.getElem?_cons_succ] at c5 c6 c7 c8))
    go_ret
    exact ⟨ret_bool E.out, hB2⟩
  have e8 : isDay d.fr = true := decide_eq_true (by omega)
  have E : Hid (kindB d.kind d.days = mayD d) := Lib.hid (by rw [mayD_eqR, e0, e1, e2, e3, e4, e5, e6, e8]; simp)
  by_cases k0 : d.kind = 0
  · have E1 : Hid (kindB d.kind d.days = decide (d.days = 0)) := Lib.hid (by unfold kindB; rw [if_pos k0])
    have K0 : (d.kind == 0) = true := by rw [k0]; rfl
    clear k0
    go_enter Tryz.func9, Tryz.ntmps9
    go_wp2_with (first | (go_at_call 26; (with_reducible refine (rnm_any _ _ (by assumption)).mono ?_); rintro e w' ⟨rfl, rfl⟩) | (go_at_call 27; (with_reducible refine (rmoney_any _ _ _ (by assumption)).mono ?_); rintro e w2 ⟨rfl, hb2⟩; have hk2 := hk0.below hb2 hk0.lt; have hB2 := hB0.trans (hb2.mono hB0.size); have c5 := hk2.cell 5; have c6 := hk2.cell 6; have c7 := hk2.cell 7; have c8 := hk2.cell 8; simp only [List.getElem?_toArray, List.getElem?_cons_zero, List.getElem?_cons_succ] at c5 c6 c7 c8))
    go_ret
    exact ⟨ret_bool (by rw [← E.out, E1.out]; rw [Bool.eq_iff_iff]; simp), hB2⟩
  have K0 : (d.kind == 0) = false := by simpa using k0
  by_cases k1 : d.kind = 1
  · have E1 : Hid (kindB d.kind d.days = (decide (1 ≤ d.days) && decide (d.days ≤ 1000))) := Lib.hid (by unfold kindB; rw [if_neg k0]; simp [k1])
    have K1 : (d.kind == 1) = true := by rw [k1]; rfl
    clear k0 k1
    by_cases n1 : 1 ≤ d.days
    all_goals
      go_enter Tryz.func9, Tryz.ntmps9
      go_wp2_with (first | (go_at_call 26; (with_reducible refine (rnm_any _ _ (by assumption)).mono ?_); rintro e w' ⟨rfl, rfl⟩) | (go_at_call 27; (with_reducible refine (rmoney_any _ _ _ (by assumption)).mono ?_); rintro e w2 ⟨rfl, hb2⟩; have hk2 := hk0.below hb2 hk0.lt; have hB2 := hB0.trans (hb2.mono hB0.size); have c5 := hk2.cell 5; have c6 := hk2.cell 6; have c7 := hk2.cell 7; have c8 := hk2.cell 8; simp only [List.getElem?_toArray, List.getElem?_cons_zero, List.getElem?_cons_succ] at c5 c6 c7 c8))
      go_ret
      exact ⟨ret_bool (by rw [← E.out, E1.out]; simp <;> omega), hB2⟩
  have K1 : (d.kind == 1) = false := by simpa using k1
  by_cases k2 : d.kind = 2
  · have E1 : Hid (kindB d.kind d.days = (decide (1 ≤ d.days) && decide (d.days ≤ 1000))) := Lib.hid (by unfold kindB; rw [if_neg k0]; simp [k2])
    have K2 : (d.kind == 2) = true := by rw [k2]; rfl
    clear k0 k1 k2
    by_cases n1 : 1 ≤ d.days
    all_goals
      go_enter Tryz.func9, Tryz.ntmps9
      go_wp2_with (first | (go_at_call 26; (with_reducible refine (rnm_any _ _ (by assumption)).mono ?_); rintro e w' ⟨rfl, rfl⟩) | (go_at_call 27; (with_reducible refine (rmoney_any _ _ _ (by assumption)).mono ?_); rintro e w2 ⟨rfl, hb2⟩; have hk2 := hk0.below hb2 hk0.lt; have hB2 := hB0.trans (hb2.mono hB0.size); have c5 := hk2.cell 5; have c6 := hk2.cell 6; have c7 := hk2.cell 7; have c8 := hk2.cell 8; simp only [List.getElem?_toArray, List.getElem?_cons_zero, List.getElem?_cons_succ] at c5 c6 c7 c8))
      go_ret
      exact ⟨ret_bool (by rw [← E.out, E1.out]; simp <;> omega), hB2⟩
  have K2 : (d.kind == 2) = false := by simpa using k2
  have E1 : Hid (kindB d.kind d.days = false) := Lib.hid (by unfold kindB; rw [if_neg k0]; simp [k1, k2])
  clear k0 k1 k2
  go_enter Tryz.func9, Tryz.ntmps9
  go_wp2_with (first | (go_at_call 26; (with_reducible refine (rnm_any _ _ (by assumption)).mono ?_); rintro e w' ⟨rfl, rfl⟩) | (go_at_call 27; (with_reducible refine (rmoney_any _ _ _ (by assumption)).mono ?_); rintro e w2 ⟨rfl, hb2⟩; have hk2 := hk0.below hb2 hk0.lt; have hB2 := hB0.trans (hb2.mono hB0.size); have c5 := hk2.cell 5; have c6 := hk2.cell 6; have c7 := hk2.cell 7; have c8 := hk2.cell 8; simp only [List.getElem?_toArray, List.getElem?_cons_zero, List.getElem?_cons_succ] at c5 c6 c7 c8))
  go_ret
  exact ⟨ret_bool (by rw [← E.out, E1.out]), hB2⟩
end Go.Proofs.YtlaclkiedjhphaaGreatDoor.kit
