/- Leap years, the days of years and months: the program and the document. Condition: the table of the months. -/
import Derived.Test.YtmgijoomfailoaaDoorDy
import Derived.Test.YtmgijoomfailoaaDoorCalA
import Derived.Lib.AppendIntMem
namespace Go.Proofs.YtmgijoomfailoaaDoor.cal
open Go.RowKit Go.Proofs.YtmgijoomfailoaaDoor.kit Go.PlainAid
set_option linter.unusedVariables false

abbrev monTab : List Int := [31, 28, 31, 30, 31, 30, 31, 31, 30, 31, 30, 31]
abbrev MonTab (w : World) : Prop := Lib.TabIs Tryd.prog w "supercargo/day.months" .i64 monTab
theorem mon_cell {w : World} (h : MonTab w) (i : Nat) (hi : i < 12) : w.cell? ⟨0, i, none⟩ = some (.int .i64 (monTab.getD i 0)) := h.cell (g := 0) (by kernel_rfl) i hi
theorem isLong_any (y : Nat) (w : World) : Calls Tryd.prog 56 #[.int .i64 (y : Int)] w fun e w' => e = .returned (.bool (leapB y)) ∧ w = w' := by
  have a1 : (y : Int) % 4 = ((y % 4 : Nat) : Int) := by omega
  have a2 : Int.tmod (y : Int) 4 = ((y % 4 : Nat) : Int) := by rw [Int.tmod_eq_emod_of_nonneg (by omega), a1]
  have b1 : (y : Int) % 100 = ((y % 100 : Nat) : Int) := by omega
  have b2 : Int.tmod (y : Int) 100 = ((y % 100 : Nat) : Int) := by rw [Int.tmod_eq_emod_of_nonneg (by omega), b1]
  have c1 : (y : Int) % 400 = ((y % 400 : Nat) : Int) := by omega
  have c2 : Int.tmod (y : Int) 400 = ((y % 400 : Nat) : Int) := by rw [Int.tmod_eq_emod_of_nonneg (by omega), c1]
  obtain ⟨E, hE⟩ : ∃ E, leapB y = E := ⟨_, rfl⟩
  rw [hE]
  replace hE := Lib.hid hE
  unfold leapB at hE
  generalize y % 4 = p at *
  generalize y % 100 = q at *
  generalize y % 400 = r at *
  by_cases hp : p = 0 <;> by_cases hq : q = 0 <;> by_cases hr : r = 0
  all_goals
    have HE : Hid (E = _) := Lib.hid (hE.out.symm)
    first | subst hp | (have t1 : ((p : Int) == 0) = false := by simp; omega)
    first | subst hq | (have t2 : ((q : Int) == 0) = false := by simp; omega)
    first | subst hr | (have t3 : ((r : Int) == 0) = false := by simp; omega)
    clear hE
    go_enter Tryd.func56, Tryd.ntmps56
    go_wp2
    go_ret
    exact ⟨ret_bool (by rw [HE.out]; simp [*]), rfl⟩
theorem rleap_any (y : Nat) (w : World) : Calls Tryd.prog 57 #[.int .i64 (y : Int)] w fun e w' => e = .returned (.bool (leapB y)) ∧ w = w' := by
  have a1 : (y : Int) % 4 = ((y % 4 : Nat) : Int) := by omega
  have a2 : Int.tmod (y : Int) 4 = ((y % 4 : Nat) : Int) := by rw [Int.tmod_eq_emod_of_nonneg (by omega), a1]
  have b1 : (y : Int) % 100 = ((y % 100 : Nat) : Int) := by omega
  have b2 : Int.tmod (y : Int) 100 = ((y % 100 : Nat) : Int) := by rw [Int.tmod_eq_emod_of_nonneg (by omega), b1]
  have c1 : (y : Int) % 400 = ((y % 400 : Nat) : Int) := by omega
  have c2 : Int.tmod (y : Int) 400 = ((y % 400 : Nat) : Int) := by rw [Int.tmod_eq_emod_of_nonneg (by omega), c1]
  obtain ⟨E, hE⟩ : ∃ E, leapB y = E := ⟨_, rfl⟩
  rw [hE]
  replace hE := Lib.hid hE
  unfold leapB at hE
  generalize y % 4 = p at *
  generalize y % 100 = q at *
  generalize y % 400 = r at *
  by_cases hp : p = 0 <;> by_cases hq : q = 0 <;> by_cases hr : r = 0
  all_goals
    have HE : Hid (E = _) := Lib.hid (hE.out.symm)
    first | subst hp | (have t1 : ((p : Int) == 0) = false := by simp; omega)
    first | subst hq | (have t2 : ((q : Int) == 0) = false := by simp; omega)
    first | subst hr | (have t3 : ((r : Int) == 0) = false := by simp; omega)
    clear hE
    go_enter Tryd.func57, Tryd.ntmps57
    go_wp2
    go_ret
    exact ⟨ret_bool (by rw [HE.out]; simp [*]), rfl⟩
theorem daysOf_any (y : Nat) (w : World) : Calls Tryd.prog 38 #[.int .i64 (y : Int)] w fun e w' => e = .returned (.int .i64 (yearL y : Int)) ∧ w = w' := by
  have HL := Lib.hid (fun w => isLong_any y w)
  cases h : leapB y
  · have e1 : Hid ((365 : Int) = (yearL y : Int)) := Lib.hid (by unfold yearL; rw [h]; rfl)
    rw [h] at HL
    clear h
    go_enter Tryd.func38, Tryd.ntmps38
    go_wp2_with fail
    refine (HL.out _).mono ?_
    rintro e w' ⟨rfl, rfl⟩
    go_wp2
    go_ret
    exact ⟨ret_int e1.out, rfl⟩
  · have e1 : Hid ((366 : Int) = (yearL y : Int)) := Lib.hid (by unfold yearL; rw [h]; rfl)
    rw [h] at HL
    clear h
    go_enter Tryd.func38, Tryd.ntmps38
    go_wp2_with fail
    refine (HL.out _).mono ?_
    rintro e w' ⟨rfl, rfl⟩
    go_wp2
    go_ret
    exact ⟨ret_int e1.out, rfl⟩
theorem ryear_any (y : Nat) (w : World) : Calls Tryd.prog 43 #[.int .i64 (y : Int)] w fun e w' => e = .returned (.int .i64 (yearL y : Int)) ∧ w = w' := by
  have HL := Lib.hid (fun w => rleap_any y w)
  cases h : leapB y
  · have e1 : Hid ((365 : Int) = (yearL y : Int)) := Lib.hid (by unfold yearL; rw [h]; rfl)
    rw [h] at HL
    clear h
    go_enter Tryd.func43, Tryd.ntmps43
    go_wp2_with fail
    refine (HL.out _).mono ?_
    rintro e w' ⟨rfl, rfl⟩
    go_wp2
    go_ret
    exact ⟨ret_int e1.out, rfl⟩
  · have e1 : Hid ((366 : Int) = (yearL y : Int)) := Lib.hid (by unfold yearL; rw [h]; rfl)
    rw [h] at HL
    clear h
    go_enter Tryd.func43, Tryd.ntmps43
    go_wp2_with fail
    refine (HL.out _).mono ?_
    rintro e w' ⟨rfl, rfl⟩
    go_wp2
    go_ret
    exact ⟨ret_int e1.out, rfl⟩
theorem len_two (y : Nat) : lenM y 2 = if leapB y = true then 29 else 28 := by unfold lenM; simp
theorem len_not {y m : Nat} (h : m ≠ 2) : lenM y m = if m = 4 ∨ m = 6 ∨ m = 9 ∨ m = 11 then 30 else 31 := by unfold lenM; rw [if_neg h]
set_option maxHeartbeats 1600000 in
theorem length_any (y m : Nat) (h1 : 1 ≤ m) (h2 : m ≤ 12) (w : World) (ht : MonTab w) : Calls Tryd.prog 39 #[.int .i64 (y : Int), .int .i64 (m : Int)] w fun e w' => e = .returned (.int .i64 (lenM y m : Int)) ∧ w = w' := by
  have HL := Lib.hid (fun w => isLong_any y w)
  by_cases hm : m = 2
  · subst hm
    have c := mon_cell ht 1 (by omega)
    have E := len_two y
    clear ht
    cases h : leapB y
    · have e1 : Hid ((28 : Int) = (lenM y 2 : Int)) := Lib.hid (by rw [E, h]; rfl)
      rw [h] at HL
      clear h E
      go_enter Tryd.func39, Tryd.ntmps39
      go_wp2_with fail
      refine (HL.out _).mono ?_
      rintro e w' ⟨rfl, rfl⟩
      go_wp2
      go_ret
      exact ⟨ret_int e1.out, rfl⟩
    · have e1 : Hid ((29 : Int) = (lenM y 2 : Int)) := Lib.hid (by rw [E, h]; rfl)
      rw [h] at HL
      clear h E
      go_enter Tryd.func39, Tryd.ntmps39
      go_wp2_with fail
      refine (HL.out _).mono ?_
      rintro e w' ⟨rfl, rfl⟩
      go_wp2
      go_ret
      exact ⟨ret_int e1.out, rfl⟩
  · have E := len_not (y := y) hm
    have hcase : m = 1 ∨ m = 3 ∨ m = 4 ∨ m = 5 ∨ m = 6 ∨ m = 7 ∨ m = 8 ∨ m = 9 ∨ m = 10 ∨ m = 11 ∨ m = 12 := by omega
    rcases hcase with rfl | rfl | rfl | rfl | rfl | rfl | rfl | rfl | rfl | rfl | rfl
    · have c : w.cell? ⟨0, 0, none⟩ = some (.int .i64 31) := mon_cell ht 0 (by omega)
      have e1 : Hid ((31 : Int) = (lenM y 1 : Int)) := Lib.hid (by rw [E]; simp)
      clear E ht hm
      go_enter Tryd.func39, Tryd.ntmps39
      go_wp2
      go_ret
      exact ⟨ret_int e1.out, rfl⟩
    · have c : w.cell? ⟨0, 2, none⟩ = some (.int .i64 31) := mon_cell ht 2 (by omega)
      have e1 : Hid ((31 : Int) = (lenM y 3 : Int)) := Lib.hid (by rw [E]; simp)
      clear E ht hm
      go_enter Tryd.func39, Tryd.ntmps39
      go_wp2
      go_ret
      exact ⟨ret_int e1.out, rfl⟩
    · have c : w.cell? ⟨0, 3, none⟩ = some (.int .i64 30) := mon_cell ht 3 (by omega)
      have e1 : Hid ((30 : Int) = (lenM y 4 : Int)) := Lib.hid (by rw [E]; simp)
      clear E ht hm
      go_enter Tryd.func39, Tryd.ntmps39
      go_wp2
      go_ret
      exact ⟨ret_int e1.out, rfl⟩
    · have c : w.cell? ⟨0, 4, none⟩ = some (.int .i64 31) := mon_cell ht 4 (by omega)
      have e1 : Hid ((31 : Int) = (lenM y 5 : Int)) := Lib.hid (by rw [E]; simp)
      clear E ht hm
      go_enter Tryd.func39, Tryd.ntmps39
      go_wp2
      go_ret
      exact ⟨ret_int e1.out, rfl⟩
    · have c : w.cell? ⟨0, 5, none⟩ = some (.int .i64 30) := mon_cell ht 5 (by omega)
      have e1 : Hid ((30 : Int) = (lenM y 6 : Int)) := Lib.hid (by rw [E]; simp)
      clear E ht hm
      go_enter Tryd.func39, Tryd.ntmps39
      go_wp2
      go_ret
      exact ⟨ret_int e1.out, rfl⟩
    · have c : w.cell? ⟨0, 6, none⟩ = some (.int .i64 31) := mon_cell ht 6 (by omega)
      have e1 : Hid ((31 : Int) = (lenM y 7 : Int)) := Lib.hid (by rw [E]; simp)
      clear E ht hm
      go_enter Tryd.func39, Tryd.ntmps39
      go_wp2
      go_ret
      exact ⟨ret_int e1.out, rfl⟩
    · have c : w.cell? ⟨0, 7, none⟩ = some (.int .i64 31) := mon_cell ht 7 (by omega)
      have e1 : Hid ((31 : Int) = (lenM y 8 : Int)) := Lib.hid (by rw [E]; simp)
      clear E ht hm
      go_enter Tryd.func39, Tryd.ntmps39
      go_wp2
      go_ret
      exact ⟨ret_int e1.out, rfl⟩
    · have c : w.cell? ⟨0, 8, none⟩ = some (.int .i64 30) := mon_cell ht 8 (by omega)
      have e1 : Hid ((30 : Int) = (lenM y 9 : Int)) := Lib.hid (by rw [E]; simp)
      clear E ht hm
      go_enter Tryd.func39, Tryd.ntmps39
      go_wp2
      go_ret
      exact ⟨ret_int e1.out, rfl⟩
    · have c : w.cell? ⟨0, 9, none⟩ = some (.int .i64 31) := mon_cell ht 9 (by omega)
      have e1 : Hid ((31 : Int) = (lenM y 10 : Int)) := Lib.hid (by rw [E]; simp)
      clear E ht hm
      go_enter Tryd.func39, Tryd.ntmps39
      go_wp2
      go_ret
      exact ⟨ret_int e1.out, rfl⟩
    · have c : w.cell? ⟨0, 10, none⟩ = some (.int .i64 30) := mon_cell ht 10 (by omega)
      have e1 : Hid ((30 : Int) = (lenM y 11 : Int)) := Lib.hid (by rw [E]; simp)
      clear E ht hm
      go_enter Tryd.func39, Tryd.ntmps39
      go_wp2
      go_ret
      exact ⟨ret_int e1.out, rfl⟩
    · have c : w.cell? ⟨0, 11, none⟩ = some (.int .i64 31) := mon_cell ht 11 (by omega)
      have e1 : Hid ((31 : Int) = (lenM y 12 : Int)) := Lib.hid (by rw [E]; simp)
      clear E ht hm
      go_enter Tryd.func39, Tryd.ntmps39
      go_wp2
      go_ret
      exact ⟨ret_int e1.out, rfl⟩
set_option maxHeartbeats 1600000 in
theorem rdays_any (y m : Nat) (w : World) : Calls Tryd.prog 41 #[.int .i64 (y : Int), .int .i64 (m : Int)] w fun e w' => e = .returned (.int .i64 (lenM y m : Int)) ∧ w = w' := by
  have HL := Lib.hid (fun w => rleap_any y w)
  by_cases hm : m = 2
  · subst hm
    have E := len_two y
    cases h : leapB y
    · have e1 : Hid ((28 : Int) = (lenM y 2 : Int)) := Lib.hid (by rw [E, h]; rfl)
      rw [h] at HL
      clear h E
      go_enter Tryd.func41, Tryd.ntmps41
      go_wp2_with fail
      refine (HL.out _).mono ?_
      rintro e w' ⟨rfl, rfl⟩
      go_wp2
      go_ret
      exact ⟨ret_int e1.out, rfl⟩
    · have e1 : Hid ((29 : Int) = (lenM y 2 : Int)) := Lib.hid (by rw [E, h]; rfl)
      rw [h] at HL
      clear h E
      go_enter Tryd.func41, Tryd.ntmps41
      go_wp2_with fail
      refine (HL.out _).mono ?_
      rintro e w' ⟨rfl, rfl⟩
      go_wp2
      go_ret
      exact ⟨ret_int e1.out, rfl⟩
  · have E := len_not (y := y) hm
    have t2 : ((m : Int) == 2) = false := by simp; omega
    by_cases h4 : m = 4
    · subst h4
      have e1 : Hid ((30 : Int) = (lenM y 4 : Int)) := Lib.hid (by rw [E]; simp)
      clear E
      go_enter Tryd.func41, Tryd.ntmps41
      go_wp2
      go_ret
      exact ⟨ret_int e1.out, rfl⟩
    have t4 : ((m : Int) == 4) = false := by simp; omega
    by_cases h6 : m = 6
    · subst h6
      have e1 : Hid ((30 : Int) = (lenM y 6 : Int)) := Lib.hid (by rw [E]; simp)
      clear E
      go_enter Tryd.func41, Tryd.ntmps41
      go_wp2
      go_ret
      exact ⟨ret_int e1.out, rfl⟩
    have t6 : ((m : Int) == 6) = false := by simp; omega
    by_cases h9 : m = 9
    · subst h9
      have e1 : Hid ((30 : Int) = (lenM y 9 : Int)) := Lib.hid (by rw [E]; simp)
      clear E
      go_enter Tryd.func41, Tryd.ntmps41
      go_wp2
      go_ret
      exact ⟨ret_int e1.out, rfl⟩
    have t9 : ((m : Int) == 9) = false := by simp; omega
    by_cases h11 : m = 11
    · subst h11
      have e1 : Hid ((30 : Int) = (lenM y 11 : Int)) := Lib.hid (by rw [E]; simp)
      clear E
      go_enter Tryd.func41, Tryd.ntmps41
      go_wp2
      go_ret
      exact ⟨ret_int e1.out, rfl⟩
    have t11 : ((m : Int) == 11) = false := by simp; omega
    have e1 : Hid ((31 : Int) = (lenM y m : Int)) := Lib.hid (by rw [E, if_neg (by omega)]; rfl)
    clear hm h4 h6 h9 h11
    clear E
    go_enter Tryd.func41, Tryd.ntmps41
    go_wp2
    go_ret
    exact ⟨ret_int e1.out, rfl⟩
end Go.Proofs.YtmgijoomfailoaaDoor.cal
