/- The plain words of chapter 14 and the contracts of the small functions. No condition. -/
import Derived.Test.YteciegpfiipokaaNameA
import Derived.Test.YteciegpfiipokaaNameB
namespace Go.Proofs.Yteciegpfiipokaa
open Go.RowKit Go.Proofs.Yteciegpfiipokaa.kit
set_option linter.unusedVariables false

structure Ship where
  nm : ByteArray
  ba : Int
  ro : Int
  ti : Int
  st : Int
  tr : Int
  li : Int
  up : Int
  mo : Int
structure Load where
  b : Int
  r : Int
  t : Int
  box : ByteArray
  we : Int
  cl : Int
  po : Int
def Ship.cells (s : Ship) : List Value := [.string s.nm, .int .i64 s.ba, .int .i64 s.ro, .int .i64 s.ti, .int .i64 s.st, .int .i64 s.tr, .int .i64 s.li, .int .i64 s.up, .int .i64 s.mo]
def Load.cells (x : Load) : List Value := [.int .i64 x.b, .int .i64 x.r, .int .i64 x.t, .string x.box, .int .i64 x.we, .int .i64 x.cl, .int .i64 x.po]
def Ship.wf (s : Ship) : Prop := s.nm.size ≤ maxLen ∧ I64 s.ba ∧ I64 s.ro ∧ I64 s.ti ∧ I64 s.st ∧ I64 s.tr ∧ I64 s.li ∧ I64 s.up ∧ I64 s.mo
def Load.wf (x : Load) : Prop := I64 x.b ∧ I64 x.r ∧ I64 x.t ∧ x.box.size ≤ maxLen ∧ I64 x.we ∧ I64 x.cl ∧ I64 x.po

/-- Is a number from one to another one? -/
def inr (n lo hi : Int) : Bool := decide (lo ≤ n ∧ n ≤ hi)
theorem isFrom_any (n lo hi : Int) (w : World) : Calls Try.prog 28 #[.int .i64 n, .int .i64 lo, .int .i64 hi] w fun e w' => e = .returned (.bool (inr n lo hi)) ∧ w = w' := by
  go_enter Try.func28, Try.ntmps28
  go_wp2
  all_goals go_ret
  all_goals exact ⟨ret_bool (by unfold inr; rw [Bool.eq_iff_iff]; simp <;> omega), rfl⟩
theorem in_any (n lo hi : Int) (w : World) : Calls Try.prog 20 #[.int .i64 n, .int .i64 lo, .int .i64 hi] w fun e w' => e = .returned (.bool (inr n lo hi)) ∧ w = w' := by
  go_enter Try.func20, Try.ntmps20
  go_wp2
  all_goals go_ret
  all_goals exact ⟨ret_bool (by unfold inr; rw [Bool.eq_iff_iff]; simp <;> omega), rfl⟩

/-- May the ship be? -/
def dims (s : Ship) : Bool := inr s.ba 1 32 && inr s.ro 1 32 && inr s.ti 1 32
def bounds (s : Ship) : Bool := inr s.st 0 1048576 && inr s.tr 0 1048576 && inr s.li 0 1048576 && inr s.up 0 1048576 && inr s.mo 0 1048576
def Ship.may (s : Ship) : Bool := dims s && bounds s && nameB s.nm.data.toList

theorem idx3 (a b c : Int) (w : World) : (Instr.index 62 (.agg #[.int .i64 a, .int .i64 b, .int .i64 c]) (.int .i64 0)).run Try.prog w = .ok (.int .i64 a) w ∧
    (Instr.index 62 (.agg #[.int .i64 a, .int .i64 b, .int .i64 c]) (.int .i64 1)).run Try.prog w = .ok (.int .i64 b) w ∧
    (Instr.index 62 (.agg #[.int .i64 a, .int .i64 b, .int .i64 c]) (.int .i64 2)).run Try.prog w = .ok (.int .i64 c) w := ⟨by kernel_rfl, by kernel_rfl, by kernel_rfl⟩
theorem idx5 (a b c d e : Int) (w : World) : (Instr.index 63 (.agg #[.int .i64 a, .int .i64 b, .int .i64 c, .int .i64 d, .int .i64 e]) (.int .i64 0)).run Try.prog w = .ok (.int .i64 a) w ∧
    (Instr.index 63 (.agg #[.int .i64 a, .int .i64 b, .int .i64 c, .int .i64 d, .int .i64 e]) (.int .i64 1)).run Try.prog w = .ok (.int .i64 b) w ∧
    (Instr.index 63 (.agg #[.int .i64 a, .int .i64 b, .int .i64 c, .int .i64 d, .int .i64 e]) (.int .i64 2)).run Try.prog w = .ok (.int .i64 c) w ∧
    (Instr.index 63 (.agg #[.int .i64 a, .int .i64 b, .int .i64 c, .int .i64 d, .int .i64 e]) (.int .i64 3)).run Try.prog w = .ok (.int .i64 d) w ∧
    (Instr.index 63 (.agg #[.int .i64 a, .int .i64 b, .int .i64 c, .int .i64 d, .int .i64 e]) (.int .i64 4)).run Try.prog w = .ok (.int .i64 e) w := ⟨by kernel_rfl, by kernel_rfl, by kernel_rfl, by kernel_rfl, by kernel_rfl⟩

/-- The first k of these tests hold. -/
def Pre (l : List Bool) (k : Nat) : Prop := (l.take k).all id = true

set_option maxRecDepth 100000 in
set_option maxHeartbeats 1600000 in
theorem bayMay_any (s : Ship) (hn : s.nm.size ≤ maxLen) (w : World) : Calls Try.prog 26 #[.agg #[.string s.nm, .int .i64 s.ba, .int .i64 s.ro, .int .i64 s.ti, .int .i64 s.st, .int .i64 s.tr, .int .i64 s.li, .int .i64 s.up, .int .i64 s.mo]] w fun e w' => e = .returned (.bool s.may) ∧ Below w.heap.size w w' := by
  obtain ⟨nm, ba, ro, ti, st, tr, li, up, mo⟩ := s
  simp only at hn
  have i3 := fun w => (idx3 ba ro ti w).1
  have i3b := fun w => (idx3 ba ro ti w).2.1
  have i3c := fun w => (idx3 ba ro ti w).2.2
  have i5 := fun w => (idx5 st tr li up mo w).1
  have i5b := fun w => (idx5 st tr li up mo w).2.1
  have i5c := fun w => (idx5 st tr li up mo w).2.2.1
  have i5d := fun w => (idx5 st tr li up mo w).2.2.2.1
  have i5e := fun w => (idx5 st tr li up mo w).2.2.2.2
  have hB : Below w.heap.size w (w.alloc (.cells #[.string nm, .int .i64 ba, .int .i64 ro, .int .i64 ti, .int .i64 st, .int .i64 tr, .int .i64 li, .int .i64 up, .int .i64 mo] 23)) := (Below.refl _ _).alloc (Nat.le_refl _) _
  go_enter Try.func26, Try.ntmps26
  go_wp2_with fail
  go_loop [14] (fun i => ∃ k : Nat, k ≤ 3 ∧ i = .int .i64 k ∧ Hid (Pre [inr ba 1 32, inr ro 1 32, inr ti 1 32] k)) (fun i => 3 - (intOf i).toNat)
  case atStart => exact ⟨0, by omega, rfl, rfl⟩
  case round =>
    obtain ⟨k, hk, rfl, hd⟩ := hrel
    rcases k with _ | _ | _ | k
    · cases e : inr ba 1 32
      · have E := Lib.hid e
        go_wp2_with (go_at_call 28; refine (isFrom_any _ _ _ _).mono ?_; rw [E.out]; rintro e w' ⟨rfl, rfl⟩)
        go_ret
        exact ⟨ret_bool (by simp [Ship.may, dims, E.out]), hB⟩
      · have E := Lib.hid e
        clear e
        go_wp2_with (go_at_call 28; refine (isFrom_any _ _ _ _).mono ?_; rw [E.out]; rintro e w' ⟨rfl, rfl⟩)
        go_round
        case rel => exact ⟨1, by omega, by go_num, Lib.hid (by simp [Pre])⟩
        case measure => simp [intOf]
    · cases e : inr ro 1 32
      · have E := Lib.hid e
        go_wp2_with (go_at_call 28; refine (isFrom_any _ _ _ _).mono ?_; rw [E.out]; rintro e w' ⟨rfl, rfl⟩)
        go_ret
        exact ⟨ret_bool (by simp [Ship.may, dims, E.out]), hB⟩
      · have E := Lib.hid e
        clear e
        go_wp2_with (go_at_call 28; refine (isFrom_any _ _ _ _).mono ?_; rw [E.out]; rintro e w' ⟨rfl, rfl⟩)
        go_round
        case rel => exact ⟨2, by omega, by go_num, Lib.hid (by have := hd.out; simp [Pre, E.out] at this ⊢; exact this)⟩
        case measure => simp [intOf]
    · cases e : inr ti 1 32
      · have E := Lib.hid e
        go_wp2_with (go_at_call 28; refine (isFrom_any _ _ _ _).mono ?_; rw [E.out]; rintro e w' ⟨rfl, rfl⟩)
        go_ret
        exact ⟨ret_bool (by simp [Ship.may, dims, E.out]), hB⟩
      · have E := Lib.hid e
        clear e
        go_wp2_with (go_at_call 28; refine (isFrom_any _ _ _ _).mono ?_; rw [E.out]; rintro e w' ⟨rfl, rfl⟩)
        go_round
        case rel => exact ⟨3, by omega, by go_num, Lib.hid (by have := hd.out; simp [Pre, E.out] at this ⊢; exact this)⟩
        case measure => simp [intOf]
    · obtain rfl : k = 0 := by omega
      have D3 := hd
      clear hd
      go_wp2_with fail
      go_loop [32] (fun i => ∃ k : Nat, k ≤ 5 ∧ i = .int .i64 k ∧ Hid (Pre [inr st 0 1048576, inr tr 0 1048576, inr li 0 1048576, inr up 0 1048576, inr mo 0 1048576] k)) (fun i => 5 - (intOf i).toNat)
      case atStart => exact ⟨0, by omega, rfl, rfl⟩
      case round =>
      obtain ⟨k, hk, rfl, hd⟩ := hrel
      rcases k with _ | _ | _ | _ | _ | k
      · cases e : inr st 0 1048576
        · have E := Lib.hid e
          go_wp2_with (go_at_call 28; refine (isFrom_any _ _ _ _).mono ?_; rw [E.out]; rintro e w' ⟨rfl, rfl⟩)
          go_ret
          exact ⟨ret_bool (by simp [Ship.may, bounds, E.out]), hB⟩
        · have E := Lib.hid e
          clear e
          go_wp2_with (go_at_call 28; refine (isFrom_any _ _ _ _).mono ?_; rw [E.out]; rintro e w' ⟨rfl, rfl⟩)
          go_round
          case rel => exact ⟨1, by omega, by go_num, Lib.hid (by have := hd.out; have := E.out; simp_all [Pre])⟩
          case measure => simp [intOf]
      · cases e : inr tr 0 1048576
        · have E := Lib.hid e
          go_wp2_with (go_at_call 28; refine (isFrom_any _ _ _ _).mono ?_; rw [E.out]; rintro e w' ⟨rfl, rfl⟩)
          go_ret
          exact ⟨ret_bool (by simp [Ship.may, bounds, E.out]), hB⟩
        · have E := Lib.hid e
          clear e
          go_wp2_with (go_at_call 28; refine (isFrom_any _ _ _ _).mono ?_; rw [E.out]; rintro e w' ⟨rfl, rfl⟩)
          go_round
          case rel => exact ⟨2, by omega, by go_num, Lib.hid (by have := hd.out; have := E.out; simp_all [Pre])⟩
          case measure => simp [intOf]
      · cases e : inr li 0 1048576
        · have E := Lib.hid e
          go_wp2_with (go_at_call 28; refine (isFrom_any _ _ _ _).mono ?_; rw [E.out]; rintro e w' ⟨rfl, rfl⟩)
          go_ret
          exact ⟨ret_bool (by simp [Ship.may, bounds, E.out]), hB⟩
        · have E := Lib.hid e
          clear e
          go_wp2_with (go_at_call 28; refine (isFrom_any _ _ _ _).mono ?_; rw [E.out]; rintro e w' ⟨rfl, rfl⟩)
          go_round
          case rel => exact ⟨3, by omega, by go_num, Lib.hid (by have := hd.out; have := E.out; simp_all [Pre])⟩
          case measure => simp [intOf]
      · cases e : inr up 0 1048576
        · have E := Lib.hid e
          go_wp2_with (go_at_call 28; refine (isFrom_any _ _ _ _).mono ?_; rw [E.out]; rintro e w' ⟨rfl, rfl⟩)
          go_ret
          exact ⟨ret_bool (by simp [Ship.may, bounds, E.out]), hB⟩
        · have E := Lib.hid e
          clear e
          go_wp2_with (go_at_call 28; refine (isFrom_any _ _ _ _).mono ?_; rw [E.out]; rintro e w' ⟨rfl, rfl⟩)
          go_round
          case rel => exact ⟨4, by omega, by go_num, Lib.hid (by have := hd.out; have := E.out; simp_all [Pre])⟩
          case measure => simp [intOf]
      · cases e : inr mo 0 1048576
        · have E := Lib.hid e
          go_wp2_with (go_at_call 28; refine (isFrom_any _ _ _ _).mono ?_; rw [E.out]; rintro e w' ⟨rfl, rfl⟩)
          go_ret
          exact ⟨ret_bool (by simp [Ship.may, bounds, E.out]), hB⟩
        · have E := Lib.hid e
          clear e
          go_wp2_with (go_at_call 28; refine (isFrom_any _ _ _ _).mono ?_; rw [E.out]; rintro e w' ⟨rfl, rfl⟩)
          go_round
          case rel => exact ⟨5, by omega, by go_num, Lib.hid (by have := hd.out; have := E.out; simp_all [Pre])⟩
          case measure => simp [intOf]
      · obtain rfl : k = 0 := by omega
        go_wp2_with (go_at_call 29; refine (isName_any _ _ hn).mono ?_; rintro e w' ⟨rfl, rfl⟩)
        go_ret
        have h3 := D3.out
        have h5 := hd.out
        refine ⟨ret_bool ?_, hB⟩
        have e3 : dims ⟨nm, ba, ro, ti, st, tr, li, up, mo⟩ = true := by simp [Pre, dims] at h3 ⊢; simp_all
        have e5 : bounds ⟨nm, ba, ro, ti, st, tr, li, up, mo⟩ = true := by simp [Pre, bounds] at h5 ⊢; simp_all
        simp [Ship.may, e3, e5]
end Go.Proofs.Yteciegpfiipokaa
