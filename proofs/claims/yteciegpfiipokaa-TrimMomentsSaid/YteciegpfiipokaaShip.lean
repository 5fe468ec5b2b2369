/- supercargoref14.Ship tells whether a ship may be. No condition. -/
import Derived.Test.YteciegpfiipokaaBase
namespace Go.Proofs.Yteciegpfiipokaa
open Go.RowKit Go.Proofs.Yteciegpfiipokaa.kit
set_option linter.unusedVariables false

set_option maxRecDepth 100000 in
set_option maxHeartbeats 3200000 in
theorem rship_any (s : Ship) (hn : s.nm.size ≤ maxLen) (w : World) : Calls Try.prog 19 #[.agg #[.string s.nm, .int .i64 s.ba, .int .i64 s.ro, .int .i64 s.ti, .int .i64 s.st, .int .i64 s.tr, .int .i64 s.li, .int .i64 s.up, .int .i64 s.mo]] w fun e w' => e = .returned (.bool s.may) ∧ Below w.heap.size w w' := by
  obtain ⟨nm, ba, ro, ti, st, tr, li, up, mo⟩ := s
  simp only at hn
  have hB : Below w.heap.size w (w.alloc (.cells #[.string nm, .int .i64 ba, .int .i64 ro, .int .i64 ti, .int .i64 st, .int .i64 tr, .int .i64 li, .int .i64 up, .int .i64 mo] 23)) := (Below.refl _ _).alloc (Nat.le_refl _) _
  cases e0 : nameB nm.data.toList
  · have E := Lib.hid (show false = Ship.may ⟨nm, ba, ro, ti, st, tr, li, up, mo⟩ by simp [Ship.may, e0])
    go_enter Try.func19, Try.ntmps19
    go_wp2_with (first | (go_at_call 20; refine (in_any _ _ _ _).mono ?_; rintro e w' ⟨rfl, rfl⟩) | (go_at_call 25; refine (rname_any _ _ hn).mono ?_; rintro e w' ⟨rfl, rfl⟩))
    go_ret
    exact ⟨ret_bool E.out, hB⟩
  cases e1 : inr ba 1 32
  · have E := Lib.hid (show false = Ship.may ⟨nm, ba, ro, ti, st, tr, li, up, mo⟩ by simp [Ship.may, dims, e1])
    go_enter Try.func19, Try.ntmps19
    go_wp2_with (first | (go_at_call 20; refine (in_any _ _ _ _).mono ?_; rintro e w' ⟨rfl, rfl⟩) | (go_at_call 25; refine (rname_any _ _ hn).mono ?_; rintro e w' ⟨rfl, rfl⟩))
    go_ret
    exact ⟨ret_bool E.out, hB⟩
  cases e2 : inr ro 1 32
  · have E := Lib.hid (show false = Ship.may ⟨nm, ba, ro, ti, st, tr, li, up, mo⟩ by simp [Ship.may, dims, e2])
    go_enter Try.func19, Try.ntmps19
    go_wp2_with (first | (go_at_call 20; refine (in_any _ _ _ _).mono ?_; rintro e w' ⟨rfl, rfl⟩) | (go_at_call 25; refine (rname_any _ _ hn).mono ?_; rintro e w' ⟨rfl, rfl⟩))
    go_ret
    exact ⟨ret_bool E.out, hB⟩
  cases e3 : inr ti 1 32
  · have E := Lib.hid (show false = Ship.may ⟨nm, ba, ro, ti, st, tr, li, up, mo⟩ by simp [Ship.may, dims, e3])
    go_enter Try.func19, Try.ntmps19
    go_wp2_with (first | (go_at_call 20; refine (in_any _ _ _ _).mono ?_; rintro e w' ⟨rfl, rfl⟩) | (go_at_call 25; refine (rname_any _ _ hn).mono ?_; rintro e w' ⟨rfl, rfl⟩))
    go_ret
    exact ⟨ret_bool E.out, hB⟩
  cases e4 : inr st 0 1048576
  · have E := Lib.hid (show false = Ship.may ⟨nm, ba, ro, ti, st, tr, li, up, mo⟩ by simp [Ship.may, bounds, e4])
    go_enter Try.func19, Try.ntmps19
    go_wp2_with (first | (go_at_call 20; refine (in_any _ _ _ _).mono ?_; rintro e w' ⟨rfl, rfl⟩) | (go_at_call 25; refine (rname_any _ _ hn).mono ?_; rintro e w' ⟨rfl, rfl⟩))
    go_ret
    exact ⟨ret_bool E.out, hB⟩
  cases e5 : inr tr 0 1048576
  · have E := Lib.hid (show false = Ship.may ⟨nm, ba, ro, ti, st, tr, li, up, mo⟩ by simp [Ship.may, bounds, e5])
    go_enter Try.func19, Try.ntmps19
    go_wp2_with (first | (go_at_call 20; refine (in_any _ _ _ _).mono ?_; rintro e w' ⟨rfl, rfl⟩) | (go_at_call 25; refine (rname_any _ _ hn).mono ?_; rintro e w' ⟨rfl, rfl⟩))
    go_ret
    exact ⟨ret_bool E.out, hB⟩
  cases e6 : inr li 0 1048576
  · have E := Lib.hid (show false = Ship.may ⟨nm, ba, ro, ti, st, tr, li, up, mo⟩ by simp [Ship.may, bounds, e6])
    go_enter Try.func19, Try.ntmps19
    go_wp2_with (first | (go_at_call 20; refine (in_any _ _ _ _).mono ?_; rintro e w' ⟨rfl, rfl⟩) | (go_at_call 25; refine (rname_any _ _ hn).mono ?_; rintro e w' ⟨rfl, rfl⟩))
    go_ret
    exact ⟨ret_bool E.out, hB⟩
  cases e7 : inr up 0 1048576
  · have E := Lib.hid (show false = Ship.may ⟨nm, ba, ro, ti, st, tr, li, up, mo⟩ by simp [Ship.may, bounds, e7])
    go_enter Try.func19, Try.ntmps19
    go_wp2_with (first | (go_at_call 20; refine (in_any _ _ _ _).mono ?_; rintro e w' ⟨rfl, rfl⟩) | (go_at_call 25; refine (rname_any _ _ hn).mono ?_; rintro e w' ⟨rfl, rfl⟩))
    go_ret
    exact ⟨ret_bool E.out, hB⟩
  cases e8 : inr mo 0 1048576
  · have E := Lib.hid (show false = Ship.may ⟨nm, ba, ro, ti, st, tr, li, up, mo⟩ by simp [Ship.may, bounds, e8])
    go_enter Try.func19, Try.ntmps19
    go_wp2_with (first | (go_at_call 20; refine (in_any _ _ _ _).mono ?_; rintro e w' ⟨rfl, rfl⟩) | (go_at_call 25; refine (rname_any _ _ hn).mono ?_; rintro e w' ⟨rfl, rfl⟩))
    go_ret
    exact ⟨ret_bool E.out, hB⟩
  have E := Lib.hid (show true = Ship.may ⟨nm, ba, ro, ti, st, tr, li, up, mo⟩ by simp [Ship.may, dims, bounds, e0, e1, e2, e3, e4, e5, e6, e7, e8])
  go_enter Try.func19, Try.ntmps19
  go_wp2_with (first | (go_at_call 20; refine (in_any _ _ _ _).mono ?_; rintro e w' ⟨rfl, rfl⟩) | (go_at_call 25; refine (rname_any _ _ hn).mono ?_; rintro e w' ⟨rfl, rfl⟩))
  go_ret
  exact ⟨ret_bool E.out, hB⟩
end Go.Proofs.Yteciegpfiipokaa
