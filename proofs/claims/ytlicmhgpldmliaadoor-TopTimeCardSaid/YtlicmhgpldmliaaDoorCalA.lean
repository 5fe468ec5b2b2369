/- The calendar's small functions. No condition. -/
import Derived.Test.YtlicmhgpldmliaaDoorCal
import Derived.Test.YtlicmhgpldmliaaDoorTail
namespace Go.Proofs.YtlicmhgpldmliaaDoor.cal
open Go.RowKit Go.Proofs.YtlicmhgpldmliaaDoor.kit
set_option linter.unusedVariables false

theorem isDay_any (d : Int) (w : World) : Calls Tryd.prog 15 #[.int .i64 d] w fun e w' => e = .returned (.bool (isDayB d)) ∧ w = w' := by
  by_cases h0 : 0 ≤ d
  all_goals
    go_enter Tryd.func15, Tryd.ntmps15
    go_wp2
    go_ret
    exact ⟨ret_bool (by unfold isDayB; first | (simp; done) | (simp; omega)), rfl⟩
/-- The number ahead of place k, or -1. -/
def prevF (xs : List Int) (k : Nat) : Int := if k = 0 then -1 else xs.getD (k - 1) 0
theorem prev_succ {xs : List Int} {k : Nat} {x : Int} (hx : xs[k]? = some x) : prevF xs (k + 1) = x := by
  unfold prevF
  rw [if_neg (by omega), Nat.add_sub_cancel, List.getD_eq_getElem?_getD, hx]; rfl

set_option maxHeartbeats 800000 in
theorem rises_any (A : Option Addr) (n c : Nat) (xs : List Int) (top : Int) (w : World) (hx : SliceOf w 1 intC A n xs) (hm : n ≤ maxLen) :
    Calls Tryd.prog 14 #[.slice A n c, .int .i64 top] w fun e w' => e = .returned (.bool (risesF top (-1) xs)) ∧ w = w' := by
  have HX := Lib.hid hx
  have hxl := hx.len
  unfold maxLen at hm
  clear hx
  go_enter Tryd.func14, Tryd.ntmps14
  go_wp2_with fail
  go_loop [9] (fun i => ∃ k : Nat, k ≤ n ∧ i = .int .i64 k ∧ Hid (risesF top (prevF xs k) (xs.drop k) = risesF top (-1) xs)) (fun i => n - (intOf i).toNat)
  case atStart => exact ⟨0, Nat.zero_le _, rfl, Lib.hid rfl⟩
  case round =>
    obtain ⟨k, hk, rfl, hd⟩ := hrel
    by_cases hlt : k < n
    · obtain ⟨x, hxk⟩ : ∃ x, xs[k]? = some x := ⟨_, List.getElem?_eq_getElem (by omega)⟩
      obtain ⟨b, off, rfl, hb, hc⟩ := HX.out.at_ (by omega)
      have c0 : w.cell? ⟨b, off + k, none⟩ = some (.int .i64 x) := by simpa using hc k _ hxk 0 _ rfl
      obtain ⟨p, hp⟩ : ∃ p, prevF xs k = p := ⟨_, rfl⟩
      have cp : 0 < k → w.cell? ⟨b, off + (k - 1), none⟩ = some (.int .i64 p) := fun h0 => by
        have := hc (k - 1) p (by rw [← hp]; unfold prevF; rw [if_neg (by omega), List.getD_eq_getElem?_getD, List.getElem?_eq_getElem (by omega)]; rfl) 0 _ rfl
        simpa using this
      have hp0 : k = 0 → p = -1 := fun h => by rw [← hp, h]; rfl
      have hd' := hd.out
      rw [hp] at hd'
      have HS := Lib.hid ((rises_step (top := top) (p := p) hxk).symm.trans hd')
      have HP := Lib.hid (prev_succ hxk)
      clear hc hxk hp hd hd'
      have hk1 : (k : Int) < (n : Int) := by omega
      have hk2 : (0 : Int) ≤ (k : Int) := by omega
      by_cases q0 : x < 0
      · have e0 : Hid (risesF top (-1) xs = false) := Lib.hid (by rw [← HS.out, decide_eq_false (by omega)]; rfl)
        clear hp0 cp
        go_wp2_with fail
        go_ret
        exact ⟨ret_bool e0.out.symm, rfl⟩
      by_cases q1 : top < x
      · have e0 : Hid (risesF top (-1) xs = false) := Lib.hid (by rw [← HS.out, decide_eq_false (by omega)]; rfl)
        clear hp0 cp
        go_wp2_with fail
        go_ret
        exact ⟨ret_bool e0.out.symm, rfl⟩
      by_cases q2 : k = 0
      · have e1 : Hid (risesF top (prevF xs (k + 1)) (xs.drop (k + 1)) = risesF top (-1) xs) := Lib.hid (by rw [← HS.out, HP.out, decide_eq_true (by have := hp0 q2; omega)]; rfl)
        have q2' : ¬ (0 : Int) < (k : Int) := by omega
        clear hp0 cp q2
        go_wp2_with fail
        go_round
        case rel => exact ⟨k + 1, by omega, by go_num, e1⟩
        case measure => simp [intOf]; omega
      · have cp' := cp (by omega)
        have q2' : (0 : Int) < (k : Int) := by omega
        have q3' : (0 : Int) ≤ (k : Int) - 1 := by omega
        have q4' : (k : Int) - 1 < (n : Int) := by omega
        clear hp0 cp q2
        by_cases q3 : x ≤ p
        · have e0 : Hid (risesF top (-1) xs = false) := Lib.hid (by rw [← HS.out, decide_eq_false (by omega)]; rfl)
          go_wp2_with fail
          go_ret
          exact ⟨ret_bool e0.out.symm, rfl⟩
        · have e1 : Hid (risesF top (prevF xs (k + 1)) (xs.drop (k + 1)) = risesF top (-1) xs) := Lib.hid (by rw [← HS.out, HP.out, decide_eq_true (by omega)]; rfl)
          go_wp2_with fail
          go_round
          case rel => exact ⟨k + 1, by omega, by go_num, e1⟩
          case measure => simp [intOf]; omega
    · have e0 : Hid (risesF top (-1) xs = true) := Lib.hid (by rw [← hd.out]; exact rises_end (by omega))
      go_wp2_with fail
      go_ret
      exact ⟨ret_bool e0.out.symm, rfl⟩

end Go.Proofs.YtlicmhgpldmliaaDoor.cal
