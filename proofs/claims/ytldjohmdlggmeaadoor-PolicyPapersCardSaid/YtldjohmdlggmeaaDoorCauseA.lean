/- A policy's causes rise: the program. No condition. -/
import Derived.Test.YtldjohmdlggmeaaDoorPol
import Derived.Test.YtldjohmdlggmeaaDoorNameA
import Derived.Test.YtldjohmdlggmeaaDoorNameB
import Derived.Test.YtldjohmdlggmeaaDoorTail
namespace Go.Proofs.YtldjohmdlggmeaaDoor.kit
open Go.RowKit
set_option linter.unusedVariables false

def isD (d : Int) : Bool := decide (0 ≤ d ∧ d ≤ 1048576)
theorem isD_any (d : Int) (w : World) : Calls Tryd.prog 26 #[.int .i64 d] w fun e w' => e = .returned (.bool (isD d)) ∧ w = w' := by
  by_cases h0 : 0 ≤ d
  all_goals
    go_enter Tryd.func26, Tryd.ntmps26
    go_wp2
    go_ret
    exact ⟨ret_bool (by unfold isD; first | (simp; done) | (simp; omega)), rfl⟩
set_option maxHeartbeats 1600000 in
theorem causes_any (A : Option Addr) (n c : Nat) (xs : List Int) (w : World) (hx : SliceOf w 1 intC A n xs) (hm : n ≤ maxLen) :
    Calls Tryd.prog 25 #[.slice A n c] w fun e w' => e = .returned (.bool (causesB xs)) ∧ w = w' := by
  have HX := Lib.hid hx
  have hxl := hx.len
  unfold maxLen at hm
  clear hx
  by_cases h64 : 64 < n
  · have E : Hid (false = causesB xs) := Lib.hid (by unfold causesB; rw [decide_eq_false (by omega)]; rfl)
    have h64' : (64 : Int) < (n : Int) := by omega
    go_enter Tryd.func25, Tryd.ntmps25
    go_wp2_with fail
    go_ret
    exact ⟨ret_bool E.out, rfl⟩
  have E : Hid (risesF 1048576 (-1) xs = causesB xs) := Lib.hid (by unfold causesB; rw [decide_eq_true (by omega)]; rfl)
  have h64' : ¬ (64 : Int) < (n : Int) := by omega
  go_enter Tryd.func25, Tryd.ntmps25
  go_wp2_with fail
  go_loop [10] (fun i => ∃ k : Nat, k ≤ n ∧ i = .int .i64 k ∧ Hid (risesF 1048576 (prevF xs k) (xs.drop k) = risesF 1048576 (-1) xs)) (fun i => n - (intOf i).toNat)
  case atStart => exact ⟨0, Nat.zero_le _, rfl, Lib.hid rfl⟩
  case round =>
    obtain ⟨k, hk, rfl, hd⟩ := hrel
    by_cases hlt : k < n
    · obtain ⟨x, hxk⟩ : ∃ x, xs[k]? = some x := ⟨_, List.getElem?_eq_getElem (by omega)⟩
      obtain ⟨b, off, rfl, hb, hc⟩ := HX.out.at_ (by omega)
      have c0 : w.cell? ⟨b, off + k, none⟩ = some (.int .i64 x) := by simpa using hc k _ hxk 0 _ rfl
      obtain ⟨p, hp⟩ : ∃ p, prevF xs k = p := ⟨_, rfl⟩
      have cp : 0 < k → w.cell? ⟨b, off + (k - 1), none⟩ = some (.int .i64 p) := fun h0 => by
        have := hc (k - 1) p (by rw [← hp]; unfold prevF; rw [if_neg (by omega), List.getD_eq_getElem?_getD, List.getElem?_eq_getElem (by omega)]; rfl) 0 _ rfl
        simpa using this
      have hp0 : k = 0 → p = -1 := fun h => by rw [← hp, h]; rfl
      have hd' := hd.out
      rw [hp] at hd'
      have HS := Lib.hid ((rises_step (top := 1048576) (p := p) hxk).symm.trans hd')
      have HP := Lib.hid (prev_succ hxk)
      clear hc hxk hp hd hd'
      have hk1 : (k : Int) < (n : Int) := by omega
      have hk2 : (0 : Int) ≤ (k : Int) := by omega
      by_cases q0 : x < 0
      · have e0 : Hid (risesF 1048576 (-1) xs = false) := Lib.hid (by rw [← HS.out, decide_eq_false (by omega)]; rfl)
        clear hp0 cp
        go_wp2_with fail
        go_ret
        exact ⟨ret_bool (e0.out.symm.trans E.out), rfl⟩
      by_cases q1 : 1048576 < x
      · have e0 : Hid (risesF 1048576 (-1) xs = false) := Lib.hid (by rw [← HS.out, decide_eq_false (by omega)]; rfl)
        clear hp0 cp
        go_wp2_with fail
        go_ret
        exact ⟨ret_bool (e0.out.symm.trans E.out), rfl⟩
      by_cases q2 : k = 0
      · have e1 : Hid (risesF 1048576 (prevF xs (k + 1)) (xs.drop (k + 1)) = risesF 1048576 (-1) xs) := Lib.hid (by rw [← HS.out, HP.out, decide_eq_true (by have := hp0 q2; omega)]; rfl)
        have q2' : ¬ (0 : Int) < (k : Int) := by omega
        clear hp0 cp q2
        go_wp2_with fail
        go_round
        case rel => exact ⟨k + 1, by omega, by go_num, e1⟩
        case measure => simp [intOf]; omega
      · have cp' := cp (by omega)
        have q2' : (0 : Int) < (k : Int) := by omega
        have q3' : (0 : Int) ≤ (k : Int) - 1 := by omega
        have q4' : (k : Int) - 1 < (n : Int) := by omega
        clear hp0 cp q2
        by_cases q3 : x ≤ p
        · have e0 : Hid (risesF 1048576 (-1) xs = false) := Lib.hid (by rw [← HS.out, decide_eq_false (by omega)]; rfl)
          go_wp2_with fail
          go_ret
          exact ⟨ret_bool (e0.out.symm.trans E.out), rfl⟩
        · have e1 : Hid (risesF 1048576 (prevF xs (k + 1)) (xs.drop (k + 1)) = risesF 1048576 (-1) xs) := Lib.hid (by rw [← HS.out, HP.out, decide_eq_true (by omega)]; rfl)
          go_wp2_with fail
          go_round
          case rel => exact ⟨k + 1, by omega, by go_num, e1⟩
          case measure => simp [intOf]; omega
    · have e0 : Hid (risesF 1048576 (-1) xs = true) := Lib.hid (by rw [← hd.out]; exact rises_end (by omega))
      go_wp2_with fail
      go_ret
      exact ⟨ret_bool (e0.out.symm.trans E.out), rfl⟩
end Go.Proofs.YtldjohmdlggmeaaDoor.kit
