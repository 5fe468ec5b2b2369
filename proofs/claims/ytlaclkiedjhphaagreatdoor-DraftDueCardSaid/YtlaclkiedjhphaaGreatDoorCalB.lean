/- The reference's rising numbers. No condition. -/
import Derived.Test.YtlaclkiedjhphaaGreatDoorCalRA
namespace Go.Proofs.YtlaclkiedjhphaaGreatDoor.cal
open Go.RowKit Go.Proofs.YtlaclkiedjhphaaGreatDoor.kit
set_option linter.unusedVariables false

set_option maxRecDepth 100000 in
set_option maxHeartbeats 1600000 in
theorem rrises_any (A : Option Addr) (n c : Nat) (xs : List Int) (top : Int) (w : World) (hx : SliceOf w 1 intC A n xs) (hm : n ≤ maxLen) :
    Calls Tryz.prog 69 #[.slice A n c, .int .i64 top] w fun e w' => e = .returned (.bool (risesF top (-1) xs && decide (n ≤ 4096))) ∧ Below w.heap.size w w' := by
  have HX := Lib.hid hx
  have hxl := hx.len
  unfold maxLen at hm
  clear hx
  go_enter Tryz.func69, Tryz.ntmps69
  go_wp2_with fail
  go_loopw [5] (fun i wr => ∃ k : Nat, k ≤ n ∧ i = .int .i64 k ∧ Below w.heap.size w wr ∧ Hid (risesF top (prevF xs k) (xs.drop k) = risesF top (-1) xs)) (fun i _ => n - (intOf i).toNat)
  case atStart => exact ⟨0, Nat.zero_le _, rfl, Below.refl _ _, Lib.hid rfl⟩
  case round =>
    obtain ⟨k, hk, rfl, hbel, hd⟩ := hrel
    by_cases hlt : k < n
    · obtain ⟨x, hxk⟩ : ∃ x, xs[k]? = some x := ⟨_, List.getElem?_eq_getElem (by omega)⟩
      obtain ⟨b, off, rfl, hb, hc⟩ := HX.out.at_ (by omega)
      have c0 : wr.cell? ⟨b, off + k, none⟩ = some (.int .i64 x) := (hbel.cell hb).trans (by simpa using hc k _ hxk 0 _ rfl)
      obtain ⟨p, hp⟩ : ∃ p, prevF xs k = p := ⟨_, rfl⟩
      have cp : 0 < k → wr.cell? ⟨b, off + (k - 1), none⟩ = some (.int .i64 p) := fun h0 => by
        have := hc (k - 1) p (by rw [← hp]; unfold prevF; rw [if_neg (by omega), List.getD_eq_getElem?_getD, List.getElem?_eq_getElem (by omega)]; rfl) 0 _ rfl
        exact (hbel.cell hb).trans (by simpa using this)
      have hp0 : k = 0 → p = -1 := fun h => by rw [← hp, h]; rfl
      have hd' := hd.out
      rw [hp] at hd'
      have HS := Lib.hid ((rises_step (top := top) (p := p) hxk).symm.trans hd')
      have HP := Lib.hid (prev_succ hxk)
      clear hc hxk hp hd hd'
      have hk1 : (k : Int) < (n : Int) := by omega
      have hk2 : (0 : Int) ≤ (k : Int) := by omega
      by_cases q0 : x < 0
      · have e0 : Hid (risesF top (-1) xs = false) := Lib.hid (by rw [← HS.out, decide_eq_false (by omega)]; rfl)
        have d0 : decide (x < 0) = true := by simpa using q0
        clear hp0 cp
        go_wp2_with fail
        go_quiet (fail)
        go_wp2_with fail
        go_ret
        exact ⟨ret_bool (by rw [e0.out]; rfl), below_drewN hbel _⟩
      have d0 : decide (x < 0) = false := by simpa using q0
      by_cases q1 : top < x
      · have e0 : Hid (risesF top (-1) xs = false) := Lib.hid (by rw [← HS.out, decide_eq_false (by omega)]; rfl)
        have d1 : decide (top < x) = true := by simpa using q1
        clear hp0 cp
        go_wp2_with fail
        go_quiet (fail)
        go_wp2_with fail
        go_ret
        exact ⟨ret_bool (by rw [e0.out]; rfl), below_drewN hbel _⟩
      have d1 : decide (top < x) = false := by simpa using q1
      by_cases q2 : k = 0
      · have e1 : Hid (risesF top (prevF xs (k + 1)) (xs.drop (k + 1)) = risesF top (-1) xs) := Lib.hid (by rw [← HS.out, HP.out, decide_eq_true (by have := hp0 q2; omega)]; rfl)
        have q2' : decide ((0 : Int) < (k : Int)) = false := by simp; omega
        have q2n : decide (0 < k) = false := by simp; omega
        have q2'' : ¬ (0 : Int) < (k : Int) := by omega
        clear hp0 cp q2
        go_wp2_with fail
        go_quiet (fail)
        go_wp2_with fail
        go_roundw
        case rel => exact ⟨k + 1, by omega, by go_num, below_drewN hbel _, e1⟩
        case measure => simp [intOf]; omega
      · have cp' := cp (by omega)
        have q2' : (0 : Int) < (k : Int) := by omega
        have d2 : decide ((0 : Int) < (k : Int)) = true := decide_eq_true q2'
        have d2n : decide (0 < k) = true := decide_eq_true (by omega)
        have q3' : (0 : Int) ≤ (k : Int) - 1 := by omega
        have q4' : (k : Int) - 1 < (n : Int) := by omega
        clear hp0 cp q2
        by_cases q3 : x ≤ p
        · have e0 : Hid (risesF top (-1) xs = false) := Lib.hid (by rw [← HS.out, decide_eq_false (by omega)]; rfl)
          have d3 : decide (x ≤ p) = true := by simpa using q3
          go_wp2_with fail
          go_quiet (fail)
          go_wp2_with fail
          go_ret
          exact ⟨ret_bool (by rw [e0.out]; rfl), below_drewN hbel _⟩
        · have d3 : decide (x ≤ p) = false := by simpa using q3
          have e1 : Hid (risesF top (prevF xs (k + 1)) (xs.drop (k + 1)) = risesF top (-1) xs) := Lib.hid (by rw [← HS.out, HP.out, decide_eq_true (by omega)]; rfl)
          go_wp2_with fail
          go_quiet (fail)
          go_wp2_with fail
          go_roundw
          case rel => exact ⟨k + 1, by omega, by go_num, below_drewN hbel _, e1⟩
          case measure => simp [intOf]; omega
    · have e0 : Hid (risesF top (-1) xs = true) := Lib.hid (by rw [← hd.out]; exact rises_end (by omega))
      go_wp2_with fail
      go_ret
      exact ⟨ret_bool (by rw [e0.out]; simp; omega), hbel⟩
end Go.Proofs.YtlaclkiedjhphaaGreatDoor.cal
