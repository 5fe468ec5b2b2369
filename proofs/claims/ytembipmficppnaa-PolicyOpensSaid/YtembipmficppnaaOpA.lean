/- Whether draws may be: the program. No condition. -/
import Derived.Test.YtembipmficppnaaOpP
import Derived.Test.YtembipmficppnaaCauseA
namespace Go.Proofs.Ytembipmficppnaa.kit
open Go.RowKit
set_option linter.unusedVariables false

set_option maxRecDepth 100000 in
set_option maxHeartbeats 3200000 in
theorem drawsMay_any (A : Option Addr) (n c : Nat) (xs : List Dr) (w : World) (hx : SliceOf w 2 drC A n xs) (hm : n ≤ 1000) :
    Calls Try.prog 34 #[.slice A n c] w fun e w' => e = .returned (.bool (drawsF (-1) xs)) ∧ Below w.heap.size w w' := by
  have HX := Lib.hid hx
  have hxl := hx.len
  clear hx
  go_enter Try.func34, Try.ntmps34
  go_wp2_with fail
  go_loopw [7] (fun i wr => ∃ k : Nat, k ≤ n ∧ i = .int .i64 k ∧ Below w.heap.size w wr ∧ Hid (drawsF (prevD xs k) (xs.drop k) = drawsF (-1) xs)) (fun i _ => n - (intOf i).toNat)
  case atStart => exact ⟨0, Nat.zero_le _, rfl, Below.refl _ _, Lib.hid rfl⟩
  case round =>
    obtain ⟨k, hk, rfl, hbel, hd⟩ := hrel
    by_cases hlt : k < n
    · obtain ⟨x, hxk⟩ : ∃ x, xs[k]? = some x := ⟨_, List.getElem?_eq_getElem (by omega)⟩
      obtain ⟨b, off, rfl, hb, hc⟩ := HX.out.at_ (by omega)
      have c0 : wr.cell? ⟨b, off + k * 2, none⟩ = some (.int .i64 x.day) := (hbel.cell hb).trans (hc k _ hxk 0 _ rfl)
      have c1 : wr.cell? ⟨b, off + k * 2 + 1, none⟩ = some (.int .i64 x.am) := (hbel.cell hb).trans (hc k _ hxk 1 _ rfl)
      obtain ⟨y, hp⟩ : ∃ y, prevD xs k = y := ⟨_, rfl⟩
      have cp : 0 < k → wr.cell? ⟨b, off + (k - 1) * 2, none⟩ = some (.int .i64 y) := fun h0 => by
        have hk1 : xs[k - 1]? = some xs[k - 1] := List.getElem?_eq_getElem (by omega)
        have hy : y = xs[k - 1].day := by rw [← hp]; unfold prevD; rw [if_neg (by omega), hk1]; rfl
        rw [hy]
        exact (hbel.cell hb).trans (hc (k - 1) _ hk1 0 _ rfl)
      have hp0 : k = 0 → y = -1 := fun h => by rw [← hp, h]; rfl
      have hd' := hd.out
      rw [hp] at hd'
      have HS := Lib.hid ((draws_step (d := y) hxk).symm.trans hd')
      have HP := Lib.hid (prevD_succ hxk)
      have hbl : b < wr.heap.size := by have := hbel.size; omega
      clear hc hxk hp hd hd'
      have hk1 : (k : Int) < (n : Int) := by omega
      have hk2 : (0 : Int) ≤ (k : Int) := by omega
      by_cases q0 : x.am < 1
      · have e0 : Hid (drawsF (-1) xs = false) := Lib.hid (by rw [← HS.out, decide_eq_false (by omega)]; rfl)
        have d0 : decide (x.am < 1) = true := decide_eq_true q0
        clear hp0 cp q0
        go_wp2_with fail
        go_quiet ((go_at_call 28; exact Calls.quiet_of_same ((isD_any _ _).mono fun _ _ h => ⟨h.1, h.2.symm⟩)))
        go_wp2_with fail
        go_ret
        exact ⟨ret_bool e0.out.symm, (below_drewN (hbel.alloc hbel.size _) _)⟩
      have d0 : decide (x.am < 1) = false := decide_eq_false q0
      by_cases q1 : 1099511627776 < x.am
      · have e0 : Hid (drawsF (-1) xs = false) := Lib.hid (by rw [← HS.out, decide_eq_false (by omega)]; rfl)
        have d1 : decide (1099511627776 < x.am) = true := decide_eq_true q1
        clear hp0 cp q0 q1
        go_wp2_with fail
        go_quiet ((go_at_call 28; exact Calls.quiet_of_same ((isD_any _ _).mono fun _ _ h => ⟨h.1, h.2.symm⟩)))
        go_wp2_with fail
        go_ret
        exact ⟨ret_bool e0.out.symm, (below_drewN (hbel.alloc hbel.size _) _)⟩
      have d1 : decide (1099511627776 < x.am) = false := decide_eq_false q1
      cases q2 : isD x.day
      · have q2' := of_decide_eq_false q2
        have e0 : Hid (drawsF (-1) xs = false) := Lib.hid (by rw [← HS.out, decide_eq_false (by omega)]; rfl)
        clear hp0 cp q0 q1 q2'
        go_wp2_with fail
        go_quiet ((go_at_call 28; exact Calls.quiet_of_same ((isD_any _ _).mono fun _ _ h => ⟨h.1, h.2.symm⟩)))
        go_wp2_with fail
        go_ret
        exact ⟨ret_bool e0.out.symm, (below_drewN (hbel.alloc hbel.size _) _)⟩
      have q2' := of_decide_eq_true q2
      by_cases q3 : k = 0
      · have e1 : Hid (drawsF (prevD xs (k + 1)) (xs.drop (k + 1)) = drawsF (-1) xs) := Lib.hid (by rw [← HS.out, HP.out, decide_eq_true (by have := hp0 q3; omega)]; rfl)
        have q3' : decide ((0 : Int) < (k : Int)) = false := by simp; omega
        have q3n : decide (0 < k) = false := by simp; omega
        have q3'' : ¬ (0 : Int) < (k : Int) := by omega
        clear hp0 cp q0 q1 q2' q3
        go_wp2_with fail
        go_quiet ((go_at_call 28; exact Calls.quiet_of_same ((isD_any _ _).mono fun _ _ h => ⟨h.1, h.2.symm⟩)))
        go_wp2_with fail
        go_roundw
        case rel => exact ⟨k + 1, by omega, by go_num, (below_drewN (hbel.alloc hbel.size _) _), e1⟩
        case measure => simp [intOf]; omega
      · have cp' := cp (by omega)
        have q3' : (0 : Int) < (k : Int) := by omega
        have d3 : decide ((0 : Int) < (k : Int)) = true := decide_eq_true q3'
        have d3n : decide (0 < k) = true := decide_eq_true (by omega)
        have q4' : (0 : Int) ≤ (k : Int) - 1 := by omega
        have q5' : (k : Int) - 1 < (n : Int) := by omega
        by_cases q4 : x.day < y
        · have e0 : Hid (drawsF (-1) xs = false) := Lib.hid (by rw [← HS.out, decide_eq_false (by omega)]; rfl)
          have d4 : decide (x.day < y) = true := decide_eq_true q4
          clear hp0 cp q0 q1 q2' q3 q4
          go_wp2_with fail
          go_quiet ((go_at_call 28; exact Calls.quiet_of_same ((isD_any _ _).mono fun _ _ h => ⟨h.1, h.2.symm⟩)))
          go_wp2_with fail
          go_ret
          exact ⟨ret_bool e0.out.symm, (below_drewN (hbel.alloc hbel.size _) _)⟩
        · have e1 : Hid (drawsF (prevD xs (k + 1)) (xs.drop (k + 1)) = drawsF (-1) xs) := Lib.hid (by rw [← HS.out, HP.out, decide_eq_true (by omega)]; rfl)
          have d4 : decide (x.day < y) = false := decide_eq_false q4
          clear hp0 cp q0 q1 q2' q3 q4
          go_wp2_with fail
          go_quiet ((go_at_call 28; exact Calls.quiet_of_same ((isD_any _ _).mono fun _ _ h => ⟨h.1, h.2.symm⟩)))
          go_wp2_with fail
          go_roundw
          case rel => exact ⟨k + 1, by omega, by go_num, (below_drewN (hbel.alloc hbel.size _) _), e1⟩
          case measure => simp [intOf]; omega
    · have e0 : Hid (drawsF (-1) xs = true) := Lib.hid (by rw [← hd.out, List.drop_eq_nil_of_le (by omega)]; rfl)
      go_wp2_with fail
      go_ret
      exact ⟨ret_bool e0.out.symm, hbel⟩
end Go.Proofs.Ytembipmficppnaa.kit
