/- What is covered: the document; hands that are gone through. No condition. -/
import Derived.Test.YtembipmficppnaaCovB
import Derived.Test.YtembipmficppnaaMayR
namespace Go.Proofs.Ytembipmficppnaa.kit
open Go.RowKit
set_option linter.unusedVariables false

theorem wayA_step {f q : ByteArray} {day : Int} {xs : List Hd} {k : Nat} {x : Hd} (hx : xs[k]? = some x) : wayA f q day (xs.drop k) = if atP f x = true then !decide (day < x.day) && wayB q day (xs.drop (k + 1)) else wayA f q day (xs.drop (k + 1)) := by
  obtain ⟨hk, hx⟩ := List.getElem?_eq_some_iff.1 hx
  rw [List.drop_eq_getElem_cons hk, hx, wayA]
theorem wayB_step {q : ByteArray} {day : Int} {xs : List Hd} {k : Nat} {x : Hd} (hx : xs[k]? = some x) : wayB q day (xs.drop k) = if atP q x = true then decide (day ≤ x.day) else wayB q day (xs.drop (k + 1)) := by
  obtain ⟨hk, hx⟩ := List.getElem?_eq_some_iff.1 hx
  rw [List.drop_eq_getElem_cons hk, hx, wayB]
set_option maxRecDepth 100000 in
set_option maxHeartbeats 3200000 in
theorem way_any (p : Pol) (A : Option Addr) (n c : Nat) (xs : List Hd) (day : Int) (w : World) (hx : SliceOf w 5 hdC A n xs) (hm : n ≤ 1000) :
    Calls Try.prog 31 #[.agg #[.string p.ins, .string p.fr, .string p.dst, .int .i64 p.sum, .int .i64 p.own, .slice p.cA p.cn p.cc, .int .i64 p.first, .int .i64 p.last, .int .i64 p.share], .slice A n c, .int .i64 day] w fun e w' => e = .returned (.bool (wayA p.fr p.dst day xs)) ∧ Below w.heap.size w w' := by
  have HX := Lib.hid hx
  have hxl := hx.len
  clear hx
  have hB0 : Below w.heap.size w (w.alloc (.cells #[.string p.ins, .string p.fr, .string p.dst, .int .i64 p.sum, .int .i64 p.own, .slice p.cA p.cn p.cc, .int .i64 p.first, .int .i64 p.last, .int .i64 p.share] 24)) := (Below.refl _ _).alloc (Nat.le_refl _) _
  have hk0 : Blk (w.alloc (.cells #[.string p.ins, .string p.fr, .string p.dst, .int .i64 p.sum, .int .i64 p.own, .slice p.cA p.cn p.cc, .int .i64 p.first, .int .i64 p.last, .int .i64 p.share] 24)) w.heap.size 24 #[.string p.ins, .string p.fr, .string p.dst, .int .i64 p.sum, .int .i64 p.own, .slice p.cA p.cn p.cc, .int .i64 p.first, .int .i64 p.last, .int .i64 p.share] := Blk.new _ _ _
  obtain ⟨V, hV⟩ : ∃ V, wayA p.fr p.dst day xs = V := ⟨_, rfl⟩
  rw [hV]
  have HV := Lib.hid hV
  clear hV
  go_enter Try.func31, Try.ntmps31
  go_wp2_with fail
  go_loopw [7, 8] (fun v i wr => ∃ k : Nat, k ≤ n ∧ i = .int .i64 k ∧ Below w.heap.size w wr ∧ Blk wr w.heap.size 24 #[.string p.ins, .string p.fr, .string p.dst, .int .i64 p.sum, .int .i64 p.own, .slice p.cA p.cn p.cc, .int .i64 p.first, .int .i64 p.last, .int .i64 p.share] ∧ ((v = .int .i64 (-1) ∧ Hid (wayA p.fr p.dst day (xs.drop k) = V)) ∨ ∃ j : Nat, v = .int .i64 j ∧ Hid (wayB p.dst day (xs.drop k) = V))) (fun _ i _ => n - (intOf i).toNat)
  case atStart => exact ⟨0, Nat.zero_le _, rfl, hB0, hk0, .inl ⟨rfl, HV⟩⟩
  case round =>
    obtain ⟨k, hk, rfl, hbel, hk2, hmode⟩ := hrel
    clear hB0 hk0
    by_cases hlt : k < n
    · obtain ⟨x, hxk⟩ : ∃ x, xs[k]? = some x := ⟨_, List.getElem?_eq_getElem (by omega)⟩
      obtain ⟨b, off, rfl, hb, hc⟩ := HX.out.at_ (by omega)
      have c0 : wr.cell? ⟨b, off + k * 5, none⟩ = some (.string x.box) := (hbel.cell hb).trans (hc k _ hxk 0 _ rfl)
      have c1 : wr.cell? ⟨b, off + k * 5 + 1, none⟩ = some (.string x.fr) := (hbel.cell hb).trans (hc k _ hxk 1 _ rfl)
      have c2 : wr.cell? ⟨b, off + k * 5 + 2, none⟩ = some (.string x.dst) := (hbel.cell hb).trans (hc k _ hxk 2 _ rfl)
      have c3 : wr.cell? ⟨b, off + k * 5 + 3, none⟩ = some (.string x.place) := (hbel.cell hb).trans (hc k _ hxk 3 _ rfl)
      have c4 : wr.cell? ⟨b, off + k * 5 + 4, none⟩ = some (.int .i64 x.day) := (hbel.cell hb).trans (hc k _ hxk 4 _ rfl)
      have HXK := Lib.hid hxk
      have hkn : (k : Int) < (n : Int) := by omega
      clear hxk hc
      have a0 := hk2.cell 0; have a1 := hk2.cell 1; have a2 := hk2.cell 2; have a3 := hk2.cell 3; have a4 := hk2.cell 4; have a5 := hk2.cell 5; have a6 := hk2.cell 6; have a7 := hk2.cell 7; have a8 := hk2.cell 8
      simp only [List.getElem?_toArray, List.getElem?_cons_zero, List.getElem?_cons_succ] at a0 a1 a2 a3 a4 a5 a6 a7 a8
      rcases hmode with ⟨rfl, hd⟩ | ⟨j, rfl, hd⟩
      · have HS := Lib.hid ((wayA_step HXK.out).symm.trans hd.out)
        clear hd
        cases q0 : (x.place.toList == p.fr.toList)
        · have hs := HS.out
          rw [if_neg (by unfold atP; rw [q0]; simp)] at hs
          have HSS := Lib.hid hs
          clear hs
          go_wp2_with fail
          go_quiet (fail)
          go_wp2_with fail
          go_quiet (fail)
          go_wp2_with fail
          go_roundw
          case rel => exact ⟨k + 1, by omega, by go_num, (by first | exact hbel | exact below_drewN hbel _ | exact below_drewN (below_drewN hbel _) _), (by first | exact hk2 | exact hk2.drewN _ | exact (hk2.drewN _).drewN _), .inl ⟨rfl, HSS⟩⟩
          case measure => simp [intOf]; omega
        · have hs := HS.out
          rw [if_pos (by unfold atP; exact q0)] at hs
          cases q1 : decide (day < x.day)
          · rw [q1] at hs
            have HSS : Hid (wayB p.dst day (xs.drop (k + 1)) = V) := Lib.hid (by simpa using hs)
            clear hs
            have q1' : ¬ day < x.day := of_decide_eq_false q1
            go_wp2_with fail
            go_quiet (fail)
            go_wp2_with fail
            go_roundw
            case rel => exact ⟨k + 1, by omega, by go_num, (by first | exact hbel | exact below_drewN hbel _ | exact below_drewN (below_drewN hbel _) _), (by first | exact hk2 | exact hk2.drewN _ | exact (hk2.drewN _).drewN _), .inr ⟨k, rfl, HSS⟩⟩
            case measure => simp [intOf]; omega
          · rw [q1] at hs
            have E : Hid (false = V) := Lib.hid (by simpa using hs)
            have q1' : day < x.day := of_decide_eq_true q1
            clear hs
            go_wp2_with fail
            go_quiet (fail)
            go_wp2_with fail
            go_ret
            exact ⟨ret_bool E.out, (by first | exact hbel | exact below_drewN hbel _ | exact below_drewN (below_drewN hbel _) _)⟩
      · have HS := Lib.hid ((wayB_step HXK.out).symm.trans hd.out)
        have j0 : decide ((j : Int) < 0) = false := decide_eq_false (by omega)
        have j0' : ¬ (j : Int) < 0 := by omega
        have j1 : decide ((0 : Int) ≤ (j : Int)) = true := decide_eq_true (by omega)
        clear hd
        cases q0 : (x.place.toList == p.dst.toList)
        · have hs := HS.out
          rw [if_neg (by unfold atP; rw [q0]; simp)] at hs
          have HSS := Lib.hid hs
          clear hs
          go_wp2_with fail
          go_quiet (fail)
          go_wp2_with fail
          go_quiet (fail)
          go_wp2_with fail
          go_roundw
          case rel => exact ⟨k + 1, by omega, by go_num, (by first | exact hbel | exact below_drewN hbel _ | exact below_drewN (below_drewN hbel _) _), (by first | exact hk2 | exact hk2.drewN _ | exact (hk2.drewN _).drewN _), .inr ⟨j, rfl, HSS⟩⟩
          case measure => simp [intOf]; omega
        · have hs := HS.out
          rw [if_pos (by unfold atP; exact q0)] at hs
          have E := Lib.hid hs
          clear hs
          go_wp2_with fail
          go_quiet (fail)
          go_wp2_with fail
          go_quiet (fail)
          go_wp2_with fail
          go_ret
          exact ⟨ret_bool E.out, (by first | exact hbel | exact below_drewN hbel _ | exact below_drewN (below_drewN hbel _) _)⟩
    · have hnil : xs.drop k = [] := List.drop_eq_nil_of_le (by omega)
      rcases hmode with ⟨rfl, hd⟩ | ⟨j, rfl, hd⟩
      · have E : Hid (false = V) := Lib.hid (by have h := hd.out; rw [hnil] at h; exact h)
        clear hd hnil
        go_wp2_with fail
        go_ret
        exact ⟨ret_bool E.out, (by first | exact hbel | exact below_drewN hbel _ | exact below_drewN (below_drewN hbel _) _)⟩
      · have E : Hid (true = V) := Lib.hid (by have h := hd.out; rw [hnil] at h; exact h)
        have j1 : decide ((0 : Int) ≤ (j : Int)) = true := decide_eq_true (by omega)
        clear hd hnil
        go_wp2_with fail
        go_ret
        exact ⟨ret_bool (by first | exact E.out | simpa using E.out), (by first | exact hbel | exact below_drewN hbel _ | exact below_drewN (below_drewN hbel _) _)⟩

theorem contains_take {xs : List Int} {k : Nat} {x q : Int} (hx : xs[k]? = some x) : (xs.take (k + 1)).contains q = ((xs.take k).contains q || x == q) := by
  rw [List.take_add_one, hx, Bool.eq_iff_iff]
  simp only [Option.toList_some, List.contains_iff_mem, List.mem_append, List.mem_singleton, Bool.or_eq_true, beq_iff_eq]
  constructor
  · rintro (h | h)
    · exact .inl h
    · exact .inr h.symm
  · rintro (h | h)
    · exact .inl h
    · exact .inr h.symm
set_option maxRecDepth 100000 in
set_option maxHeartbeats 6400000 in
theorem rcovers_any (p : Pol) (A : Option Addr) (n c : Nat) (xs : List Hd) (cause day : Int) (w : World) (hp : p.ok w) (hx : SliceOf w 5 hdC A n xs) (hm : n ≤ 1000) :
    Calls Try.prog 19 #[.agg #[.string p.ins, .string p.fr, .string p.dst, .int .i64 p.sum, .int .i64 p.own, .slice p.cA p.cn p.cc, .int .i64 p.first, .int .i64 p.last, .int .i64 p.share], .slice A n c, .int .i64 cause, .int .i64 day] w fun e w' => e = .returned (.bool (covB p xs cause day)) ∧ Below w.heap.size w w' := by
  have HX := Lib.hid hx
  have HP := Lib.hid hp
  have hcl := hp.c.len
  have hcn := hp.n
  unfold maxLen at hcn
  have HCS := Lib.hid hp.c
  clear hx hp
  have hB0 : Below w.heap.size w (w.alloc (.cells #[.string p.ins, .string p.fr, .string p.dst, .int .i64 p.sum, .int .i64 p.own, .slice p.cA p.cn p.cc, .int .i64 p.first, .int .i64 p.last, .int .i64 p.share] 24)) := (Below.refl _ _).alloc (Nat.le_refl _) _
  have hk0 : Blk (w.alloc (.cells #[.string p.ins, .string p.fr, .string p.dst, .int .i64 p.sum, .int .i64 p.own, .slice p.cA p.cn p.cc, .int .i64 p.first, .int .i64 p.last, .int .i64 p.share] 24)) w.heap.size 24 #[.string p.ins, .string p.fr, .string p.dst, .int .i64 p.sum, .int .i64 p.own, .slice p.cA p.cn p.cc, .int .i64 p.first, .int .i64 p.last, .int .i64 p.share] := Blk.new _ _ _
  have a0 := hk0.cell 0; have a1 := hk0.cell 1; have a2 := hk0.cell 2; have a3 := hk0.cell 3; have a4 := hk0.cell 4; have a5 := hk0.cell 5; have a6 := hk0.cell 6; have a7 := hk0.cell 7; have a8 := hk0.cell 8
  simp only [List.getElem?_toArray, List.getElem?_cons_zero, List.getElem?_cons_succ] at a0 a1 a2 a3 a4 a5 a6 a7 a8
  obtain ⟨V, hV⟩ : ∃ V, covB p xs cause day = V := ⟨_, rfl⟩
  rw [hV]
  have HV := Lib.hid hV
  clear hV
  go_enter Try.func19, Try.ntmps19
  go_wp2_with fail
  clear a0 a1 a2 a3 a4 a5 a6 a7 a8
  go_loopw [9, 10] (fun v i wr => ∃ k : Nat, k ≤ p.cn ∧ i = .int .i64 k ∧ v = .bool ((p.causes.take k).contains cause) ∧ Below w.heap.size w wr ∧ Blk wr w.heap.size 24 #[.string p.ins, .string p.fr, .string p.dst, .int .i64 p.sum, .int .i64 p.own, .slice p.cA p.cn p.cc, .int .i64 p.first, .int .i64 p.last, .int .i64 p.share]) (fun _ i _ => p.cn - (intOf i).toNat)
  case atStart => exact ⟨0, Nat.zero_le _, rfl, rfl, hB0, hk0⟩
  case round =>
    obtain ⟨k, hk, rfl, rfl, hB2, hk2⟩ := hrel
    clear hB0 hk0
    have a0 := hk2.cell 0; have a1 := hk2.cell 1; have a2 := hk2.cell 2; have a3 := hk2.cell 3; have a4 := hk2.cell 4; have a5 := hk2.cell 5; have a6 := hk2.cell 6; have a7 := hk2.cell 7; have a8 := hk2.cell 8
    simp only [List.getElem?_toArray, List.getElem?_cons_zero, List.getElem?_cons_succ] at a0 a1 a2 a3 a4 a5 a6 a7 a8
    by_cases hlt : k < p.cn
    · obtain ⟨x, hxk⟩ : ∃ x, p.causes[k]? = some x := ⟨_, List.getElem?_eq_getElem (by omega)⟩
      obtain ⟨b, off, hA, hb, hc⟩ := HCS.out.at_ (by omega)
      have c0 : wr.cell? ⟨b, off + k, none⟩ = some (.int .i64 x) := (hB2.cell hb).trans (by simpa using hc k _ hxk 0 _ rfl)
      have HS := Lib.hid (contains_take (q := cause) hxk)
      rw [hA] at a5
      have hki : (k : Int) < (p.cn : Int) := by omega
      clear hc hxk hA
      cases hin : (p.causes.take k).contains cause
      · cases he : (x == cause)
        · have E : Hid (false = (p.causes.take (k + 1)).contains cause) := Lib.hid (by rw [HS.out, hin, he]; rfl)
          have HIN := Lib.hid hin
          clear hin
          go_wp2_with fail
          go_roundw
          case rel => exact ⟨k + 1, by omega, by go_num, by rw [E.out], hB2, hk2⟩
          case measure => simp [intOf]; omega
        · have E : Hid (true = (p.causes.take (k + 1)).contains cause) := Lib.hid (by rw [HS.out, hin, he]; rfl)
          clear hin
          go_wp2_with fail
          go_roundw
          case rel => exact ⟨k + 1, by omega, by go_num, by rw [E.out], hB2, hk2⟩
          case measure => simp [intOf]; omega
      · have E : Hid (true = (p.causes.take (k + 1)).contains cause) := Lib.hid (by rw [HS.out, hin]; rfl)
        clear hin
        go_wp2_with fail
        go_roundw
        case rel => exact ⟨k + 1, by omega, by go_num, by rw [E.out], hB2, hk2⟩
        case measure => simp [intOf]; omega
    · have hfull : p.causes.take k = p.causes := List.take_of_length_le (by omega)
      rw [hfull]
      clear hfull
      cases e0 : mayP p
      · have E : Hid (false = V) := Lib.hid (by rw [← HV.out]; simp only [covB, e0, Bool.false_and])
        have HM := Lib.hid e0
        clear e0
        go_wp2_with fail
        refine (rmay_any p _ (HP.out.below hB2)).mono ?_
        rw [HM.out]
        rintro e w3 ⟨rfl, hb3⟩
        clear a0 a1 a2 a3 a4 a5 a6 a7 a8
        have hB3 := hB2.trans (hb3.mono hB2.size)
        have hk3 := hk2.below hb3 hk2.lt
        clear hB2 hk2 hb3
        have a0 := hk3.cell 0; have a1 := hk3.cell 1; have a2 := hk3.cell 2; have a3 := hk3.cell 3; have a4 := hk3.cell 4; have a5 := hk3.cell 5; have a6 := hk3.cell 6; have a7 := hk3.cell 7; have a8 := hk3.cell 8
        simp only [List.getElem?_toArray, List.getElem?_cons_zero, List.getElem?_cons_succ] at a0 a1 a2 a3 a4 a5 a6 a7 a8
        go_wp2_with fail
        go_ret
        exact ⟨ret_bool E.out, hB3⟩
      have HM := Lib.hid e0
      cases e1 : p.causes.contains cause
      · have E : Hid (false = V) := Lib.hid (by rw [← HV.out]; simp only [covB, e1, Bool.false_and, Bool.and_false])
        clear e0
        go_wp2_with fail
        refine (rmay_any p _ (HP.out.below hB2)).mono ?_
        rw [HM.out]
        rintro e w3 ⟨rfl, hb3⟩
        clear a0 a1 a2 a3 a4 a5 a6 a7 a8
        have hB3 := hB2.trans (hb3.mono hB2.size)
        have hk3 := hk2.below hb3 hk2.lt
        clear hB2 hk2 hb3
        have a0 := hk3.cell 0; have a1 := hk3.cell 1; have a2 := hk3.cell 2; have a3 := hk3.cell 3; have a4 := hk3.cell 4; have a5 := hk3.cell 5; have a6 := hk3.cell 6; have a7 := hk3.cell 7; have a8 := hk3.cell 8
        simp only [List.getElem?_toArray, List.getElem?_cons_zero, List.getElem?_cons_succ] at a0 a1 a2 a3 a4 a5 a6 a7 a8
        go_wp2_with fail
        go_ret
        exact ⟨ret_bool E.out, hB3⟩
      cases e2 : decide (p.first ≤ day)
      · have E : Hid (false = V) := Lib.hid (by rw [← HV.out]; simp only [covB, e2, Bool.false_and, Bool.and_false])
        clear e0
        go_wp2_with fail
        refine (rmay_any p _ (HP.out.below hB2)).mono ?_
        rw [HM.out]
        rintro e w3 ⟨rfl, hb3⟩
        clear a0 a1 a2 a3 a4 a5 a6 a7 a8
        have hB3 := hB2.trans (hb3.mono hB2.size)
        have hk3 := hk2.below hb3 hk2.lt
        clear hB2 hk2 hb3
        have a0 := hk3.cell 0; have a1 := hk3.cell 1; have a2 := hk3.cell 2; have a3 := hk3.cell 3; have a4 := hk3.cell 4; have a5 := hk3.cell 5; have a6 := hk3.cell 6; have a7 := hk3.cell 7; have a8 := hk3.cell 8
        simp only [List.getElem?_toArray, List.getElem?_cons_zero, List.getElem?_cons_succ] at a0 a1 a2 a3 a4 a5 a6 a7 a8
        go_wp2_with fail
        go_ret
        exact ⟨ret_bool E.out, hB3⟩
      cases e3 : decide (day ≤ p.last)
      · have E : Hid (false = V) := Lib.hid (by rw [← HV.out]; simp only [covB, e3, Bool.false_and, Bool.and_false])
        clear e0
        go_wp2_with fail
        refine (rmay_any p _ (HP.out.below hB2)).mono ?_
        rw [HM.out]
        rintro e w3 ⟨rfl, hb3⟩
        clear a0 a1 a2 a3 a4 a5 a6 a7 a8
        have hB3 := hB2.trans (hb3.mono hB2.size)
        have hk3 := hk2.below hb3 hk2.lt
        clear hB2 hk2 hb3
        have a0 := hk3.cell 0; have a1 := hk3.cell 1; have a2 := hk3.cell 2; have a3 := hk3.cell 3; have a4 := hk3.cell 4; have a5 := hk3.cell 5; have a6 := hk3.cell 6; have a7 := hk3.cell 7; have a8 := hk3.cell 8
        simp only [List.getElem?_toArray, List.getElem?_cons_zero, List.getElem?_cons_succ] at a0 a1 a2 a3 a4 a5 a6 a7 a8
        go_wp2_with fail
        go_ret
        exact ⟨ret_bool E.out, hB3⟩
      have E : Hid (wayA p.fr p.dst day xs = V) := Lib.hid (by rw [← HV.out]; simp only [covB, e0, e1, e2, e3, Bool.true_and])
      clear e0
      go_wp2_with fail
      refine (rmay_any p _ (HP.out.below hB2)).mono ?_
      rw [HM.out]
      rintro e w3 ⟨rfl, hb3⟩
      clear a0 a1 a2 a3 a4 a5 a6 a7 a8
      have hB3 := hB2.trans (hb3.mono hB2.size)
      have hk3 := hk2.below hb3 hk2.lt
      clear hB2 hk2 hb3
      have a0 := hk3.cell 0; have a1 := hk3.cell 1; have a2 := hk3.cell 2; have a3 := hk3.cell 3; have a4 := hk3.cell 4; have a5 := hk3.cell 5; have a6 := hk3.cell 6; have a7 := hk3.cell 7; have a8 := hk3.cell 8
      simp only [List.getElem?_toArray, List.getElem?_cons_zero, List.getElem?_cons_succ] at a0 a1 a2 a3 a4 a5 a6 a7 a8
      go_wp2_with fail
      refine (way_any p A n c xs day _ (HX.out.below hB3) hm).mono ?_
      rw [E.out]
      rintro e w4 ⟨rfl, hb4⟩
      have hB4 := hB3.trans (hb4.mono hB3.size)
      go_wp2_with fail
      go_ret
      exact ⟨rfl, hB4⟩

def longH (x : Hd) : Bool := decide (100 < x.box.size) || (decide (100 < x.fr.size) || (decide (100 < x.dst.size) || decide (100 < x.place.size)))
def heavyB (xs : List Hd) : Bool := decide (40 < xs.length) || xs.any longH
theorem any_bad {xs : List Hd} {k : Nat} {x : Hd} (hx : xs[k]? = some x) (h : longH x = true) : xs.any longH = true := List.any_eq_true.2 ⟨x, List.mem_of_getElem? hx, h⟩
theorem any_take {xs : List Hd} {k : Nat} {x : Hd} (hx : xs[k]? = some x) (h : (xs.take k).any longH = false) (hl : longH x = false) : (xs.take (k + 1)).any longH = false := by
  rw [List.take_add_one, hx, List.any_append, h]
  simp [hl]
set_option maxRecDepth 100000 in
set_option maxHeartbeats 3200000 in
theorem heavy_any (A : Option Addr) (n c : Nat) (xs : List Hd) (w : World) (hx : SliceOf w 5 hdC A n xs) (hm : n ≤ maxLen) :
    Calls Try.prog 16 #[.slice A n c] w fun e w' => e = .returned (.bool (heavyB xs)) ∧ w = w' := by
  have HX := Lib.hid hx
  have hxl := hx.len
  unfold maxLen at hm
  clear hx
  by_cases h40 : 40 < n
  · have E : Hid (true = heavyB xs) := Lib.hid (by unfold heavyB; rw [decide_eq_true (by omega)]; rfl)
    have h40' : (40 : Int) < (n : Int) := by omega
    go_enter Try.func16, Try.ntmps16
    go_wp2_with fail
    go_ret
    exact ⟨ret_bool E.out, rfl⟩
  have E : Hid (xs.any longH = heavyB xs) := Lib.hid (by unfold heavyB; rw [decide_eq_false (by omega)]; rfl)
  have h40' : ¬ (40 : Int) < (n : Int) := by omega
  go_enter Try.func16, Try.ntmps16
  go_wp2_with fail
  go_loop [3] (fun i => ∃ k : Nat, k ≤ n ∧ i = .int .i64 k ∧ Hid ((xs.take k).any longH = false)) (fun i => n - (intOf i).toNat)
  case atStart => exact ⟨0, Nat.zero_le _, rfl, Lib.hid rfl⟩
  case round =>
    obtain ⟨k, hk, rfl, hd⟩ := hrel
    by_cases hlt : k < n
    · have hbel : Below w.heap.size w w := Below.refl _ _
      obtain ⟨x, hxk⟩ : ∃ x, xs[k]? = some x := ⟨_, List.getElem?_eq_getElem (by omega)⟩
      obtain ⟨b, off, rfl, hb, hc⟩ := HX.out.at_ (by omega)
      have c0 : w.cell? ⟨b, off + k * 5, none⟩ = some (.string x.box) := (hbel.cell hb).trans (hc k _ hxk 0 _ rfl)
      have c1 : w.cell? ⟨b, off + k * 5 + 1, none⟩ = some (.string x.fr) := (hbel.cell hb).trans (hc k _ hxk 1 _ rfl)
      have c2 : w.cell? ⟨b, off + k * 5 + 2, none⟩ = some (.string x.dst) := (hbel.cell hb).trans (hc k _ hxk 2 _ rfl)
      have c3 : w.cell? ⟨b, off + k * 5 + 3, none⟩ = some (.string x.place) := (hbel.cell hb).trans (hc k _ hxk 3 _ rfl)
      have c4 : w.cell? ⟨b, off + k * 5 + 4, none⟩ = some (.int .i64 x.day) := (hbel.cell hb).trans (hc k _ hxk 4 _ rfl)
      have HXK := Lib.hid hxk
      have hkn : (k : Int) < (n : Int) := by omega
      clear hxk hc
      cases e0 : decide (100 < x.box.size)
      rotate_left
      · have EE : Hid (true = heavyB xs) := Lib.hid (by rw [← E.out]; exact (any_bad HXK.out (by unfold longH; rw [e0]; rfl)).symm)
        have i0 : decide ((100 : Int) < (x.box.size : Int)) = true := decide_eq_true (by have := of_decide_eq_true e0; omega)
        go_wp2_with fail
        go_ret
        exact ⟨ret_bool EE.out, rfl⟩
      have i0 : decide ((100 : Int) < (x.box.size : Int)) = false := decide_eq_false (by have := of_decide_eq_false e0; omega)
      cases e1 : decide (100 < x.fr.size)
      rotate_left
      · have EE : Hid (true = heavyB xs) := Lib.hid (by rw [← E.out]; exact (any_bad HXK.out (by unfold longH; rw [e0, e1]; rfl)).symm)
        have i1 : decide ((100 : Int) < (x.fr.size : Int)) = true := decide_eq_true (by have := of_decide_eq_true e1; omega)
        go_wp2_with fail
        go_ret
        exact ⟨ret_bool EE.out, rfl⟩
      have i1 : decide ((100 : Int) < (x.fr.size : Int)) = false := decide_eq_false (by have := of_decide_eq_false e1; omega)
      cases e2 : decide (100 < x.dst.size)
      rotate_left
      · have EE : Hid (true = heavyB xs) := Lib.hid (by rw [← E.out]; exact (any_bad HXK.out (by unfold longH; rw [e0, e1, e2]; rfl)).symm)
        have i2 : decide ((100 : Int) < (x.dst.size : Int)) = true := decide_eq_true (by have := of_decide_eq_true e2; omega)
        go_wp2_with fail
        go_ret
        exact ⟨ret_bool EE.out, rfl⟩
      have i2 : decide ((100 : Int) < (x.dst.size : Int)) = false := decide_eq_false (by have := of_decide_eq_false e2; omega)
      cases e3 : decide (100 < x.place.size)
      rotate_left
      · have EE : Hid (true = heavyB xs) := Lib.hid (by rw [← E.out]; exact (any_bad HXK.out (by unfold longH; rw [e0, e1, e2, e3]; rfl)).symm)
        have i3 : decide ((100 : Int) < (x.place.size : Int)) = true := decide_eq_true (by have := of_decide_eq_true e3; omega)
        go_wp2_with fail
        go_ret
        exact ⟨ret_bool EE.out, rfl⟩
      have i3 : decide ((100 : Int) < (x.place.size : Int)) = false := decide_eq_false (by have := of_decide_eq_false e3; omega)
      have EE := Lib.hid (any_take HXK.out hd.out (by unfold longH; rw [e0, e1, e2, e3]; rfl))
      go_wp2_with fail
      go_round
      case rel => exact ⟨k + 1, by omega, by go_num, EE⟩
      case measure => simp [intOf]; omega
    · have EE : Hid (false = heavyB xs) := Lib.hid (by rw [← E.out]; have := hd.out; rw [List.take_of_length_le (by omega)] at this; exact this.symm)
      go_wp2_with fail
      go_ret
      exact ⟨ret_bool EE.out, rfl⟩
end Go.Proofs.Ytembipmficppnaa.kit
