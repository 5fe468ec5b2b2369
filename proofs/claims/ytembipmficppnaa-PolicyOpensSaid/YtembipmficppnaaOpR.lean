/- What is left behind draws, by the document. No condition. -/
import Derived.Test.YtembipmficppnaaOpP
import Derived.Test.YtembipmficppnaaMayR
namespace Go.Proofs.Ytembipmficppnaa.kit
open Go.RowKit
set_option linter.unusedVariables false

/-- The first two checks. -/
def leftR (S : Int) (t l : Int) : Prop := (0 ≤ S - t ∧ l = S - t) ∨ (l < 0 ∧ -1099511627776 ≤ l ∧ S < t)
theorem leftR_step {S t a l : Int} (h : leftR S t l) (ha : 1 ≤ a ∧ a ≤ 1099511627776) : (0 ≤ l → leftR S (t + a) (l - a)) ∧ (l < 0 → leftR S (t + a) l) := by
  unfold leftR at *
  constructor
  · intro h0
    rcases h with ⟨h1, rfl⟩ | ⟨h1, _⟩
    · by_cases h2 : 0 ≤ S - t - a
      · exact .inl ⟨by omega, by omega⟩
      · exact .inr ⟨by omega, by omega, by omega⟩
    · omega
  · intro h0
    rcases h with ⟨h1, rfl⟩ | ⟨h1, h2, h3⟩
    · omega
    · exact .inr ⟨h1, h2, by omega⟩
theorem late_take {p : Pol} {xs : List Dr} {k : Nat} {x : Dr} (hx : xs[k]? = some x) : (xs.take (k + 1)).any (lateB p) = ((xs.take k).any (lateB p) || lateB p x) := by
  rw [List.take_add_one, hx, List.any_append]
  simp
set_option maxRecDepth 100000 in
set_option maxHeartbeats 6400000 in
theorem ropen_any (p : Pol) (A : Option Addr) (n c : Nat) (xs : List Dr) (w : World) (hp : p.ok w) (hx : SliceOf w 2 drC A n xs) (hm : n ≤ 1000) :
    Calls Try.prog 21 #[.agg #[.string p.ins, .string p.fr, .string p.dst, .int .i64 p.sum, .int .i64 p.own, .slice p.cA p.cn p.cc, .int .i64 p.first, .int .i64 p.last, .int .i64 p.share], .slice A n c] w fun e w' => e = .returned (.tuple #[.int .i64 (openV p xs).1, .int .i64 (openV p xs).2]) ∧ Below w.heap.size w w' := by
  have HX := Lib.hid hx
  have HP := Lib.hid hp
  have hxl := hx.len
  clear hx hp
  cases e0 : mayP p
  · have HV : Hid ((0, 1) = openV p xs) := Lib.hid (by unfold openV; rw [e0, if_neg (by simp)])
    have HM := Lib.hid e0
    clear e0
    have hB0 : Below w.heap.size w (w.alloc (.cells #[.string p.ins, .string p.fr, .string p.dst, .int .i64 p.sum, .int .i64 p.own, .slice p.cA p.cn p.cc, .int .i64 p.first, .int .i64 p.last, .int .i64 p.share] 24)) := (Below.refl _ _).alloc (Nat.le_refl _) _
    have hk0 : Blk (w.alloc (.cells #[.string p.ins, .string p.fr, .string p.dst, .int .i64 p.sum, .int .i64 p.own, .slice p.cA p.cn p.cc, .int .i64 p.first, .int .i64 p.last, .int .i64 p.share] 24)) w.heap.size 24 #[.string p.ins, .string p.fr, .string p.dst, .int .i64 p.sum, .int .i64 p.own, .slice p.cA p.cn p.cc, .int .i64 p.first, .int .i64 p.last, .int .i64 p.share] := Blk.new _ _ _
    have a0 := hk0.cell 0; have a1 := hk0.cell 1; have a2 := hk0.cell 2; have a3 := hk0.cell 3; have a4 := hk0.cell 4; have a5 := hk0.cell 5; have a6 := hk0.cell 6; have a7 := hk0.cell 7; have a8 := hk0.cell 8
    simp only [List.getElem?_toArray, List.getElem?_cons_zero, List.getElem?_cons_succ] at a0 a1 a2 a3 a4 a5 a6 a7 a8
    go_enter Try.func21, Try.ntmps21
    go_wp2_with fail
    refine (rmay_any p _ (HP.out.below hB0)).mono ?_
    rw [HM.out]
    rintro e w1 ⟨rfl, hb1⟩
    clear a0 a1 a2 a3 a4 a5 a6 a7 a8
    have hB1 := hB0.trans (hb1.mono hB0.size)
    have hk1 := hk0.below hb1 hk0.lt
    clear hB0 hk0 hb1
    go_wp2_with fail
    go_ret2
    exact ⟨ret_pair HV.out.symm, hB1⟩
  have HM := Lib.hid e0
  have HSUM := Lib.hid (may_iff e0).1
  clear e0
  have hB0 : Below w.heap.size w (w.alloc (.cells #[.string p.ins, .string p.fr, .string p.dst, .int .i64 p.sum, .int .i64 p.own, .slice p.cA p.cn p.cc, .int .i64 p.first, .int .i64 p.last, .int .i64 p.share] 24)) := (Below.refl _ _).alloc (Nat.le_refl _) _
  have hk0 : Blk (w.alloc (.cells #[.string p.ins, .string p.fr, .string p.dst, .int .i64 p.sum, .int .i64 p.own, .slice p.cA p.cn p.cc, .int .i64 p.first, .int .i64 p.last, .int .i64 p.share] 24)) w.heap.size 24 #[.string p.ins, .string p.fr, .string p.dst, .int .i64 p.sum, .int .i64 p.own, .slice p.cA p.cn p.cc, .int .i64 p.first, .int .i64 p.last, .int .i64 p.share] := Blk.new _ _ _
  have a0 := hk0.cell 0; have a1 := hk0.cell 1; have a2 := hk0.cell 2; have a3 := hk0.cell 3; have a4 := hk0.cell 4; have a5 := hk0.cell 5; have a6 := hk0.cell 6; have a7 := hk0.cell 7; have a8 := hk0.cell 8
  simp only [List.getElem?_toArray, List.getElem?_cons_zero, List.getElem?_cons_succ] at a0 a1 a2 a3 a4 a5 a6 a7 a8
  go_enter Try.func21, Try.ntmps21
  go_wp2_with fail
  refine (rmay_any p _ (HP.out.below hB0)).mono ?_
  rw [HM.out]
  rintro e w1 ⟨rfl, hb1⟩
  clear a0 a1 a2 a3 a4 a5 a6 a7 a8
  have hB1 := hB0.trans (hb1.mono hB0.size)
  have hk1 := hk0.below hb1 hk0.lt
  clear hB0 hk0 hb1
  go_wp2_with fail
  go_loopw [6] (fun i wr => ∃ k : Nat, k ≤ n ∧ i = .int .i64 k ∧ Below w.heap.size w wr ∧ Blk wr w.heap.size 24 #[.string p.ins, .string p.fr, .string p.dst, .int .i64 p.sum, .int .i64 p.own, .slice p.cA p.cn p.cc, .int .i64 p.first, .int .i64 p.last, .int .i64 p.share] ∧ Hid (drawsF (prevD xs k) (xs.drop k) = drawsF (-1) xs)) (fun i _ => n - (intOf i).toNat)
  case atStart => exact ⟨0, Nat.zero_le _, rfl, hB1, hk1, Lib.hid rfl⟩
  case round =>
    obtain ⟨k, hk, rfl, hbel, hk9, hd⟩ := hrel
    clear hB1 hk1
    by_cases hlt : k < n
    · obtain ⟨x, hxk⟩ : ∃ x, xs[k]? = some x := ⟨_, List.getElem?_eq_getElem (by omega)⟩
      obtain ⟨b, off, hA, hb, hc⟩ := HX.out.at_ (by omega)
      subst hA
      have c0 : wr.cell? ⟨b, off + k * 2, none⟩ = some (.int .i64 x.day) := (hbel.cell hb).trans (hc k _ hxk 0 _ rfl)
      have c1 : wr.cell? ⟨b, off + k * 2 + 1, none⟩ = some (.int .i64 x.am) := (hbel.cell hb).trans (hc k _ hxk 1 _ rfl)
      obtain ⟨y, hp⟩ : ∃ y, prevD xs k = y := ⟨_, rfl⟩
      have cp : 0 < k → wr.cell? ⟨b, off + (k - 1) * 2, none⟩ = some (.int .i64 y) := fun h0 => by
        have hk1 : xs[k - 1]? = some xs[k - 1] := List.getElem?_eq_getElem (by omega)
        have hy : y = xs[k - 1].day := by rw [← hp]; unfold prevD; rw [if_neg (by omega), hk1]; rfl
        rw [hy]
        exact (hbel.cell hb).trans (hc (k - 1) _ hk1 0 _ rfl)
      have hp0 : k = 0 → y = -1 := fun h => by rw [← hp, h]; rfl
      have hd' := hd.out
      rw [hp] at hd'
      have HS := Lib.hid ((draws_step (d := y) hxk).symm.trans hd')
      have HP := Lib.hid (prevD_succ hxk)
      clear hc hxk hp hd hd'
      have hk1 : (k : Int) < (n : Int) := by omega
      have hk2 : (0 : Int) ≤ (k : Int) := by omega
      by_cases q0 : x.am < 1
      · have e0 : Hid (drawsF (-1) xs = false) := Lib.hid (by rw [← HS.out, decide_eq_false (by omega)]; rfl)
        have HV : Hid ((0, 1) = openV p xs) := Lib.hid (by unfold openV; rw [e0.out, if_neg (by simp)])
        have d0 : decide (x.am < 1) = true := decide_eq_true q0
        clear hp0 cp q0
        go_wp2_with fail
        go_quiet ((go_at_call 24; exact Calls.quiet_of_same ((rin_any _ _ _ _).mono fun _ _ h => ⟨h.1, h.2.symm⟩)))
        go_wp2_with fail
        go_ret2
        exact ⟨ret_pair HV.out.symm, (by first | exact hbel | exact below_drewN hbel _ | exact below_drewN (below_drewN hbel _) _)⟩
      have d0 : decide (x.am < 1) = false := decide_eq_false q0
      by_cases q1 : 1099511627776 < x.am
      · have e0 : Hid (drawsF (-1) xs = false) := Lib.hid (by rw [← HS.out, decide_eq_false (by omega)]; rfl)
        have HV : Hid ((0, 1) = openV p xs) := Lib.hid (by unfold openV; rw [e0.out, if_neg (by simp)])
        have d1 : decide (1099511627776 < x.am) = true := decide_eq_true q1
        clear hp0 cp q0 q1
        go_wp2_with fail
        go_quiet ((go_at_call 24; exact Calls.quiet_of_same ((rin_any _ _ _ _).mono fun _ _ h => ⟨h.1, h.2.symm⟩)))
        go_wp2_with fail
        go_ret2
        exact ⟨ret_pair HV.out.symm, (by first | exact hbel | exact below_drewN hbel _ | exact below_drewN (below_drewN hbel _) _)⟩
      have d1 : decide (1099511627776 < x.am) = false := decide_eq_false q1
      cases q2 : inr x.day 0 1048576
      · have q2' := of_decide_eq_false q2
        have e0 : Hid (drawsF (-1) xs = false) := Lib.hid (by rw [← HS.out, decide_eq_false (by omega)]; rfl)
        have HV : Hid ((0, 1) = openV p xs) := Lib.hid (by unfold openV; rw [e0.out, if_neg (by simp)])
        clear hp0 cp q0 q1 q2'
        go_wp2_with fail
        go_quiet ((go_at_call 24; exact Calls.quiet_of_same ((rin_any _ _ _ _).mono fun _ _ h => ⟨h.1, h.2.symm⟩)))
        go_wp2_with fail
        go_ret2
        exact ⟨ret_pair HV.out.symm, (by first | exact hbel | exact below_drewN hbel _ | exact below_drewN (below_drewN hbel _) _)⟩
      have q2' := of_decide_eq_true q2
      by_cases q3 : k = 0
      · have e1 : Hid (drawsF (prevD xs (k + 1)) (xs.drop (k + 1)) = drawsF (-1) xs) := Lib.hid (by rw [← HS.out, HP.out, decide_eq_true (by have := hp0 q3; omega)]; rfl)
        have q3' : decide ((0 : Int) < (k : Int)) = false := by simp; omega
        have q3n : decide (0 < k) = false := by simp; omega
        have q3'' : ¬ (0 : Int) < (k : Int) := by omega
        clear hp0 cp q0 q1 q2' q3
        go_wp2_with fail
        go_quiet ((go_at_call 24; exact Calls.quiet_of_same ((rin_any _ _ _ _).mono fun _ _ h => ⟨h.1, h.2.symm⟩)))
        go_wp2_with fail
        go_roundw
        case rel => exact ⟨k + 1, by omega, by go_num, (by first | exact hbel | exact below_drewN hbel _ | exact below_drewN (below_drewN hbel _) _), (by first | exact hk9 | exact hk9.drewN _ | exact (hk9.drewN _).drewN _), e1⟩
        case measure => simp [intOf]; omega
      · have cp' := cp (by omega)
        have q3' : (0 : Int) < (k : Int) := by omega
        have d3 : decide ((0 : Int) < (k : Int)) = true := decide_eq_true q3'
        have d3n : decide (0 < k) = true := decide_eq_true (by omega)
        have q4' : (0 : Int) ≤ (k : Int) - 1 := by omega
        have q5' : (k : Int) - 1 < (n : Int) := by omega
        by_cases q4 : x.day < y
        · have e0 : Hid (drawsF (-1) xs = false) := Lib.hid (by rw [← HS.out, decide_eq_false (by omega)]; rfl)
          have HV : Hid ((0, 1) = openV p xs) := Lib.hid (by unfold openV; rw [e0.out, if_neg (by simp)])
          have d4 : decide (x.day < y) = true := decide_eq_true q4
          clear hp0 cp q0 q1 q2' q3 q4
          go_wp2_with fail
          go_quiet ((go_at_call 24; exact Calls.quiet_of_same ((rin_any _ _ _ _).mono fun _ _ h => ⟨h.1, h.2.symm⟩)))
          go_wp2_with fail
          go_ret2
          exact ⟨ret_pair HV.out.symm, (by first | exact hbel | exact below_drewN hbel _ | exact below_drewN (below_drewN hbel _) _)⟩
        · have e1 : Hid (drawsF (prevD xs (k + 1)) (xs.drop (k + 1)) = drawsF (-1) xs) := Lib.hid (by rw [← HS.out, HP.out, decide_eq_true (by omega)]; rfl)
          have d4 : decide (x.day < y) = false := decide_eq_false q4
          clear hp0 cp q0 q1 q2' q3 q4
          go_wp2_with fail
          go_quiet ((go_at_call 24; exact Calls.quiet_of_same ((rin_any _ _ _ _).mono fun _ _ h => ⟨h.1, h.2.symm⟩)))
          go_wp2_with fail
          go_roundw
          case rel => exact ⟨k + 1, by omega, by go_num, (by first | exact hbel | exact below_drewN hbel _ | exact below_drewN (below_drewN hbel _) _), (by first | exact hk9 | exact hk9.drewN _ | exact (hk9.drewN _).drewN _), e1⟩
          case measure => simp [intOf]; omega
    · have HD : Hid (drawsF (-1) xs = true) := Lib.hid (by rw [← hd.out, List.drop_eq_nil_of_le (by omega)]; rfl)
      have HAM := Lib.hid (draws_in HD.out)
      have HTM := Lib.hid (fun k => tot_mono (xs := xs) k (fun x h => (HAM.out x h).1))
      have hs := HSUM.out
      have hk0t : ∀ k, 0 ≤ tot (xs.take k) := fun k => (tot_mono (xs := xs.take k) 0 (fun x hx => (HAM.out x (List.mem_of_mem_take hx)).1)).2
      clear hd
      have a0 := hk9.cell 0; have a1 := hk9.cell 1; have a2 := hk9.cell 2; have a3 := hk9.cell 3; have a4 := hk9.cell 4; have a5 := hk9.cell 5; have a6 := hk9.cell 6; have a7 := hk9.cell 7; have a8 := hk9.cell 8
      simp only [List.getElem?_toArray, List.getElem?_cons_zero, List.getElem?_cons_succ] at a0 a1 a2 a3 a4 a5 a6 a7 a8
      go_wp2_with fail
      clear a0 a1 a2 a3 a4 a5 a6 a7 a8
      go_loopw [7, 8, 9] (fun l v i wr => ∃ (k : Nat) (L : Int), k ≤ n ∧ i = .int .i64 k ∧ v = .bool ((xs.take k).any (lateB p)) ∧ l = .int .i64 L ∧ Hid (leftR p.sum (tot (xs.take k)) L) ∧ Below w.heap.size w wr ∧ Blk wr w.heap.size 24 #[.string p.ins, .string p.fr, .string p.dst, .int .i64 p.sum, .int .i64 p.own, .slice p.cA p.cn p.cc, .int .i64 p.first, .int .i64 p.last, .int .i64 p.share]) (fun _ _ i _ => n - (intOf i).toNat)
      case atStart => exact ⟨0, p.sum, Nat.zero_le _, rfl, rfl, rfl, Lib.hid (.inl ⟨by simp [tot]; omega, by simp [tot]⟩), hbel, hk9⟩
      case round =>
        obtain ⟨k, L, hk, rfl, rfl, rfl, hl, hbel, hk9⟩ := hrel
        have a0 := hk9.cell 0; have a1 := hk9.cell 1; have a2 := hk9.cell 2; have a3 := hk9.cell 3; have a4 := hk9.cell 4; have a5 := hk9.cell 5; have a6 := hk9.cell 6; have a7 := hk9.cell 7; have a8 := hk9.cell 8
        simp only [List.getElem?_toArray, List.getElem?_cons_zero, List.getElem?_cons_succ] at a0 a1 a2 a3 a4 a5 a6 a7 a8
        by_cases hlt : k < n
        · obtain ⟨x, hxk⟩ : ∃ x, xs[k]? = some x := ⟨_, List.getElem?_eq_getElem (by omega)⟩
          obtain ⟨b, off, rfl, hb, hc⟩ := HX.out.at_ (by omega)
          have c0 : wr.cell? ⟨b, off + k * 2, none⟩ = some (.int .i64 x.day) := (hbel.cell hb).trans (hc k _ hxk 0 _ rfl)
          have c1 : wr.cell? ⟨b, off + k * 2 + 1, none⟩ = some (.int .i64 x.am) := (hbel.cell hb).trans (hc k _ hxk 1 _ rfl)
          have HXK := Lib.hid hxk
          have hkn : (k : Int) < (n : Int) := by omega
          clear hxk hc
          have HL1 := Lib.hid (leftR_step hl.out (let h := HAM.out x (List.mem_of_getElem? HXK.out); ⟨h.1, h.2.1⟩))
          have HT := Lib.hid (tot_take HXK.out)
          have HLT := Lib.hid (late_take (p := p) HXK.out)
          have hL : -1099511627776 ≤ L ∧ L ≤ 1099511627776 := by
            have h := hl.out
            have h2 := hk0t k
            unfold leftR at h
            omega
          have hxa := HAM.out x (List.mem_of_getElem? HXK.out)
          have hw : wrap64 (L - x.am) = L - x.am := by unfold wrap64; omega
          obtain ⟨T, hT⟩ : ∃ T, (xs.take k).any (lateB p) = T := ⟨_, rfl⟩
          rw [hT] at HLT ⊢
          obtain ⟨T', hT'⟩ : ∃ T', (T || lateB p x) = T' := ⟨_, rfl⟩
          have HLB : Hid ((xs.take (k + 1)).any (lateB p) = T') := Lib.hid (HLT.out.trans hT')
          unfold lateB at hT'
          clear HLT hT hxa
          cases T
          all_goals cases d1 : decide (x.day < p.first)
          all_goals cases d2 : decide (p.last < x.day)
          all_goals
            rw [d1, d2] at hT'
            simp at hT'
            subst hT'
            by_cases hz : 0 ≤ L
            · have HR := Lib.hid (HL1.out.1 hz)
              have hz' : ¬ L < 0 := by omega
              go_wp2_with fail
              go_quiet (fail)
              go_wp2_with fail
              go_roundw
              case rel => exact ⟨k + 1, (L - x.am), by omega, by go_num, by rw [HLB.out], (by rw [hw]), Lib.hid (by rw [HT.out]; exact HR.out), (by first | exact hbel | exact below_drewN hbel _ | exact below_drewN (below_drewN hbel _) _), (by first | exact hk9 | exact hk9.drewN _ | exact (hk9.drewN _).drewN _)⟩
              case measure => simp [intOf]; omega
            · have HR := Lib.hid (HL1.out.2 (by omega))
              have hz' : L < 0 := by omega
              go_wp2_with fail
              go_quiet (fail)
              go_wp2_with fail
              go_roundw
              case rel => exact ⟨k + 1, L, by omega, by go_num, by rw [HLB.out], rfl, Lib.hid (by rw [HT.out]; exact HR.out), (by first | exact hbel | exact below_drewN hbel _ | exact below_drewN (below_drewN hbel _) _), (by first | exact hk9 | exact hk9.drewN _ | exact (hk9.drewN _).drewN _)⟩
              case measure => simp [intOf]; omega
        · have hfull : xs.take k = xs := List.take_of_length_le (by omega)
          rw [hfull] at hl ⊢
          clear hfull
          have hl' := hl.out
          cases hla : xs.any (lateB p)
          · by_cases hz : L < 0
            · have HV : Hid ((0, 10) = openV p xs) := Lib.hid (by unfold openV leftR at *; rw [HM.out, HD.out, hla, if_pos (show (true && true) = true from rfl), if_neg (by simp), if_pos (by omega)])
              clear hl hl' hla
              go_wp2_with fail
              go_ret2
              exact ⟨ret_pair HV.out.symm, hbel⟩
            · have HV : Hid ((L, 0) = openV p xs) := Lib.hid (by unfold openV leftR at *; rw [HM.out, HD.out, hla, if_pos (show (true && true) = true from rfl), if_neg (by simp), if_neg (by omega)]; simp; omega)
              clear hl hl' hla
              go_wp2_with fail
              go_ret2
              exact ⟨ret_pair HV.out.symm, hbel⟩
          · have HV : Hid ((0, 11) = openV p xs) := Lib.hid (by unfold openV; rw [HM.out, HD.out, hla, if_pos (show (true && true) = true from rfl), if_pos rfl])
            clear hl hl' hla
            go_wp2_with fail
            go_ret2
            exact ⟨ret_pair HV.out.symm, hbel⟩
end Go.Proofs.Ytembipmficppnaa.kit
