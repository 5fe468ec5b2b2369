/- Two policies, the same or not, by the document. No condition. -/
import Derived.Test.YtldjohmdlggmeaaDoorPaA
namespace Go.Proofs.YtldjohmdlggmeaaDoor.kit
open Go.RowKit Go.PlainAid
set_option linter.unusedVariables false

set_option maxRecDepth 100000 in
set_option maxHeartbeats 6400000 in
theorem rsame_any (p q : Pol) (w : World) (hp : p.ok w) (hq : q.ok w) :
    Calls Tryd.prog 8 #[.agg #[.string p.ins, .string p.fr, .string p.dst, .int .i64 p.sum, .int .i64 p.own, .slice p.cA p.cn p.cc, .int .i64 p.first, .int .i64 p.last, .int .i64 p.share], .agg #[.string q.ins, .string q.fr, .string q.dst, .int .i64 q.sum, .int .i64 q.own, .slice q.cA q.cn q.cc, .int .i64 q.first, .int .i64 q.last, .int .i64 q.share]] w fun e w' => e = .returned (.bool (sameP p q)) ∧ Below w.heap.size w w' := by
  have HP := Lib.hid hp
  have HQ := Lib.hid hq
  clear hp hq
  have hB0 : Below w.heap.size w (((w.alloc (.cells #[.string p.ins, .string p.fr, .string p.dst, .int .i64 p.sum, .int .i64 p.own, .slice p.cA p.cn p.cc, .int .i64 p.first, .int .i64 p.last, .int .i64 p.share] 24)).alloc (.cells #[.string q.ins, .string q.fr, .string q.dst, .int .i64 q.sum, .int .i64 q.own, .slice q.cA q.cn q.cc, .int .i64 q.first, .int .i64 q.last, .int .i64 q.share] 24))) := two_alloc _ _ _
  have hp0 : Blk (((w.alloc (.cells #[.string p.ins, .string p.fr, .string p.dst, .int .i64 p.sum, .int .i64 p.own, .slice p.cA p.cn p.cc, .int .i64 p.first, .int .i64 p.last, .int .i64 p.share] 24)).alloc (.cells #[.string q.ins, .string q.fr, .string q.dst, .int .i64 q.sum, .int .i64 q.own, .slice q.cA q.cn q.cc, .int .i64 q.first, .int .i64 q.last, .int .i64 q.share] 24))) w.heap.size 24 #[.string p.ins, .string p.fr, .string p.dst, .int .i64 p.sum, .int .i64 p.own, .slice p.cA p.cn p.cc, .int .i64 p.first, .int .i64 p.last, .int .i64 p.share] := (Blk.new _ _ _).alloc _
  have hq0 : Blk (((w.alloc (.cells #[.string p.ins, .string p.fr, .string p.dst, .int .i64 p.sum, .int .i64 p.own, .slice p.cA p.cn p.cc, .int .i64 p.first, .int .i64 p.last, .int .i64 p.share] 24)).alloc (.cells #[.string q.ins, .string q.fr, .string q.dst, .int .i64 q.sum, .int .i64 q.own, .slice q.cA q.cn q.cc, .int .i64 q.first, .int .i64 q.last, .int .i64 q.share] 24))) (w.heap.size + 1) 24 #[.string q.ins, .string q.fr, .string q.dst, .int .i64 q.sum, .int .i64 q.own, .slice q.cA q.cn q.cc, .int .i64 q.first, .int .i64 q.last, .int .i64 q.share] := blk_second _ _ _ _
  have a0 := hp0.cell 0; have a1 := hp0.cell 1; have a2 := hp0.cell 2; have a3 := hp0.cell 3; have a4 := hp0.cell 4; have a5 := hp0.cell 5; have a6 := hp0.cell 6; have a7 := hp0.cell 7; have a8 := hp0.cell 8
  have b0 := hq0.cell 0; have b1 := hq0.cell 1; have b2 := hq0.cell 2; have b3 := hq0.cell 3; have b4 := hq0.cell 4; have b5 := hq0.cell 5; have b6 := hq0.cell 6; have b7 := hq0.cell 7; have b8 := hq0.cell 8
  simp only [List.getElem?_toArray, List.getElem?_cons_zero, List.getElem?_cons_succ] at a0 a1 a2 a3 a4 a5 a6 a7 a8 b0 b1 b2 b3 b4 b5 b6 b7 b8
  clear hp0 hq0
  by_cases h0 : p.ins = q.ins
  rotate_left
  · have t0 : (p.ins.toList == q.ins.toList) = false := by rw [eq_str]; exact decide_eq_false h0
    have u0 : (p.ins.toList != q.ins.toList) = true := by rw [bne, t0]; rfl
    have HE : Hid (false = sameP p q) := Lib.hid (sameP_not (fun h => h0 h.1)).symm
    clear h0
    go_enter Tryd.func8, Tryd.ntmps8
    go_wp2_with fail
    go_ret
    exact ⟨ret_bool HE.out, hB0⟩
  have t0 : (p.ins.toList == q.ins.toList) = true := by rw [eq_str]; exact decide_eq_true h0
  have u0 : (p.ins.toList != q.ins.toList) = false := by rw [bne, t0]; rfl
  have H0 := Lib.hid h0
  clear h0
  by_cases h1 : p.fr = q.fr
  rotate_left
  · have t1 : (p.fr.toList == q.fr.toList) = false := by rw [eq_str]; exact decide_eq_false h1
    have u1 : (p.fr.toList != q.fr.toList) = true := by rw [bne, t1]; rfl
    have HE : Hid (false = sameP p q) := Lib.hid (sameP_not (fun h => h1 h.2.1)).symm
    clear h1
    go_enter Tryd.func8, Tryd.ntmps8
    go_wp2_with fail
    go_ret
    exact ⟨ret_bool HE.out, hB0⟩
  have t1 : (p.fr.toList == q.fr.toList) = true := by rw [eq_str]; exact decide_eq_true h1
  have u1 : (p.fr.toList != q.fr.toList) = false := by rw [bne, t1]; rfl
  have H1 := Lib.hid h1
  clear h1
  by_cases h2 : p.dst = q.dst
  rotate_left
  · have t2 : (p.dst.toList == q.dst.toList) = false := by rw [eq_str]; exact decide_eq_false h2
    have u2 : (p.dst.toList != q.dst.toList) = true := by rw [bne, t2]; rfl
    have HE : Hid (false = sameP p q) := Lib.hid (sameP_not (fun h => h2 h.2.2.1)).symm
    clear h2
    go_enter Tryd.func8, Tryd.ntmps8
    go_wp2_with fail
    go_ret
    exact ⟨ret_bool HE.out, hB0⟩
  have t2 : (p.dst.toList == q.dst.toList) = true := by rw [eq_str]; exact decide_eq_true h2
  have u2 : (p.dst.toList != q.dst.toList) = false := by rw [bne, t2]; rfl
  have H2 := Lib.hid h2
  clear h2
  by_cases h3 : p.sum = q.sum
  rotate_left
  · have t3 : (p.sum == q.sum) = false := by simpa using h3
    have u3 : (p.sum != q.sum) = true := by simpa using h3
    have HE : Hid (false = sameP p q) := Lib.hid (sameP_not (fun h => h3 h.2.2.2.1)).symm
    clear h3
    go_enter Tryd.func8, Tryd.ntmps8
    go_wp2_with fail
    go_ret
    exact ⟨ret_bool HE.out, hB0⟩
  have t3 : (p.sum == q.sum) = true := by simpa using h3
  have u3 : (p.sum != q.sum) = false := by simpa using h3
  have H3 := Lib.hid h3
  clear h3
  by_cases h4 : p.own = q.own
  rotate_left
  · have t4 : (p.own == q.own) = false := by simpa using h4
    have u4 : (p.own != q.own) = true := by simpa using h4
    have HE : Hid (false = sameP p q) := Lib.hid (sameP_not (fun h => h4 h.2.2.2.2.1)).symm
    clear h4
    go_enter Tryd.func8, Tryd.ntmps8
    go_wp2_with fail
    go_ret
    exact ⟨ret_bool HE.out, hB0⟩
  have t4 : (p.own == q.own) = true := by simpa using h4
  have u4 : (p.own != q.own) = false := by simpa using h4
  have H4 := Lib.hid h4
  clear h4
  by_cases h5 : p.first = q.first
  rotate_left
  · have t5 : (p.first == q.first) = false := by simpa using h5
    have u5 : (p.first != q.first) = true := by simpa using h5
    have HE : Hid (false = sameP p q) := Lib.hid (sameP_not (fun h => h5 h.2.2.2.2.2.2.1)).symm
    clear h5
    go_enter Tryd.func8, Tryd.ntmps8
    go_wp2_with fail
    go_ret
    exact ⟨ret_bool HE.out, hB0⟩
  have t5 : (p.first == q.first) = true := by simpa using h5
  have u5 : (p.first != q.first) = false := by simpa using h5
  have H5 := Lib.hid h5
  clear h5
  by_cases h6 : p.last = q.last
  rotate_left
  · have t6 : (p.last == q.last) = false := by simpa using h6
    have u6 : (p.last != q.last) = true := by simpa using h6
    have HE : Hid (false = sameP p q) := Lib.hid (sameP_not (fun h => h6 h.2.2.2.2.2.2.2.1)).symm
    clear h6
    go_enter Tryd.func8, Tryd.ntmps8
    go_wp2_with fail
    go_ret
    exact ⟨ret_bool HE.out, hB0⟩
  have t6 : (p.last == q.last) = true := by simpa using h6
  have u6 : (p.last != q.last) = false := by simpa using h6
  have H6 := Lib.hid h6
  clear h6
  by_cases h7 : p.share = q.share
  rotate_left
  · have t7 : (p.share == q.share) = false := by simpa using h7
    have u7 : (p.share != q.share) = true := by simpa using h7
    have HE : Hid (false = sameP p q) := Lib.hid (sameP_not (fun h => h7 h.2.2.2.2.2.1)).symm
    clear h7
    go_enter Tryd.func8, Tryd.ntmps8
    go_wp2_with fail
    go_ret
    exact ⟨ret_bool HE.out, hB0⟩
  have t7 : (p.share == q.share) = true := by simpa using h7
  have u7 : (p.share != q.share) = false := by simpa using h7
  have H7 := Lib.hid h7
  clear h7
  have HE : Hid (decide (p.causes = q.causes) = sameP p q) := Lib.hid (by unfold sameP; rw [decide_eq_true H0.out, decide_eq_true H1.out, decide_eq_true H2.out, decide_eq_true H3.out, decide_eq_true H4.out, decide_eq_true H7.out, decide_eq_true H5.out, decide_eq_true H6.out]; rfl)
  have l1 := HP.out.c.len; have l2 := HQ.out.c.len; have m1 := HP.out.n; have m2 := HQ.out.n
  unfold maxLen at m1 m2
  have HX := Lib.hid (HP.out.c.below hB0)
  have HY := Lib.hid (HQ.out.c.below hB0)
  by_cases hn : p.cn = q.cn
  rotate_left
  · have e0 : Hid (false = sameP p q) := Lib.hid (by rw [← HE.out, decide_eq_false]; intro h; exact hn (by rw [← l1, ← l2, h]))
    have t8 : ((p.cn : Int) != (q.cn : Int)) = true := by simp; omega
    have t9 : (p.cn != q.cn) = true := by simpa using hn
    clear hn
    go_enter Tryd.func8, Tryd.ntmps8
    go_wp2_with fail
    go_ret
    exact ⟨ret_bool e0.out, hB0⟩
  have t8 : ((p.cn : Int) != (q.cn : Int)) = false := by simp; omega
  have t9 : (p.cn != q.cn) = false := by simp [hn]
  have HNN := Lib.hid hn
  clear hn
  generalize p.cA = PA at HX HY hB0 a0 a1 a2 a3 a4 a5 a6 a7 a8 b0 b1 b2 b3 b4 b5 b6 b7 b8 ⊢
  generalize q.cA = QA at HX HY hB0 a0 a1 a2 a3 a4 a5 a6 a7 a8 b0 b1 b2 b3 b4 b5 b6 b7 b8 ⊢
  go_enter Tryd.func8, Tryd.ntmps8
  go_wp2_with fail
  go_loopw [5] (fun i wr => ∃ k r : Nat, k ≤ p.cn ∧ i = .int .i64 k ∧ wr = ((w.alloc (.cells #[.string p.ins, .string p.fr, .string p.dst, .int .i64 p.sum, .int .i64 p.own, .slice PA p.cn p.cc, .int .i64 p.first, .int .i64 p.last, .int .i64 p.share] 24)).alloc (.cells #[.string q.ins, .string q.fr, .string q.dst, .int .i64 q.sum, .int .i64 q.own, .slice QA q.cn q.cc, .int .i64 q.first, .int .i64 q.last, .int .i64 q.share] 24)).drewN r ∧ Hid (p.causes.take k = q.causes.take k)) (fun i _ => p.cn - (intOf i).toNat)
  case atStart => exact ⟨0, 0, by omega, rfl, rfl, Lib.hid rfl⟩
  case round =>
    obtain ⟨k, r, hk, rfl, rfl, ht⟩ := hrel
    by_cases hlt : k < p.cn
    · have hlt2 : k < q.cn := by have := HNN.out; omega
      obtain ⟨b, off, x, rfl, hx, c0⟩ := get_int HX.out hlt
      obtain ⟨b', off', y, rfl, hy, c1⟩ := get_int HY.out hlt2
      have HXX := Lib.hid hx
      have i0 : (0 : Int) ≤ (k : Int) := by omega
      have i1 : (k : Int) < (p.cn : Int) := by omega
      have i2 : (k : Int) < (q.cn : Int) := by omega
      have HYY := Lib.hid hy
      clear hx hy
      by_cases hxy : x = y
      · have d1 : (x == y) = true := by simpa using hxy
        have d2 : (x != y) = false := by simpa using hxy
        have HT : Hid (p.causes.take (k + 1) = q.causes.take (k + 1)) := Lib.hid (by rw [takeI HXX.out, takeI HYY.out, ht.out, hxy])
        clear hxy
        go_wp2_with fail
        go_quiet (fail)
        go_wp2_with fail
        go_round
        case rel => exact ⟨k + 1, r + nq, by omega, by go_num, by simp [World.drewN], HT⟩
        case measure => simp [intOf]; omega
      · have d1 : (x == y) = false := by simpa using hxy
        have d2 : (x != y) = true := by simpa using hxy
        have e0 : Hid (false = sameP p q) := Lib.hid (by
          rw [← HE.out, decide_eq_false]
          intro h
          rw [h] at HXX
          exact hxy (Option.some.inj (HXX.out.symm.trans HYY.out)))
        clear hxy
        go_wp2_with fail
        go_quiet (fail)
        go_wp2_with fail
        go_ret
        exact ⟨ret_bool e0.out, below_drewN (below_drewN hB0 _) _⟩
    · have e0 : Hid (true = sameP p q) := Lib.hid (by
        have h := ht.out
        have := HNN.out
        rw [List.take_of_length_le (by omega), List.take_of_length_le (by omega)] at h
        rw [← HE.out, decide_eq_true h])
      go_wp2_with fail
      go_ret
      exact ⟨ret_bool e0.out, below_drewN hB0 _⟩
end Go.Proofs.YtldjohmdlggmeaaDoor.kit
