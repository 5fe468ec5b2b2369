/- supercargoref14.Fit tells whether loads fit. No condition. -/
import Derived.Test.YteciegpfiipokaaShip
import Derived.Test.YteciegpfiipokaaMom
import Derived.Test.YteciegpfiipokaaEq
namespace Go.Proofs.Yteciegpfiipokaa
open Go.RowKit Go.Proofs.Yteciegpfiipokaa.kit
set_option linter.unusedVariables false

def seenAt (xs : List Load) (k : Nat) : List Sl := ((xs.take k).map Load.sl).reverse
theorem seen_step {xs : List Load} {k : Nat} {x : Load} (hx : xs[k]? = some x) : seenAt xs (k + 1) = x.sl :: seenAt xs k := by
  unfold seenAt
  rw [List.take_add_one, hx]
  simp
theorem seen_hit {xs : List Load} {i k : Nat} {y : Load} {q : Sl} (hk : k < i) (hy : xs[k]? = some y) (he : y.sl = q) : (seenAt xs i).contains q = true := by
  simp only [seenAt, List.contains_iff_mem, List.mem_reverse, List.mem_map]
  refine ⟨y, ?_, he⟩
  rw [List.mem_take_iff_getElem]
  obtain ⟨h1, h2⟩ := List.getElem?_eq_some_iff.1 hy
  exact ⟨k, by omega, h2⟩
theorem seen_miss {xs : List Load} {i : Nat} {q : Sl} (h : ∀ j, j < i → ∀ y, xs[j]? = some y → y.sl ≠ q) : (seenAt xs i).contains q = false := by
  rw [Bool.eq_false_iff]
  intro hc
  simp only [seenAt, List.contains_iff_mem, List.mem_reverse, List.mem_map] at hc
  obtain ⟨y, hy, he⟩ := hc
  rw [List.mem_take_iff_getElem] at hy
  obtain ⟨j, hj, h2⟩ := hy
  exact h j (by omega) y (List.getElem?_eq_some_iff.2 ⟨by omega, h2⟩) he
theorem ok_in {s : Ship} {seen : List Sl} {x : Load} : okB s seen x = (inr x.b 0 (s.ba - 1) && inr x.r 0 (s.ro - 1) && inr x.t 0 (s.ti - 1) && inr x.we 1 1048576 && !seen.contains x.sl) := by
  unfold okB onS inr
  rw [Bool.eq_iff_iff]
  simp
  intro _
  omega

set_option maxRecDepth 100000 in
set_option maxHeartbeats 3200000 in
theorem rfit_any (s : Ship) (hn : s.nm.size ≤ maxLen) (A : Option Addr) (n c : Nat) (xs : List Load) (w : World) (hx : SliceOf w 7 Load.cells A n xs) (hm : n ≤ maxLen) :
    Calls Try.prog 10 #[.agg #[.string s.nm, .int .i64 s.ba, .int .i64 s.ro, .int .i64 s.ti, .int .i64 s.st, .int .i64 s.tr, .int .i64 s.li, .int .i64 s.up, .int .i64 s.mo], .slice A n c] w
      fun e w' => e = .returned (.bool (fitB s xs)) ∧ Below w.heap.size w w' := by
  have HX := Lib.hid hx
  have hB0 : Below w.heap.size w (w.alloc (.cells #[.string s.nm, .int .i64 s.ba, .int .i64 s.ro, .int .i64 s.ti, .int .i64 s.st, .int .i64 s.tr, .int .i64 s.li, .int .i64 s.up, .int .i64 s.mo] 23)) := (Below.refl _ _).alloc (Nat.le_refl _) _
  have hk0 : Blk (w.alloc (.cells #[.string s.nm, .int .i64 s.ba, .int .i64 s.ro, .int .i64 s.ti, .int .i64 s.st, .int .i64 s.tr, .int .i64 s.li, .int .i64 s.up, .int .i64 s.mo] 23)) w.heap.size 23 #[.string s.nm, .int .i64 s.ba, .int .i64 s.ro, .int .i64 s.ti, .int .i64 s.st, .int .i64 s.tr, .int .i64 s.li, .int .i64 s.up, .int .i64 s.mo] := Blk.new _ _ _
  go_enter Try.func10, Try.ntmps10
  go_wp2_with fail
  refine (rship_any s hn _).mono ?_
  rintro e w1 ⟨rfl, hb1⟩
  have hB1 := hB0.trans (hb1.mono hB0.size)
  have hk1 := hk0.below hb1 hk0.lt
  clear hB0 hk0 hb1
  cases hmay : s.may
  · have e0 : Hid (fitB s xs = false) := Lib.hid (by simp [fitB, hmay])
    clear hx
    go_wp2_with fail
    go_ret
    exact ⟨ret_bool e0.out.symm, hB1⟩
  obtain ⟨d0, d1, d2, d3, d4, d5⟩ := dims_of hmay
  have hM := Lib.hid hmay
  by_cases hbig : 4096 < n
  · have e0 : Hid (fitB s xs = false) := Lib.hid (by have := hx.len; simp [fitB]; omega)
    have hbig' : (4096 : Int) < (n : Int) := by omega
    clear hx hmay
    go_wp2_with fail
    go_ret
    exact ⟨ret_bool e0.out.symm, hB1⟩
  have hbig' : ¬ (4096 : Int) < (n : Int) := by omega
  have hS : Hid (fitB s xs = pre s [] xs) := Lib.hid (by have := hx.len; unfold fitB; rw [hmay, show decide (xs.length ≤ 4096) = true by simp; omega]; simp)
  have hxl : xs.length = n := hx.len
  clear hx hmay
  go_wp2_with fail
  go_loopw [5] (fun i wr => ∃ (k : Nat), k ≤ n ∧ i = .int .i64 k ∧ Below w.heap.size w wr ∧ Blk wr w.heap.size 23 #[.string s.nm, .int .i64 s.ba, .int .i64 s.ro, .int .i64 s.ti, .int .i64 s.st, .int .i64 s.tr, .int .i64 s.li, .int .i64 s.up, .int .i64 s.mo] ∧ Hid (pre s (seenAt xs k) (xs.drop k) = pre s [] xs)) (fun i _ => n - (intOf i).toNat)
  case atStart => exact ⟨0, by omega, rfl, hB1, hk1, Lib.hid rfl⟩
  case round =>
    obtain ⟨k, hk, rfl, hbel, hks, hpre⟩ := hrel
    by_cases hlt : k < n
    · obtain ⟨⟨xb, xr, xt, xbox, xwe, xcl, xpo⟩, hx⟩ : ∃ x, xs[k]? = some x := ⟨_, List.getElem?_eq_getElem (by omega)⟩
      obtain ⟨b0, off, rfl, hb0, hc⟩ := HX.out.at_ (by omega)
      have c0 : wr.cell? ⟨b0, off + k * 7, none⟩ = some (.int .i64 xb) := (hbel.cell hb0).trans (hc k _ hx 0 _ rfl)
      have c1 : wr.cell? ⟨b0, off + k * 7 + 1, none⟩ = some (.int .i64 xr) := (hbel.cell hb0).trans (hc k _ hx 1 _ rfl)
      have c2 : wr.cell? ⟨b0, off + k * 7 + 2, none⟩ = some (.int .i64 xt) := (hbel.cell hb0).trans (hc k _ hx 2 _ rfl)
      have c3 : wr.cell? ⟨b0, off + k * 7 + 3, none⟩ = some (.string xbox) := (hbel.cell hb0).trans (hc k _ hx 3 _ rfl)
      have c4 : wr.cell? ⟨b0, off + k * 7 + 4, none⟩ = some (.int .i64 xwe) := (hbel.cell hb0).trans (hc k _ hx 4 _ rfl)
      have c5 : wr.cell? ⟨b0, off + k * 7 + 5, none⟩ = some (.int .i64 xcl) := (hbel.cell hb0).trans (hc k _ hx 5 _ rfl)
      have c6 : wr.cell? ⟨b0, off + k * 7 + 6, none⟩ = some (.int .i64 xpo) := (hbel.cell hb0).trans (hc k _ hx 6 _ rfl)
      have HP := Lib.hid ((pre_step (s := s) (seen := seenAt xs k) hx).symm.trans hpre.out)
      have HC := Lib.hid hc
      have HXK := Lib.hid hx
      clear hx hpre hc
      have hkl := hks.alloc (.cells #[.int .i64 xb, .int .i64 xr, .int .i64 xt, .string xbox, .int .i64 xwe, .int .i64 xcl, .int .i64 xpo] 40)
      have hnl := Blk.new wr 40 #[.int .i64 xb, .int .i64 xr, .int .i64 xt, .string xbox, .int .i64 xwe, .int .i64 xcl, .int .i64 xpo]
      have hBl := hbel.alloc hbel.size (.cells #[.int .i64 xb, .int .i64 xr, .int .i64 xt, .string xbox, .int .i64 xwe, .int .i64 xcl, .int .i64 xpo] 40)
      have a1 := hkl.cell 1; have a2 := hkl.cell 2; have a3 := hkl.cell 3
      simp only [List.getElem?_toArray, List.getElem?_cons_zero, List.getElem?_cons_succ] at a1 a2 a3
      cases q1 : inr xb 0 (s.ba - 1)
      · have e0 : Hid (fitB s xs = false) := Lib.hid (by rw [hS.out, ← HP.out, ok_in]; simp [q1])
        go_wp2_with (go_at_call 20; refine (in_any _ _ _ _).mono ?_; rintro e w' ⟨rfl, rfl⟩)
        go_ret
        exact ⟨ret_bool e0.out.symm, hBl⟩
      cases q2 : inr xr 0 (s.ro - 1)
      · have e0 : Hid (fitB s xs = false) := Lib.hid (by rw [hS.out, ← HP.out, ok_in]; simp [q2])
        go_wp2_with (go_at_call 20; refine (in_any _ _ _ _).mono ?_; rintro e w' ⟨rfl, rfl⟩)
        go_ret
        exact ⟨ret_bool e0.out.symm, hBl⟩
      cases q3 : inr xt 0 (s.ti - 1)
      · have e0 : Hid (fitB s xs = false) := Lib.hid (by rw [hS.out, ← HP.out, ok_in]; simp [q3])
        go_wp2_with (go_at_call 20; refine (in_any _ _ _ _).mono ?_; rintro e w' ⟨rfl, rfl⟩)
        go_ret
        exact ⟨ret_bool e0.out.symm, hBl⟩
      cases q4 : inr xwe 1 1048576
      · have e0 : Hid (fitB s xs = false) := Lib.hid (by rw [hS.out, ← HP.out, ok_in]; simp [q4])
        go_wp2_with (go_at_call 20; refine (in_any _ _ _ _).mono ?_; rintro e w' ⟨rfl, rfl⟩)
        go_ret
        exact ⟨ret_bool e0.out.symm, hBl⟩
      have W4 := Lib.hid (show okB s (seenAt xs k) ⟨xb, xr, xt, xbox, xwe, xcl, xpo⟩ = !(seenAt xs k).contains (xb, xr, xt) by rw [ok_in]; simp [q1, q2, q3, q4, Load.sl])
      go_wp2_with (go_at_call 20; refine (in_any _ _ _ _).mono ?_; rintro e w' ⟨rfl, rfl⟩)
      clear q1 q2 q3 q4
      rename World => wq
      go_loopw [7] (fun i wv => ∃ (j : Nat), j ≤ k ∧ i = .int .i64 j ∧ Below w.heap.size w wv ∧ Blk wv w.heap.size 23 #[.string s.nm, .int .i64 s.ba, .int .i64 s.ro, .int .i64 s.ti, .int .i64 s.st, .int .i64 s.tr, .int .i64 s.li, .int .i64 s.up, .int .i64 s.mo] ∧ Blk wv wq.heap.size 40 #[.int .i64 xb, .int .i64 xr, .int .i64 xt, .string xbox, .int .i64 xwe, .int .i64 xcl, .int .i64 xpo] ∧ Hid (∀ j', j' < j → ∀ y, xs[j']? = some y → y.sl ≠ (xb, xr, xt))) (fun i _ => k - (intOf i).toNat)
      case atStart => exact ⟨0, by omega, rfl, hBl, hkl, hnl, Lib.hid (fun _ h => absurd h (by omega))⟩
      case round =>
        clear a1 a2 a3
        obtain ⟨j, hj, rfl, hbv, hkv, hnv, hmiss⟩ := hrel
        by_cases hjt : j < k
        · obtain ⟨⟨yb, yr, yt, ybox, ywe, ycl, ypo⟩, hy⟩ : ∃ x, xs[j]? = some x := ⟨_, List.getElem?_eq_getElem (by omega)⟩
          have g0 : wr.cell? ⟨b0, off + j * 7, none⟩ = some (.int .i64 yb) := (hbv.cell hb0).trans (HC.out j _ hy 0 _ rfl)
          have g1 : wr.cell? ⟨b0, off + j * 7 + 1, none⟩ = some (.int .i64 yr) := (hbv.cell hb0).trans (HC.out j _ hy 1 _ rfl)
          have g2 : wr.cell? ⟨b0, off + j * 7 + 2, none⟩ = some (.int .i64 yt) := (hbv.cell hb0).trans (HC.out j _ hy 2 _ rfl)
          have n0 := hnv.cell 0; have n1 := hnv.cell 1; have n2 := hnv.cell 2
          simp only [List.getElem?_toArray, List.getElem?_cons_zero, List.getElem?_cons_succ] at n0 n1 n2
          have HY := Lib.hid hy
          have jn : (j : Int) < (n : Int) := by omega
          have j0 : (0 : Int) ≤ (j : Int) := by omega
          clear hy
          have qg := fun w => eqSlotGuard #[.int .i64 yb, .int .i64 yr, .int .i64 yt] #[.int .i64 xb, .int .i64 xr, .int .i64 xt] (.tmp 69) (.tmp 71) w
          cases eq : ((yb, yr, yt) : Sl) == (xb, xr, xt)
          · have qe : ∀ w : World, (binOp .eql 38 (.agg #[.int .i64 yb, .int .i64 yr, .int .i64 yt]) (.agg #[.int .i64 xb, .int .i64 xr, .int .i64 xt])).run Try.prog w = .ok (.bool false) w := fun w => (eqSlot yb yr yt xb xr xt w).trans (by rw [eq])
            have EQ := Lib.hid eq
            clear eq
            go_wp2_with fail
            go_quiet (fail)
            go_wp2_with fail
            go_roundw
            case rel =>
              refine ⟨j + 1, by omega, by go_num, below_drewN hbv _, hkv.drewN _, hnv.drewN _, Lib.hid ?_⟩
              intro j' hj' y hy
              rcases Nat.lt_or_ge j' j with h | h
              · exact hmiss.out j' h y hy
              · obtain rfl : j' = j := by omega
                rw [HY.out] at hy
                cases hy
                have := EQ.out
                simpa [Load.sl] using this
            case measure => simp [intOf]; omega
          · have qe : ∀ w : World, (binOp .eql 38 (.agg #[.int .i64 yb, .int .i64 yr, .int .i64 yt]) (.agg #[.int .i64 xb, .int .i64 xr, .int .i64 xt])).run Try.prog w = .ok (.bool true) w := fun w => (eqSlot yb yr yt xb xr xt w).trans (by rw [eq])
            have e0 : Hid (fitB s xs = false) := Lib.hid (by rw [hS.out, ← HP.out, W4.out, seen_hit (y := ⟨yb, yr, yt, ybox, ywe, ycl, ypo⟩) hjt HY.out (by simpa [Load.sl] using eq)]; rfl)
            clear eq
            go_wp2_with fail
            go_quiet (fail)
            go_wp2_with fail
            go_ret
            exact ⟨ret_bool e0.out.symm, below_drewN hbv _⟩
        · have hjk : j = k := by omega
          have e1 := Lib.hid (W4.out.trans (by rw [seen_miss (i := k) (fun j' h => hmiss.out j' (by omega))]; rfl : _ = true))
          go_wp2_with fail
          go_roundw
          case rel =>
            refine ⟨k + 1, by omega, by go_num, hbv, hkv, Lib.hid ?_⟩
            rw [seen_step HXK.out, ← HP.out, e1.out]
            rfl
          case measure => simp [intOf]; omega
    · have hkn : k = n := by omega
      have e0 : Hid (fitB s xs = true) := Lib.hid (by rw [hS.out, ← hpre.out, List.drop_eq_nil_of_le (by omega)]; simp [pre])
      go_wp2_with fail
      go_ret
      exact ⟨ret_bool e0.out.symm, hbel⟩
end Go.Proofs.Yteciegpfiipokaa
