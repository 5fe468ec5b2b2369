/- The same texts; a bill's holder; how long a draft's texts are. No condition. -/
import Derived.Test.YtlaclkiedjhphaaGreatDoorDgT
import Derived.Test.YtlaclkiedjhphaaGreatDoorDfB
namespace Go.Proofs.YtlaclkiedjhphaaGreatDoor.kit
open Go.RowKit Go.PlainAid Go.Maps
set_option linter.unusedVariables false

/-- A bool. -/
def IsB (e : Ending) : Prop := ∃ v : Bool, e = .returned (.bool v)
set_option maxRecDepth 100000 in
set_option maxHeartbeats 1600000 in
theorem texts_any (A : Option Addr) (n c : Nat) (xs : List ByteArray) (A2 : Option Addr) (n2 c2 : Nat) (ys : List ByteArray) (w : World)
    (h1 : SliceOf w 1 strC A n xs) (h2 : SliceOf w 1 strC A2 n2 ys) (m1 : n ≤ maxLen) (m2 : n2 ≤ maxLen) :
    Calls Tryz.prog 17 #[.slice A n c, .slice A2 n2 c2] w fun e w' => e = .returned (.bool (decide (xs = ys))) ∧ Below w.heap.size w w' := by
  have H1 := Lib.hid h1
  have H2 := Lib.hid h2
  have l1 := h1.len
  have l2 := h2.len
  unfold maxLen at m1 m2
  clear h1 h2
  by_cases hn : n = n2
  rotate_left
  · have e0 : Hid (false = decide (xs = ys)) := Lib.hid (by rw [decide_eq_false]; rintro rfl; omega)
    have d0 : ((n : Int) != (n2 : Int)) = true := by simp; omega
    have d0n : (n != n2) = true := by simpa using hn
    clear hn
    go_enter Tryz.func17, Tryz.ntmps17
    go_wp2_with fail
    go_ret
    exact ⟨ret_bool e0.out, Below.refl _ _⟩
  subst hn
  go_enter Tryz.func17, Tryz.ntmps17
  go_wp2_with fail
  go_loopw [5] (fun i wr => ∃ k q : Nat, k ≤ n ∧ i = .int .i64 k ∧ wr = w.drewN q ∧ Hid (xs.take k = ys.take k)) (fun i _ => n - (intOf i).toNat)
  case atStart => exact ⟨0, 0, by omega, rfl, rfl, Lib.hid rfl⟩
  case round =>
    obtain ⟨k, q, hk, rfl, rfl, ht⟩ := hrel
    by_cases hlt : k < n
    · obtain ⟨b, off, x, rfl, hx, c0⟩ := get_str H1.out hlt
      obtain ⟨b', off', y, rfl, hy, c1⟩ := get_str H2.out hlt
      have HX := Lib.hid hx
      have HY := Lib.hid hy
      clear hx hy
      have q1 := eq_str x y
      by_cases hxy : x = y
      · have d1 : (x.toList == y.toList) = true := by rw [q1]; exact decide_eq_true hxy
        have d2 : (x.toList != y.toList) = false := by rw [bne, q1, decide_eq_true hxy]; rfl
        have HT : Hid (xs.take (k + 1) = ys.take (k + 1)) := Lib.hid (by rw [takeS HX.out, takeS HY.out, ht.out, hxy])
        clear q1 hxy
        go_wp2_with fail
        go_quiet (fail)
        go_wp2_with fail
        go_round
        case rel => exact ⟨k + 1, q + nq, by omega, by go_num, by simp [World.drewN], HT⟩
        case measure => simp [intOf]; omega
      · have d1 : (x.toList == y.toList) = false := by rw [q1]; exact decide_eq_false hxy
        have d2 : (x.toList != y.toList) = true := by rw [bne, q1, decide_eq_false hxy]; rfl
        have e0 : Hid (false = decide (xs = ys)) := Lib.hid (by
          rw [decide_eq_false]
          rintro rfl
          exact hxy (Option.some.inj (HX.out.symm.trans HY.out)))
        clear q1 hxy
        go_wp2_with fail
        go_quiet (fail)
        go_wp2_with fail
        go_ret
        exact ⟨ret_bool e0.out, below_drewN (below_drewN (Below.refl _ _) _) _⟩
    · have e0 : Hid (true = decide (xs = ys)) := Lib.hid (by
        have h := ht.out
        rw [List.take_of_length_le (by omega), List.take_of_length_le (by omega)] at h
        rw [decide_eq_true h])
      go_wp2_with fail
      go_ret
      exact ⟨ret_bool e0.out, below_drewN (Below.refl _ _) _⟩
theorem holder_any (g mb : Nat) (b : Bl) (w : World) (hb : IsBill w g mb b) : Calls Tryz.prog 19 #[(.pointer (some ⟨g, 0, none⟩))] w fun e w' => e = .returned (.string b.hol) ∧ w = w' := by
  have z11 : w.cell? ⟨g, 11, none⟩ = some (.string b.hol) := hb.blk.cell 11
  clear hb
  go_enter Tryz.func19, Tryz.ntmps19
  go_wp2_with fail
  go_ret
  exact ⟨rfl, rfl⟩
set_option maxRecDepth 100000 in
set_option maxHeartbeats 1600000 in
theorem long_any (d : Dr) (w : World) (hd : d.ok) : Calls Tryz.prog 5 #[.agg #[.string d.num, .string d.drw, .string d.dre, .string d.pay, .string d.cur, .int .i64 d.amt, .int .i64 d.kind, .int .i64 d.days, .int .i64 d.fr]] w fun e w' => IsB e ∧ Below w.heap.size w w' := by
  have z1 := hd.n; have z2 := hd.w; have z3 := hd.e; have z4 := hd.p; have z5 := hd.c
  unfold maxLen at z1 z2 z3 z4 z5
  clear hd
  have hB0 : Below w.heap.size w (w.alloc (.cells #[.string d.num, .string d.drw, .string d.dre, .string d.pay, .string d.cur, .int .i64 d.amt, .int .i64 d.kind, .int .i64 d.days, .int .i64 d.fr] 28)) := (Below.refl _ _).alloc (Nat.le_refl _) _
  have hk0 : Blk (w.alloc (.cells #[.string d.num, .string d.drw, .string d.dre, .string d.pay, .string d.cur, .int .i64 d.amt, .int .i64 d.kind, .int .i64 d.days, .int .i64 d.fr] 28)) w.heap.size 28 #[.string d.num, .string d.drw, .string d.dre, .string d.pay, .string d.cur, .int .i64 d.amt, .int .i64 d.kind, .int .i64 d.days, .int .i64 d.fr] := Blk.new _ _ _
  have a0 := hk0.cell 0; have a1 := hk0.cell 1; have a2 := hk0.cell 2; have a3 := hk0.cell 3; have a4 := hk0.cell 4; have a5 := hk0.cell 5; have a6 := hk0.cell 6; have a7 := hk0.cell 7; have a8 := hk0.cell 8; simp only [List.getElem?_toArray, List.getElem?_cons_zero, List.getElem?_cons_succ] at a0 a1 a2 a3 a4 a5 a6 a7 a8
  by_cases h1 : 100 < d.num.size
  · go_enter Tryz.func5, Tryz.ntmps5
    go_wp2_with fail
    go_ret
    exact ⟨⟨_, rfl⟩, hB0⟩
  by_cases h2 : 100 < d.drw.size
  · go_enter Tryz.func5, Tryz.ntmps5
    go_wp2_with fail
    go_ret
    exact ⟨⟨_, rfl⟩, hB0⟩
  by_cases h3 : 100 < d.dre.size
  · go_enter Tryz.func5, Tryz.ntmps5
    go_wp2_with fail
    go_ret
    exact ⟨⟨_, rfl⟩, hB0⟩
  by_cases h4 : 100 < d.pay.size
  · go_enter Tryz.func5, Tryz.ntmps5
    go_wp2_with fail
    go_ret
    exact ⟨⟨_, rfl⟩, hB0⟩
  by_cases h5 : 100 < d.cur.size
  · go_enter Tryz.func5, Tryz.ntmps5
    go_wp2_with fail
    go_ret
    exact ⟨⟨_, rfl⟩, hB0⟩
  go_enter Tryz.func5, Tryz.ntmps5
  go_wp2_with fail
  go_ret
  exact ⟨⟨_, rfl⟩, hB0⟩
end Go.Proofs.YtlaclkiedjhphaaGreatDoor.kit
