/- The document: the same numbers; both lists together. No condition. -/
import Derived.Test.YtmgijoomfailoaaDoorBoB
namespace Go.Proofs.YtmgijoomfailoaaDoor.cal
open Go.RowKit Go.Proofs.YtmgijoomfailoaaDoor.kit
set_option linter.unusedVariables false

theorem get_int {w : World} {A : Option Addr} {n : Nat} {xs : List Int} (h : SliceOf w 1 intC A n xs) {k : Nat} (hk : k < n) : ∃ b off x, A = some ⟨b, off, none⟩ ∧ xs[k]? = some x ∧ w.cell? ⟨b, off + k, none⟩ = some (.int .i64 x) := by
  have hl := h.len
  obtain ⟨x, hxk⟩ : ∃ x, xs[k]? = some x := ⟨_, List.getElem?_eq_getElem (by omega)⟩
  obtain ⟨b, off, rfl, hb, hc⟩ := h.at_ (by omega)
  exact ⟨b, off, x, rfl, hxk, by simpa using hc k _ hxk 0 _ rfl⟩
theorem take_step {xs : List Int} {k : Nat} {x : Int} (h : xs[k]? = some x) : xs.take (k + 1) = xs.take k ++ [x] := by rw [List.take_add_one, h]; rfl
theorem drop_step {xs : List Int} {k : Nat} {x : Int} (h : xs[k]? = some x) : xs.drop k = x :: xs.drop (k + 1) := by
  obtain ⟨hk, he⟩ := List.getElem?_eq_some_iff.1 h
  rw [List.drop_eq_getElem_cons hk, he]
set_option maxRecDepth 100000 in
set_option maxHeartbeats 1600000 in
theorem same_any (A : Option Addr) (n c : Nat) (xs : List Int) (A2 : Option Addr) (n2 c2 : Nat) (ys : List Int) (w : World)
    (h1 : SliceOf w 1 intC A n xs) (h2 : SliceOf w 1 intC A2 n2 ys) (m1 : n ≤ maxLen) (m2 : n2 ≤ maxLen) :
    Calls Tryd.prog 36 #[.slice A n c, .slice A2 n2 c2] w fun e w' => e = .returned (.bool (decide (xs = ys))) ∧ Below w.heap.size w w' := by
  have H1 := Lib.hid h1
  have H2 := Lib.hid h2
  have l1 := h1.len
  have l2 := h2.len
  unfold maxLen at m1 m2
  clear h1 h2
  by_cases hn : n = n2
  rotate_left
  · have e0 : Hid (false = decide (xs = ys)) := Lib.hid (by rw [decide_eq_false]; rintro rfl; omega)
    have d0 : ((n : Int) != (n2 : Int)) = true := by simp; omega
    have d0n : (n != n2) = true := by simpa using hn
    clear hn
    go_enter Tryd.func36, Tryd.ntmps36
    go_wp2_with fail
    go_ret
    exact ⟨ret_bool e0.out, Below.refl _ _⟩
  subst hn
  go_enter Tryd.func36, Tryd.ntmps36
  go_wp2_with fail
  go_loopw [5] (fun i wr => ∃ k q : Nat, k ≤ n ∧ i = .int .i64 k ∧ wr = w.drewN q ∧ Hid (xs.take k = ys.take k)) (fun i _ => n - (intOf i).toNat)
  case atStart => exact ⟨0, 0, by omega, rfl, rfl, Lib.hid rfl⟩
  case round =>
    obtain ⟨k, q, hk, rfl, rfl, ht⟩ := hrel
    by_cases hlt : k < n
    · obtain ⟨b, off, x, rfl, hx, c0⟩ := get_int H1.out hlt
      obtain ⟨b', off', y, rfl, hy, c1⟩ := get_int H2.out hlt
      have HX := Lib.hid hx
      have HY := Lib.hid hy
      clear hx hy
      by_cases hxy : x = y
      · have d1 : (x != y) = false := by simpa using hxy
        have HT : Hid (xs.take (k + 1) = ys.take (k + 1)) := Lib.hid (by rw [take_step HX.out, take_step HY.out, ht.out, hxy])
        clear hxy
        go_wp2_with fail
        go_quiet (fail)
        go_wp2_with fail
        go_round
        case rel => exact ⟨k + 1, q + nq, by omega, by go_num, by simp [World.drewN], HT⟩
        case measure => simp [intOf]; omega
      · have d1 : (x != y) = true := by simpa using hxy
        have e0 : Hid (false = decide (xs = ys)) := Lib.hid (by
          rw [decide_eq_false]
          rintro rfl
          exact hxy (Option.some.inj (HX.out.symm.trans HY.out)))
        clear hxy
        go_wp2_with fail
        go_quiet (fail)
        go_wp2_with fail
        go_ret
        exact ⟨ret_bool e0.out, below_drewN (below_drewN (Below.refl _ _) _) _⟩
    · have e0 : Hid (true = decide (xs = ys)) := Lib.hid (by
        have h := ht.out
        rw [List.take_of_length_le (by omega), List.take_of_length_le (by omega)] at h
        rw [decide_eq_true h])
      go_wp2_with fail
      go_ret
      exact ⟨ret_bool e0.out, below_drewN (Below.refl _ _) _⟩
set_option maxRecDepth 100000 in
set_option maxHeartbeats 3200000 in
theorem rboth_any (A : Option Addr) (n c : Nat) (xs : List Int) (A2 : Option Addr) (n2 c2 : Nat) (ys : List Int) (w : World)
    (h1 : SliceOf w 1 intC A n xs) (h2 : SliceOf w 1 intC A2 n2 ys) (m1 : n ≤ 10000) (m2 : n2 ≤ 10000) :
    Calls Tryd.prog 35 #[.slice A n c, .slice A2 n2 c2] w fun e w' => ∃ A' m c', e = .returned (.slice A' m c') ∧ SliceOf w' 1 intC A' m (mrg xs ys) ∧ m ≤ n + n2 ∧ Below w.heap.size w w' := by
  obtain ⟨i0, hi, hz0, hz1, hz2⟩ := info_parts infoInt
  have H1 := Lib.hid h1
  have H2 := Lib.hid h2
  have l1 := h1.len
  have l2 := h2.len
  have hB0 : Below w.heap.size w (w.alloc (.cells #[] 3)) := (Below.refl _ _).alloc (Nat.le_refl _) _
  have hO0 : (w.alloc (.cells #[] 3)).ownsRow w.heap.size 3 1 (.slice (some ⟨w.heap.size, 0, none⟩) 0 0) 0 [] := own_empty (Blk.new _ _ _) (Nat.le_refl _)
  have HB0 := Lib.hid hB0
  have HO0 := Lib.hid hO0
  clear h1 h2 hB0 hO0
  go_enter Tryd.func35, Tryd.ntmps35
  go_wp2_with fail
  go_loopw [5, 6, 7] (fun v i k wr => ∃ (a b m : Nat) (A' : Option Addr) (c' : Nat) (zs : List Int), a ≤ n ∧ b ≤ n2 ∧ i = .int .i64 a ∧ k = .int .i64 b ∧ v = .slice A' m c' ∧ m ≤ a + b ∧ Hid (m = zs.length ∧ zs ++ mrg (xs.drop a) (ys.drop b) = mrg xs ys) ∧ Hid (Below w.heap.size w wr) ∧ Hid (wr.ownsRow w.heap.size 3 1 (.slice A' m c') m (zs.flatMap intC))) (fun _ i k _ => (n - (intOf i).toNat) + (n2 - (intOf k).toNat))
  case atStart => exact ⟨0, 0, 0, _, _, [], by omega, by omega, rfl, rfl, rfl, by omega, Lib.hid ⟨rfl, rfl⟩, HB0, HO0⟩
  case round =>
    clear HB0 HO0
    obtain ⟨a, b, m, A', c', zs, ha, hb, rfl, rfl, rfl, hmab, hz, hBw, hown⟩ := hrel
    by_cases k1 : a < n
    · obtain ⟨p, off, x, rfl, hx, c0'⟩ := get_int (H1.out.below hBw.out) k1
      have HX := Lib.hid (drop_step hx)
      clear hx
      have t1 : decide ((a : Int) < (n : Int)) = true := decide_eq_true (by omega)
      by_cases k2 : b < n2
      · obtain ⟨p', off', y, rfl, hy, c1'⟩ := get_int (H2.out.below hBw.out) k2
        have HY := Lib.hid (drop_step hy)
        clear hy
        have t2 : decide ((b : Int) < (n2 : Int)) = true := decide_eq_true (by omega)
        have t3 : ((b : Int) == (n2 : Int)) = false := by simp; omega
        have t3n : (b == n2) = false := by simp; omega
        rcases Int.lt_trichotomy x y with hxy | hxy | hxy
        · have u1 : decide (x ≤ y) = true := decide_eq_true (by omega)
          have u2 : (x == y) = false := by simp; omega
          have HM : Hid ((zs ++ [x]) ++ mrg (xs.drop (a + 1)) (ys.drop b) = mrg xs ys) := Lib.hid (by
            rw [← hz.out.2, HX.out, HY.out, mrg_lt hxy, List.append_assoc]; rfl)
          clear hxy
          go_wp2_with fail
          go_quiet (fail)
          go_wp2_with fail
          go_quiet (fail)
          go_wp2_with (at_builtin; refine wpList_append_any_s _ rfl (.tmp 57) (.tmp 62) _ rfl w.heap.size 3 i0 _ 1 8 Tryd.underlying29 hi hz0 hz1 hz2 rfl (by omega) (.slice A' m c') m _ rfl (World.ownsRow.alloc (show (wr.drewN _).ownsRow _ _ _ _ _ _ from hown.out) _) _ (some ⟨wr.heap.size, 0, none⟩) 1 1 [.int .i64 x] rfl ((SliceOf.blk (en := intC) (Blk.new_at _ 3 #[.int .i64 x] _ rfl) [x] rfl (fun _ => rfl) rfl).reads (fun _ => rfl)) (by simp [Value.oneCell']) (by unfold maxLen; omega) (by omega) ((below_drewN hBw.out _).alloc hBw.out.size _).size ?_; intro A9 c9 w9 hown1 hg1 hloc1; have hB9 : Below w.heap.size w w9 := ((below_drewN hBw.out _).alloc hBw.out.size _).grown hg1 ((below_drewN hBw.out _).alloc hBw.out.size _).size (fun k hk => (hown.out.lt k hk).1); have HO9 := Lib.hid hown1; clear hown1 hg1 hloc1)
          go_roundw
          case rel => exact ⟨a + 1, b, m + 1, A9, c9, zs ++ [x], by omega, by omega, by go_num, by go_num, rfl, by omega, Lib.hid ⟨by rw [List.length_append, hz.out.1]; rfl, HM.out⟩, Lib.hid hB9, Lib.hid (by rw [List.flatMap_append]; exact HO9.out)⟩
          case measure => simp [intOf]; omega
        · subst hxy
          have HM : Hid ((zs ++ [x]) ++ mrg (xs.drop (a + 1)) (ys.drop (b + 1)) = mrg xs ys) := Lib.hid (by
            rw [← hz.out.2, HX.out, HY.out, mrg_eq, List.append_assoc]; rfl)
          go_wp2_with fail
          go_quiet (fail)
          go_wp2_with fail
          go_quiet (fail)
          go_wp2_with (at_builtin; refine wpList_append_any_s _ rfl (.tmp 57) (.tmp 62) _ rfl w.heap.size 3 i0 _ 1 8 Tryd.underlying29 hi hz0 hz1 hz2 rfl (by omega) (.slice A' m c') m _ rfl (World.ownsRow.alloc (show (wr.drewN _).ownsRow _ _ _ _ _ _ from hown.out) _) _ (some ⟨wr.heap.size, 0, none⟩) 1 1 [.int .i64 x] rfl ((SliceOf.blk (en := intC) (Blk.new_at _ 3 #[.int .i64 x] _ rfl) [x] rfl (fun _ => rfl) rfl).reads (fun _ => rfl)) (by simp [Value.oneCell']) (by unfold maxLen; omega) (by omega) ((below_drewN hBw.out _).alloc hBw.out.size _).size ?_; intro A9 c9 w9 hown1 hg1 hloc1; have hB9 : Below w.heap.size w w9 := ((below_drewN hBw.out _).alloc hBw.out.size _).grown hg1 ((below_drewN hBw.out _).alloc hBw.out.size _).size (fun k hk => (hown.out.lt k hk).1); have HO9 := Lib.hid hown1; clear hown1 hg1 hloc1)
          go_roundw
          case rel => exact ⟨a + 1, b + 1, m + 1, A9, c9, zs ++ [x], by omega, by omega, by go_num, by go_num, rfl, by omega, Lib.hid ⟨by rw [List.length_append, hz.out.1]; rfl, HM.out⟩, Lib.hid hB9, Lib.hid (by rw [List.flatMap_append]; exact HO9.out)⟩
          case measure => simp [intOf]; omega
        · have u1 : decide (x ≤ y) = false := decide_eq_false (by omega)
          have HM : Hid ((zs ++ [y]) ++ mrg (xs.drop a) (ys.drop (b + 1)) = mrg xs ys) := Lib.hid (by
            rw [← hz.out.2, HX.out, HY.out, mrg_gt hxy, List.append_assoc]; rfl)
          clear hxy
          go_wp2_with fail
          go_quiet (fail)
          go_wp2_with (at_builtin; refine wpList_append_any_s _ rfl (.tmp 66) (.tmp 71) _ rfl w.heap.size 3 i0 _ 1 8 Tryd.underlying29 hi hz0 hz1 hz2 rfl (by omega) (.slice A' m c') m _ rfl (World.ownsRow.alloc (show (wr.drewN _).ownsRow _ _ _ _ _ _ from hown.out) _) _ (some ⟨wr.heap.size, 0, none⟩) 1 1 [.int .i64 y] rfl ((SliceOf.blk (en := intC) (Blk.new_at _ 3 #[.int .i64 y] _ rfl) [y] rfl (fun _ => rfl) rfl).reads (fun _ => rfl)) (by simp [Value.oneCell']) (by unfold maxLen; omega) (by omega) ((below_drewN hBw.out _).alloc hBw.out.size _).size ?_; intro A9 c9 w9 hown1 hg1 hloc1; have hB9 : Below w.heap.size w w9 := ((below_drewN hBw.out _).alloc hBw.out.size _).grown hg1 ((below_drewN hBw.out _).alloc hBw.out.size _).size (fun k hk => (hown.out.lt k hk).1); have HO9 := Lib.hid hown1; clear hown1 hg1 hloc1)
          go_roundw
          case rel => exact ⟨a, b + 1, m + 1, A9, c9, zs ++ [y], by omega, by omega, by go_num, by go_num, rfl, by omega, Lib.hid ⟨by rw [List.length_append, hz.out.1]; rfl, HM.out⟩, Lib.hid hB9, Lib.hid (by rw [List.flatMap_append]; exact HO9.out)⟩
          case measure => simp [intOf]; omega
      · have hbn : b = n2 := by omega
        subst hbn
        have hyd : ys.drop b = [] := List.drop_eq_nil_of_le (by omega)
        have HM : Hid ((zs ++ [x]) ++ mrg (xs.drop (a + 1)) (ys.drop b) = mrg xs ys) := Lib.hid (by
          rw [← hz.out.2, HX.out, hyd, mrg_nil2, mrg_nil2, List.append_assoc]; rfl)
        have t2 : decide ((b : Int) < (b : Int)) = false := decide_eq_false (by omega)
        clear hyd k2
        go_wp2_with fail
        go_quiet (fail)
        go_wp2_with fail
        go_quiet (fail)
        go_wp2_with (at_builtin; refine wpList_append_any_s _ rfl (.tmp 57) (.tmp 62) _ rfl w.heap.size 3 i0 _ 1 8 Tryd.underlying29 hi hz0 hz1 hz2 rfl (by omega) (.slice A' m c') m _ rfl (World.ownsRow.alloc (show (wr.drewN _).ownsRow _ _ _ _ _ _ from hown.out) _) _ (some ⟨wr.heap.size, 0, none⟩) 1 1 [.int .i64 x] rfl ((SliceOf.blk (en := intC) (Blk.new_at _ 3 #[.int .i64 x] _ rfl) [x] rfl (fun _ => rfl) rfl).reads (fun _ => rfl)) (by simp [Value.oneCell']) (by unfold maxLen; omega) (by omega) ((below_drewN hBw.out _).alloc hBw.out.size _).size ?_; intro A9 c9 w9 hown1 hg1 hloc1; have hB9 : Below w.heap.size w w9 := ((below_drewN hBw.out _).alloc hBw.out.size _).grown hg1 ((below_drewN hBw.out _).alloc hBw.out.size _).size (fun k hk => (hown.out.lt k hk).1); have HO9 := Lib.hid hown1; clear hown1 hg1 hloc1)
        go_roundw
        case rel => exact ⟨a + 1, b, m + 1, A9, c9, zs ++ [x], by omega, by omega, by go_num, by go_num, rfl, by omega, Lib.hid ⟨by rw [List.length_append, hz.out.1]; rfl, HM.out⟩, Lib.hid hB9, Lib.hid (by rw [List.flatMap_append]; exact HO9.out)⟩
        case measure => simp [intOf]; omega
    · have han : a = n := by omega
      subst han
      have hxd : xs.drop a = [] := List.drop_eq_nil_of_le (by omega)
      have t1 : decide ((a : Int) < (a : Int)) = false := decide_eq_false (by omega)
      by_cases k2 : b < n2
      · obtain ⟨p', off', y, rfl, hy, c1'⟩ := get_int (H2.out.below hBw.out) k2
        have HY := Lib.hid (drop_step hy)
        have t2 : decide ((b : Int) < (n2 : Int)) = true := decide_eq_true (by omega)
        have t3 : ((b : Int) == (n2 : Int)) = false := by simp; omega
        have t3n : (b == n2) = false := by simp; omega
        have HM : Hid ((zs ++ [y]) ++ mrg (xs.drop a) (ys.drop (b + 1)) = mrg xs ys) := Lib.hid (by
          rw [← hz.out.2, HY.out, hxd, mrg_nil, mrg_nil, List.append_assoc]; rfl)
        clear hxd hy k1
        go_wp2_with fail
        go_quiet (fail)
        go_wp2_with (at_builtin; refine wpList_append_any_s _ rfl (.tmp 66) (.tmp 71) _ rfl w.heap.size 3 i0 _ 1 8 Tryd.underlying29 hi hz0 hz1 hz2 rfl (by omega) (.slice A' m c') m _ rfl (World.ownsRow.alloc (show (wr.drewN _).ownsRow _ _ _ _ _ _ from hown.out) _) _ (some ⟨wr.heap.size, 0, none⟩) 1 1 [.int .i64 y] rfl ((SliceOf.blk (en := intC) (Blk.new_at _ 3 #[.int .i64 y] _ rfl) [y] rfl (fun _ => rfl) rfl).reads (fun _ => rfl)) (by simp [Value.oneCell']) (by unfold maxLen; omega) (by omega) ((below_drewN hBw.out _).alloc hBw.out.size _).size ?_; intro A9 c9 w9 hown1 hg1 hloc1; have hB9 : Below w.heap.size w w9 := ((below_drewN hBw.out _).alloc hBw.out.size _).grown hg1 ((below_drewN hBw.out _).alloc hBw.out.size _).size (fun k hk => (hown.out.lt k hk).1); have HO9 := Lib.hid hown1; clear hown1 hg1 hloc1)
        go_roundw
        case rel => exact ⟨a, b + 1, m + 1, A9, c9, zs ++ [y], by omega, by omega, by go_num, by go_num, rfl, by omega, Lib.hid ⟨by rw [List.length_append, hz.out.1]; rfl, HM.out⟩, Lib.hid hB9, Lib.hid (by rw [List.flatMap_append]; exact HO9.out)⟩
        case measure => simp [intOf]; omega
      · have hbn : b = n2 := by omega
        subst hbn
        have hyd : ys.drop b = [] := List.drop_eq_nil_of_le (by omega)
        have hzm : zs = mrg xs ys := by rw [← hz.out.2, hxd, hyd, mrg_nil, List.append_nil]
        have HS := Lib.hid (SliceOf.of_own_s hown.out (fun _ => rfl) (by rw [← hzm]) (by rw [← hzm]; exact hz.out.1.symm) : SliceOf wr 1 intC A' m (mrg xs ys))
        have t2 : decide ((b : Int) < (b : Int)) = false := decide_eq_false (by omega)
        clear hxd hyd k1 k2 hzm
        go_wp2_with fail
        go_ret
        exact ⟨_, _, _, rfl, HS.out, hmab, hBw.out⟩
end Go.Proofs.YtmgijoomfailoaaDoor.cal
