/- A calendar made ready: binary search, the plan, whether a day rests by it. No condition. -/
import Derived.Test.YtlicmhgpldmliaaDoorCalC
namespace Go.Proofs.YtlicmhgpldmliaaDoor.cal
open Go.RowKit Go.Proofs.YtlicmhgpldmliaaDoor.kit
set_option linter.unusedVariables false
--%

theorem less_any (x y : Int) (w : World) : Calls Tryd.prog 36 #[.int .i64 x, .int .i64 y] w fun e w' => e = .returned (.bool (decide (x < y))) ∧ w = w' := by
  go_enter Tryd.func36, Tryd.ntmps36
  go_wp2
  go_ret
  exact ⟨rfl, rfl⟩
theorem nan_any (x : Int) (w : World) : Calls Tryd.prog 37 #[.int .i64 x] w fun e w' => e = .returned (.bool false) ∧ w = w' := by
  go_enter Tryd.func37, Tryd.ntmps37
  go_wp2
  go_ret
  exact ⟨ret_bool (by simp), rfl⟩

def Found (xs : List Int) (q : Int) (w : World) (e : Ending) (w' : World) : Prop := ∃ i : Int, e = .returned (.tuple #[.int .i64 i, .bool (has xs q)]) ∧ w = w'
set_option maxHeartbeats 1600000 in
theorem bs_any (A : Option Addr) (n c : Nat) (xs : List Int) (q : Int) (w : World) (hx : SliceOf w 1 intC A n xs) (hm : n ≤ 4096) (hs : xs.Pairwise (· < ·)) :
    Calls Tryd.prog 29 #[.slice A n c, .int .i64 q] w (Found xs q w) := by
  have HX := Lib.hid hx
  have hxl := hx.len
  have HS : Hid (∀ i j x y, i < j → xs[i]? = some x → xs[j]? = some y → x < y) := Lib.hid (fun i j x y hij hi hj => by
    obtain ⟨h1, rfl⟩ := List.getElem?_eq_some_iff.1 hi
    obtain ⟨h2, rfl⟩ := List.getElem?_eq_some_iff.1 hj
    exact List.pairwise_iff_getElem.1 hs i j h1 h2 hij)
  clear hx hs
  go_enter Tryd.func29, Tryd.ntmps29
  go_wp2_with fail
  go_loop [7, 8] (fun vi vj => ∃ i j : Nat, i ≤ j ∧ j ≤ n ∧ vi = .int .i64 i ∧ vj = .int .i64 j ∧ Hid (∀ t x, t < i → xs[t]? = some x → x < q) ∧ Hid (∀ t x, j ≤ t → xs[t]? = some x → q ≤ x)) (fun vi vj => (intOf vj).toNat - (intOf vi).toNat)
  case atStart => exact ⟨0, n, by omega, by omega, rfl, rfl, Lib.hid (fun t x h => absurd h (by omega)), Lib.hid (fun t x h hx => absurd (List.getElem?_eq_some_iff.1 hx).1 (by omega))⟩
  case round =>
    obtain ⟨i, j, hij, hj, rfl, rfl, hlo, hhi⟩ := hrel
    by_cases hlt : i < j
    · obtain ⟨x, hxk⟩ : ∃ x, xs[(i + j) / 2]? = some x := ⟨_, List.getElem?_eq_getElem (by omega)⟩
      obtain ⟨b, off, rfl, hb, hc⟩ := HX.out.at_ (by omega)
      have c0 : w.cell? ⟨b, off + (i + j) / 2, none⟩ = some (.int .i64 x) := by simpa using hc _ _ hxk 0 _ rfl
      have HK := Lib.hid hxk
      clear hc hxk
      go_wp2_with fail
      refine (less_any x q _).mono ?_
      rintro e w' ⟨rfl, rfl⟩
      by_cases hxq : x < q
      · go_wp2_with fail
        go_round
        case rel => exact ⟨(i + j) / 2 + 1, j, by omega, by omega, by go_num, rfl, Lib.hid (fun t y ht hy => by
          rcases Nat.lt_or_ge t ((i + j) / 2) with h | h
          · have := HS.out t _ y x h hy HK.out
            omega
          · obtain rfl : t = (i + j) / 2 := by omega
            rw [HK.out] at hy
            cases hy
            exact hxq), hhi⟩
        case measure => simp [intOf]; omega
      · go_wp2_with fail
        go_round
        case rel => exact ⟨i, (i + j) / 2, by omega, by omega, rfl, by go_num, hlo, Lib.hid (fun t y ht hy => by
          rcases Nat.lt_or_ge ((i + j) / 2) t with h | h
          · have := HS.out _ t x y h HK.out hy
            omega
          · obtain rfl : t = (i + j) / 2 := by omega
            rw [HK.out] at hy
            cases hy
            omega)⟩
        case measure => simp [intOf]; omega
    · obtain rfl : i = j := by omega
      by_cases hin : i < n
      · obtain ⟨y, hy⟩ : ∃ y, xs[i]? = some y := ⟨_, List.getElem?_eq_getElem (by omega)⟩
        obtain ⟨b, off, rfl, hb, hc⟩ := HX.out.at_ (by omega)
        have c0 : w.cell? ⟨b, off + i, none⟩ = some (.int .i64 y) := by simpa using hc _ _ hy 0 _ rfl
        have hn' : decide ((i : Int) < (n : Int)) = true := decide_eq_true (by omega)
        have hn2 : decide (i < n) = true := decide_eq_true hin
        have HY := Lib.hid hy
        clear hc hy
        by_cases he : y = q
        · have he' : (y == q) = true := by simp [he]
          have e0 : Hid (has xs q = true) := Lib.hid (by rw [has_iff, ← he]; exact List.mem_of_getElem? HY.out)
          clear he
          go_wp2_with fail
          go_ret2
          exact ⟨i, by rw [e0.out]; rfl, rfl⟩
        · have he' : (y == q) = false := by simp [he]
          have e0 : Hid (has xs q = false) := Lib.hid (by
            rw [Bool.eq_false_iff, ne_eq, has_iff]
            intro hmem
            obtain ⟨t, ht⟩ := List.getElem?_of_mem hmem
            rcases Nat.lt_trichotomy t i with h | h | h
            · have := hlo.out t q h ht
              omega
            · subst h
              rw [HY.out] at ht
              cases ht
              exact he rfl
            · have h1 := hhi.out i y (Nat.le_refl _) HY.out
              have h2 := HS.out i t y q h HY.out ht
              omega)
          clear he
          go_wp2_with (go_at_call 37; refine (nan_any _ _).mono ?_; rintro e w' ⟨rfl, rfl⟩)
          go_ret2
          exact ⟨i, by rw [e0.out]; rfl, rfl⟩
      · have hn' : decide ((i : Int) < (n : Int)) = false := decide_eq_false (by omega)
        have hn2 : decide (i < n) = false := decide_eq_false hin
        have e0 : Hid (has xs q = false) := Lib.hid (by
          rw [Bool.eq_false_iff, ne_eq, has_iff]
          intro hmem
          obtain ⟨t, ht⟩ := List.getElem?_of_mem hmem
          have h1 := (List.getElem?_eq_some_iff.1 ht).1
          have := hlo.out t q (by omega) ht
          omega)
        go_wp2_with fail
        go_ret2
        exact ⟨i, by rw [e0.out]; rfl, rfl⟩

/-! ### the plan -/
theorem plan_cell {w : World} {g : Nat} {t : TypeId} {f : Int → Bool} {v : Value} (h : Blk w g t #[.bool (f 0), .bool (f 1), .bool (f 2), .bool (f 3), .bool (f 4), .bool (f 5), .bool (f 6), v]) (x : Int) (h0 : 0 ≤ x) (h1 : x ≤ 6) : w.cell? ⟨g, x.toNat, none⟩ = some (.bool (f x)) := by
  have : x = 0 ∨ x = 1 ∨ x = 2 ∨ x = 3 ∨ x = 4 ∨ x = 5 ∨ x = 6 := by omega
  rcases this with rfl | rfl | rfl | rfl | rfl | rfl | rfl
  · exact h.cell 0
  · exact h.cell 1
  · exact h.cell 2
  · exact h.cell 3
  · exact h.cell 4
  · exact h.cell 5
  · exact h.cell 6
theorem plan_set {w : World} {g : Nat} {t : TypeId} {f f' : Int → Bool} {v : Value} (h : Blk w g t #[.bool (f 0), .bool (f 1), .bool (f 2), .bool (f 3), .bool (f 4), .bool (f 5), .bool (f 6), v]) (x : Int) (h0 : 0 ≤ x) (h1 : x ≤ 6) (hf : ∀ q, f' q = (f q || x == q)) : Blk (w.setCell ⟨g, x.toNat, none⟩ (.bool true)) g t #[.bool (f' 0), .bool (f' 1), .bool (f' 2), .bool (f' 3), .bool (f' 4), .bool (f' 5), .bool (f' 6), v] := by
  have hs := h.set_ x.toNat (.bool true)
  have : x = 0 ∨ x = 1 ∨ x = 2 ∨ x = 3 ∨ x = 4 ∨ x = 5 ∨ x = 6 := by omega
  simp only [hf]
  rcases this with rfl | rfl | rfl | rfl | rfl | rfl | rfl
  all_goals (simp at hs ⊢; exact hs)

set_option maxHeartbeats 800000 in
theorem prests_any (f : Int → Bool) (A : Option Addr) (n c : Nat) (xs : List Int) (d : Int) (hd : 0 ≤ d) (w : World) (hx : SliceOf w 1 intC A n xs) (hm : n ≤ 4096) (hs : xs.Pairwise (· < ·)) :
    Calls Tryd.prog 19 #[.agg #[.bool (f 0), .bool (f 1), .bool (f 2), .bool (f 3), .bool (f 4), .bool (f 5), .bool (f 6), .slice A n c], .int .i64 d] w fun e w' => e = .returned (.bool (f (d % 7) || has xs d)) ∧ Below w.heap.size w w' := by
  have HX := Lib.hid hx
  have HS := Lib.hid hs
  have hB0 : Below w.heap.size w (w.alloc (.cells #[.bool (f 0), .bool (f 1), .bool (f 2), .bool (f 3), .bool (f 4), .bool (f 5), .bool (f 6), .slice A n c] 53)) := (Below.refl _ _).alloc (Nat.le_refl _) _
  have hk0 : Blk (w.alloc (.cells #[.bool (f 0), .bool (f 1), .bool (f 2), .bool (f 3), .bool (f 4), .bool (f 5), .bool (f 6), .slice A n c] 53)) w.heap.size 53 #[.bool (f 0), .bool (f 1), .bool (f 2), .bool (f 3), .bool (f 4), .bool (f 5), .bool (f 6), .slice A n c] := Blk.new _ _ _
  have m0 : 0 ≤ d % 7 := by omega
  have m1 : d % 7 ≤ 6 := by omega
  have m2 : d % 7 < 7 := by omega
  have c0 := plan_cell hk0 (d % 7) m0 m1
  obtain ⟨fl, hfl⟩ : ∃ fl, f (d % 7) = fl := ⟨_, rfl⟩
  rw [hfl] at c0 ⊢
  clear hx hs hk0 hfl
  cases fl
  · go_enter Tryd.func19, Tryd.ntmps19
    go_wp2_with fail
    refine (bs_any A n c xs d _ (HX.out.below hB0) hm HS.out).mono ?_
    rintro e w1 ⟨i, rfl, rfl⟩
    go_wp2_with fail
    go_ret
    exact ⟨ret_bool (by simp), hB0⟩
  · go_enter Tryd.func19, Tryd.ntmps19
    go_wp2_with fail
    go_ret
    exact ⟨ret_bool (by simp), hB0⟩

theorem set8p {w : World} {g : Nat} {t : TypeId} {a b c d e f i j : Value} (h : Blk w g t #[a, b, c, d, e, f, i, j]) (a' b' c' d' e' f' i' j' : Value) :
    Blk ((((((((w.setCell ⟨g, 0, none⟩ a').setCell ⟨g, 1, none⟩ b').setCell ⟨g, 2, none⟩ c').setCell ⟨g, 3, none⟩ d').setCell ⟨g, 4, none⟩ e').setCell ⟨g, 5, none⟩ f').setCell ⟨g, 6, none⟩ i').setCell ⟨g, 7, none⟩ j') g t #[a', b', c', d', e', f', i', j'] := by
  have := (((((((h.set_ 0 a').set_ 1 b').set_ 2 c').set_ 3 d').set_ 4 e').set_ 5 f').set_ 6 i').set_ 7 j'
  simpa using this
theorem set_last {w : World} {g : Nat} {t : TypeId} {a b c d e f i j : Value} (h : Blk w g t #[a, b, c, d, e, f, i, j]) (j' : Value) : Blk (w.setCell ⟨g, 7, none⟩ j') g t #[a, b, c, d, e, f, i, j'] := by
  have := h.set_ 7 j'
  simpa using this

def noF (_ : Int) : Bool := false

set_option maxRecDepth 100000 in
set_option maxHeartbeats 1600000 in
theorem ready_no (c : Cal) (A1 : Option Addr) (n1 c1 : Nat) (A2 : Option Addr) (n2 c2 : Nat) (w : World) (h1 : SliceOf w 1 intC A1 n1 c.rest) (h2 : SliceOf w 1 intC A2 n2 c.hol) (m1 : n1 ≤ maxLen) (m2 : n2 ≤ maxLen) (hmay : mayB c = false) :
    Calls Tryd.prog 18 #[.agg #[.slice A1 n1 c1, .slice A2 n2 c2]] w fun e w' => e = .returned (.agg #[.bool (noF 0), .bool (noF 1), .bool (noF 2), .bool (noF 3), .bool (noF 4), .bool (noF 5), .bool (noF 6), .slice none 0 0]) ∧ Below w.heap.size w w' := by
  have H1 := Lib.hid h1
  have H2 := Lib.hid h2
  have l1 := h1.len
  have l2 := h2.len
  clear h1 h2
  have hB0 : Below w.heap.size w (((w.alloc (.cells #[.slice A1 n1 c1, .slice A2 n2 c2] 24)).alloc (.cells #[.bool false, .bool false, .bool false, .bool false, .bool false, .bool false, .bool false, .slice none 0 0] 53)).alloc (.cells #[.bool false, .bool false, .bool false, .bool false, .bool false, .bool false, .bool false, .slice none 0 0] 53)) := (((Below.refl _ _).alloc (Nat.le_refl _) _).alloc (by simp) _).alloc (by simp; omega) _
  have hk0 : Blk (((w.alloc (.cells #[.slice A1 n1 c1, .slice A2 n2 c2] 24)).alloc (.cells #[.bool false, .bool false, .bool false, .bool false, .bool false, .bool false, .bool false, .slice none 0 0] 53)).alloc (.cells #[.bool false, .bool false, .bool false, .bool false, .bool false, .bool false, .bool false, .slice none 0 0] 53)) w.heap.size 24 #[.slice A1 n1 c1, .slice A2 n2 c2] := ((Blk.new _ _ _).alloc _).alloc _
  have hr0 : Blk (((w.alloc (.cells #[.slice A1 n1 c1, .slice A2 n2 c2] 24)).alloc (.cells #[.bool false, .bool false, .bool false, .bool false, .bool false, .bool false, .bool false, .slice none 0 0] 53)).alloc (.cells #[.bool false, .bool false, .bool false, .bool false, .bool false, .bool false, .bool false, .slice none 0 0] 53)) (w.heap.size + 1) 53 #[.bool false, .bool false, .bool false, .bool false, .bool false, .bool false, .bool false, .slice none 0 0] := (Blk.new_at _ _ _ _ (by simp)).alloc _
  have hp0 : Blk (((w.alloc (.cells #[.slice A1 n1 c1, .slice A2 n2 c2] 24)).alloc (.cells #[.bool false, .bool false, .bool false, .bool false, .bool false, .bool false, .bool false, .slice none 0 0] 53)).alloc (.cells #[.bool false, .bool false, .bool false, .bool false, .bool false, .bool false, .bool false, .slice none 0 0] 53)) (w.heap.size + 1 + 1) 53 #[.bool false, .bool false, .bool false, .bool false, .bool false, .bool false, .bool false, .slice none 0 0] := Blk.new_at _ _ _ _ (by simp)
  have M := Lib.hid hmay
  clear hmay
  go_enter Tryd.func18, Tryd.ntmps18
  go_wp2_with fail
  refine (may_any c A1 n1 c1 A2 n2 c2 _ (H1.out.below hB0) (H2.out.below hB0) m1 m2).mono ?_
  rw [M.out]
  rintro e w1 ⟨rfl, hb1⟩
  have hr1 := hr0.below hb1 hr0.lt
  have hp1 := hp0.below hb1 hp0.lt
  have hB1 := hB0.trans (hb1.mono hB0.size)
  have hk1 := hk0.below hb1 hk0.lt
  clear hB0 hk0 hb1
  clear hr0 hp0
  have r0 := hr1.cell 0; have r1 := hr1.cell 1; have r2 := hr1.cell 2; have r3 := hr1.cell 3; have r4 := hr1.cell 4; have r5 := hr1.cell 5; have r6 := hr1.cell 6; have r7 := hr1.cell 7; have z0 := hr1.frozen 0; have z1 := hr1.frozen 1; have z2 := hr1.frozen 2; have z3 := hr1.frozen 3; have z4 := hr1.frozen 4; have z5 := hr1.frozen 5; have z6 := hr1.frozen 6; have z7 := hr1.frozen 7; simp only [List.getElem?_toArray, List.getElem?_cons_zero, List.getElem?_cons_succ] at r0 r1 r2 r3 r4 r5 r6 r7
  have p0 := hp1.cell 0; have p1 := hp1.cell 1; have p2 := hp1.cell 2; have p3 := hp1.cell 3; have p4 := hp1.cell 4; have p5 := hp1.cell 5; have p6 := hp1.cell 6; have p7 := hp1.cell 7; have y0 := hp1.frozen 0; have y1 := hp1.frozen 1; have y2 := hp1.frozen 2; have y3 := hp1.frozen 3; have y4 := hp1.frozen 4; have y5 := hp1.frozen 5; have y6 := hp1.frozen 6; have y7 := hp1.frozen 7; simp only [List.getElem?_toArray, List.getElem?_cons_zero, List.getElem?_cons_succ] at p0 p1 p2 p3 p4 p5 p6 p7
  go_wp2_with fail
  have q := set8p hr1 (.bool false) (.bool false) (.bool false) (.bool false) (.bool false) (.bool false) (.bool false) (.slice none 0 0)
  have q0 := q.cell 0; have q1 := q.cell 1; have q2 := q.cell 2; have q3 := q.cell 3; have q4 := q.cell 4; have q5 := q.cell 5; have q6 := q.cell 6; have q7 := q.cell 7
  simp only [List.getElem?_toArray, List.getElem?_cons_zero, List.getElem?_cons_succ] at q0 q1 q2 q3 q4 q5 q6 q7
  refine bodyPost_ret (v := .agg #[.bool false, .bool false, .bool false, .bool false, .bool false, .bool false, .bool false, .slice none 0 0]) (by simp [results, Tryd.results18, go_sem, q0, q1, q2, q3, q4, q5, q6, q7]) rfl ⟨rfl, ?_⟩
  exact (((((((hB1.setCell (by dsimp only; omega) _).setCell (by dsimp only; omega) _).setCell (by dsimp only; omega) _).setCell (by dsimp only; omega) _).setCell (by dsimp only; omega) _).setCell (by dsimp only; omega) _).setCell (by dsimp only; omega) _).setCell (by dsimp only; omega) _

set_option maxRecDepth 100000 in
set_option maxHeartbeats 1600000 in
theorem ready_yes (c : Cal) (A1 : Option Addr) (n1 c1 : Nat) (A2 : Option Addr) (n2 c2 : Nat) (w : World) (h1 : SliceOf w 1 intC A1 n1 c.rest) (h2 : SliceOf w 1 intC A2 n2 c.hol) (m1 : n1 ≤ maxLen) (m2 : n2 ≤ maxLen) (hmay : mayB c = true) :
    Calls Tryd.prog 18 #[.agg #[.slice A1 n1 c1, .slice A2 n2 c2]] w fun e w' => e = .returned (.agg #[.bool ((has c.rest) 0), .bool ((has c.rest) 1), .bool ((has c.rest) 2), .bool ((has c.rest) 3), .bool ((has c.rest) 4), .bool ((has c.rest) 5), .bool ((has c.rest) 6), .slice A2 n2 c2]) ∧ Below w.heap.size w w' := by
  have H1 := Lib.hid h1
  have H2 := Lib.hid h2
  have l1 := h1.len
  have l2 := h2.len
  clear h1 h2
  have hB0 : Below w.heap.size w (((w.alloc (.cells #[.slice A1 n1 c1, .slice A2 n2 c2] 24)).alloc (.cells #[.bool false, .bool false, .bool false, .bool false, .bool false, .bool false, .bool false, .slice none 0 0] 53)).alloc (.cells #[.bool false, .bool false, .bool false, .bool false, .bool false, .bool false, .bool false, .slice none 0 0] 53)) := (((Below.refl _ _).alloc (Nat.le_refl _) _).alloc (by simp) _).alloc (by simp; omega) _
  have hk0 : Blk (((w.alloc (.cells #[.slice A1 n1 c1, .slice A2 n2 c2] 24)).alloc (.cells #[.bool false, .bool false, .bool false, .bool false, .bool false, .bool false, .bool false, .slice none 0 0] 53)).alloc (.cells #[.bool false, .bool false, .bool false, .bool false, .bool false, .bool false, .bool false, .slice none 0 0] 53)) w.heap.size 24 #[.slice A1 n1 c1, .slice A2 n2 c2] := ((Blk.new _ _ _).alloc _).alloc _
  have hr0 : Blk (((w.alloc (.cells #[.slice A1 n1 c1, .slice A2 n2 c2] 24)).alloc (.cells #[.bool false, .bool false, .bool false, .bool false, .bool false, .bool false, .bool false, .slice none 0 0] 53)).alloc (.cells #[.bool false, .bool false, .bool false, .bool false, .bool false, .bool false, .bool false, .slice none 0 0] 53)) (w.heap.size + 1) 53 #[.bool false, .bool false, .bool false, .bool false, .bool false, .bool false, .bool false, .slice none 0 0] := (Blk.new_at _ _ _ _ (by simp)).alloc _
  have hp0 : Blk (((w.alloc (.cells #[.slice A1 n1 c1, .slice A2 n2 c2] 24)).alloc (.cells #[.bool false, .bool false, .bool false, .bool false, .bool false, .bool false, .bool false, .slice none 0 0] 53)).alloc (.cells #[.bool false, .bool false, .bool false, .bool false, .bool false, .bool false, .bool false, .slice none 0 0] 53)) (w.heap.size + 1 + 1) 53 #[.bool false, .bool false, .bool false, .bool false, .bool false, .bool false, .bool false, .slice none 0 0] := Blk.new_at _ _ _ _ (by simp)
  have M := Lib.hid hmay
  have HR := Lib.hid (rises_in (may_iff hmay).2.2.1)
  have hl := (may_iff hmay).1
  rw [l1] at hl
  clear hmay
  go_enter Tryd.func18, Tryd.ntmps18
  go_wp2_with fail
  refine (may_any c A1 n1 c1 A2 n2 c2 _ (H1.out.below hB0) (H2.out.below hB0) m1 m2).mono ?_
  rw [M.out]
  rintro e w1 ⟨rfl, hb1⟩
  have hr1 := hr0.below hb1 hr0.lt
  have hp1 : Blk w1 (w.heap.size + 1 + 1) 53 #[.bool ((has (c.rest.take 0)) 0), .bool ((has (c.rest.take 0)) 1), .bool ((has (c.rest.take 0)) 2), .bool ((has (c.rest.take 0)) 3), .bool ((has (c.rest.take 0)) 4), .bool ((has (c.rest.take 0)) 5), .bool ((has (c.rest.take 0)) 6), .slice none 0 0] := hp0.below hb1 hp0.lt
  have hB1 := hB0.trans (hb1.mono hB0.size)
  have hk1 := hk0.below hb1 hk0.lt
  clear hB0 hk0 hb1
  clear hr0 hp0
  have a0 := hk1.cell 0; have a1 := hk1.cell 1; simp only [List.getElem?_toArray, List.getElem?_cons_zero, List.getElem?_cons_succ] at a0 a1
  go_wp2_with fail
  go_loopw [13] (fun i wr => ∃ (k : Nat), k ≤ n1 ∧ i = .int .i64 k ∧ Below w.heap.size w wr ∧ Blk wr w.heap.size 24 #[.slice A1 n1 c1, .slice A2 n2 c2] ∧ Blk wr (w.heap.size + 1) 53 #[.bool false, .bool false, .bool false, .bool false, .bool false, .bool false, .bool false, .slice none 0 0] ∧ Blk wr (w.heap.size + 1 + 1) 53 #[.bool ((has (c.rest.take k)) 0), .bool ((has (c.rest.take k)) 1), .bool ((has (c.rest.take k)) 2), .bool ((has (c.rest.take k)) 3), .bool ((has (c.rest.take k)) 4), .bool ((has (c.rest.take k)) 5), .bool ((has (c.rest.take k)) 6), .slice none 0 0]) (fun i _ => n1 - (intOf i).toNat)
  case atStart => exact ⟨0, by omega, rfl, hB1, hk1, hr1, hp1⟩
  case round =>
    obtain ⟨k, hk, rfl, hbel, hks, hrs, hps⟩ := hrel
    clear hB1 hk1 hr1 hp1 a0 a1
    by_cases hlt : k < n1
    · obtain ⟨x, hxk⟩ : ∃ x, c.rest[k]? = some x := ⟨_, List.getElem?_eq_getElem (by omega)⟩
      obtain ⟨b, off, rfl, hb, hc⟩ := H1.out.at_ (by omega)
      have c0 : wr.cell? ⟨b, off + k, none⟩ = some (.int .i64 x) := (hbel.cell hb).trans (by simpa using hc _ _ hxk 0 _ rfl)
      obtain ⟨x0, x1, x2⟩ := HR.out x (List.mem_of_getElem? hxk)
      have x3 : x < 7 := by omega
      have HT := Lib.hid (fun q => has_step (q := q) hxk)
      have cx := plan_cell hps x x1 x2
      have fx := hps.frozen x.toNat
      clear hc hxk
      go_wp2_with fail
      go_roundw
      case rel => exact ⟨k + 1, by omega, by go_num, hbel.setCell (by dsimp only; omega) _, hks.far (by dsimp only; omega) _, hrs.far (by dsimp only; omega) _, plan_set hps x x1 x2 HT.out⟩
      case measure => simp [intOf]; omega
    · obtain rfl : k = n1 := by omega
      have ht : c.rest.take k = c.rest := List.take_of_length_le (by omega)
      rw [ht] at hps
      have hps2 := set_last hps (.slice A2 n2 c2)
      have hrs2 := hrs.far (p := ⟨w.heap.size + 1 + 1, 7, none⟩) (by dsimp only; omega) (.slice A2 n2 c2)
      have hbel2 := hbel.setCell (p := ⟨w.heap.size + 1 + 1, 7, none⟩) (by dsimp only; omega) (.slice A2 n2 c2)
      have p7 := hps.cell 7
      have y7 := hps.frozen 7
      have a1 := hks.cell 1
      simp only [List.getElem?_toArray, List.getElem?_cons_zero, List.getElem?_cons_succ] at p7 a1
      have r0 := hrs2.cell 0; have r1 := hrs2.cell 1; have r2 := hrs2.cell 2; have r3 := hrs2.cell 3; have r4 := hrs2.cell 4; have r5 := hrs2.cell 5; have r6 := hrs2.cell 6; have r7 := hrs2.cell 7; have z0 := hrs2.frozen 0; have z1 := hrs2.frozen 1; have z2 := hrs2.frozen 2; have z3 := hrs2.frozen 3; have z4 := hrs2.frozen 4; have z5 := hrs2.frozen 5; have z6 := hrs2.frozen 6; have z7 := hrs2.frozen 7; simp only [List.getElem?_toArray, List.getElem?_cons_zero, List.getElem?_cons_succ] at r0 r1 r2 r3 r4 r5 r6 r7
      have u0 := hps2.cell 0; have u1 := hps2.cell 1; have u2 := hps2.cell 2; have u3 := hps2.cell 3; have u4 := hps2.cell 4; have u5 := hps2.cell 5; have u6 := hps2.cell 6; have u7 := hps2.cell 7; have v0 := hps2.frozen 0; have v1 := hps2.frozen 1; have v2 := hps2.frozen 2; have v3 := hps2.frozen 3; have v4 := hps2.frozen 4; have v5 := hps2.frozen 5; have v6 := hps2.frozen 6; have v7 := hps2.frozen 7; simp only [List.getElem?_toArray, List.getElem?_cons_zero, List.getElem?_cons_succ] at u0 u1 u2 u3 u4 u5 u6 u7
      go_wp2_with fail
      have q := set8p hrs2 (.bool (has c.rest 0)) (.bool (has c.rest 1)) (.bool (has c.rest 2)) (.bool (has c.rest 3)) (.bool (has c.rest 4)) (.bool (has c.rest 5)) (.bool (has c.rest 6)) (.slice A2 n2 c2)
      have q0 := q.cell 0; have q1 := q.cell 1; have q2 := q.cell 2; have q3 := q.cell 3; have q4 := q.cell 4; have q5 := q.cell 5; have q6 := q.cell 6; have q7 := q.cell 7
      simp only [List.getElem?_toArray, List.getElem?_cons_zero, List.getElem?_cons_succ] at q0 q1 q2 q3 q4 q5 q6 q7
      refine bodyPost_ret (v := .agg #[.bool (has c.rest 0), .bool (has c.rest 1), .bool (has c.rest 2), .bool (has c.rest 3), .bool (has c.rest 4), .bool (has c.rest 5), .bool (has c.rest 6), .slice A2 n2 c2]) (by simp [results, Tryd.results18, go_sem, q0, q1, q2, q3, q4, q5, q6, q7]) rfl ⟨rfl, ?_⟩
      exact (((((((hbel2.setCell (by dsimp only; omega) _).setCell (by dsimp only; omega) _).setCell (by dsimp only; omega) _).setCell (by dsimp only; omega) _).setCell (by dsimp only; omega) _).setCell (by dsimp only; omega) _).setCell (by dsimp only; omega) _).setCell (by dsimp only; omega) _
end Go.Proofs.YtlicmhgpldmliaaDoor.cal
