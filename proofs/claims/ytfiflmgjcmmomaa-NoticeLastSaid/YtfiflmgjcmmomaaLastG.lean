/- NoticeLast: one way of it (G). No condition. -/
import Derived.Test.YtfiflmgjcmmomaaLastP
import Derived.Test.YtfiflmgjcmmomaaStep
namespace Go.Proofs.Ytfiflmgjcmmomaa
open Go.RowKit Go.Proofs.Ytfiflmgjcmmomaa.kit Go.Proofs.Ytfiflmgjcmmomaa.cal
set_option linter.unusedVariables false

set_option maxRecDepth 100000 in
set_option maxHeartbeats 6400000 in
theorem last_g10 (c : Cal) (A1 : Option Addr) (n1 c1 : Nat) (A2 : Option Addr) (n2 c2 : Nat) (ex s wi N M : Int) (w : World) (h1 : SliceOf w 1 intC A1 n1 c.rest) (h2 : SliceOf w 1 intC A2 n2 c.hol) (m1 : n1 ≤ maxLen) (m2 : n2 ≤ maxLen) (hN : (nextV c ex).1 = N) (hok : (nextV c ex).2 = true) (hM : (nextV c (s + wi)).1 = M) (hko : (nextV c (s + wi)).2 = true) (hf : fewB n1 n2 = true)
    (q1 : ¬ s < 0) (q2 : ¬ N < s) (q3 : ¬ wi < 0) (q4 : ¬ 1048576 < wi) (k1 : N ≤ M) (p1 : N < 1048576) (p2 : s = 0) :
    Calls Try.prog 8 #[.agg #[.slice A1 n1 c1, .slice A2 n2 c2], .int .i64 ex, .int .i64 s, .int .i64 wi] w fun e w' => e = .returned (.bool true) ∧ Below w.heap.size w w' := by
  have e0 : endV c ex s wi = N := by { have h1 : endV c ex s wi = min N M := by { unfold endV; rw [hko, hN, hM]; rfl }; rw [h1]; omega }
  have P2 := Lib.hid p2
  clear p2
  have bld := build_cr s ex wi
  have t1 : decide (s < 0) = false := decide_eq_false q1
  have t2 : decide (N < s) = false := decide_eq_false q2
  have t3 : decide (wi < 0) = false := decide_eq_false q3
  have t4 : decide (1048576 < wi) = false := decide_eq_false q4
  have H1 := Lib.hid h1
  have H2 := Lib.hid h2
  have l1 := h1.len
  have l2 := h2.len
  clear h1 h2
  have hB0 : Below w.heap.size w (w.alloc (.cells #[.slice A1 n1 c1, .slice A2 n2 c2] 24)) := (Below.refl _ _).alloc (Nat.le_refl _) _
  have hk0 : Blk (w.alloc (.cells #[.slice A1 n1 c1, .slice A2 n2 c2] 24)) w.heap.size 24 #[.slice A1 n1 c1, .slice A2 n2 c2] := Blk.new _ _ _
  go_enter Try.func8, Try.ntmps8
  go_wp2_with fail
  refine (awake_any _).mono ?_
  rintro e w1 ⟨rfl, hb1⟩
  have hB1 := hB0.trans (hb1.mono hB0.size)
  have hk1 := hk0.below hb1 hk0.lt
  clear hB0 hk0 hb1
  have a0 := hk1.cell 0; have a1 := hk1.cell 1; simp only [List.getElem?_toArray, List.getElem?_cons_zero, List.getElem?_cons_succ] at a0 a1
  have HN := Lib.hid hN; have HO := Lib.hid hok; have HM := Lib.hid hM; have HK := Lib.hid hko; have F := Lib.hid hf
  have E0 := Lib.hid e0
  clear hN hok hM hko hf e0
  go_wp2_with fail
  refine (expiry_any c A1 n1 c1 A2 n2 c2 ex _ (H1.out.below hB1) (H2.out.below hB1) m1 m2).mono ?_
  rw [HN.out, HO.out]
  rintro e w2 ⟨rfl, hb2⟩
  clear a0 a1
  have hB2 := hB1.trans (hb2.mono hB1.size)
  have hk2 := hk1.below hb2 hk1.lt
  clear hB1 hk1 hb2
  have a0 := hk2.cell 0; have a1 := hk2.cell 1; simp only [List.getElem?_toArray, List.getElem?_cons_zero, List.getElem?_cons_succ] at a0 a1
  have hs : 0 ≤ s ∧ s ≤ (nextV c ex).1 := by rw [HN.out]; omega
  have hw : 0 ≤ wi ∧ wi ≤ 1048576 := by omega
  have hN6 : N ≤ 1048576 := by have := (next_bd HO.out).2.2; rw [HN.out] at this; exact this
  have HE := Lib.hid (end_bd HO.out hs hw)
  have L1 := Lib.hid (last_ok HO.out hs hw); have L2 := Lib.hid (last_next HO.out hs hw); have L3 := Lib.hid (last_early HO.out hs hw); have L4 := Lib.hid (last_order HO.out hs hw)
  clear hs hw
  go_wp2_with fail
  refine (few_any A1 n1 c1 A2 n2 c2 _ m1 m2).mono ?_
  rw [F.out]
  rintro e w3 ⟨rfl, hb3⟩
  clear a0 a1
  have hB3 := hB2.trans (hb3.mono hB2.size)
  have hk3 := hk2.below hb3 hk2.lt
  clear hB2 hk2 hb3
  have a0 := hk3.cell 0; have a1 := hk3.cell 1; simp only [List.getElem?_toArray, List.getElem?_cons_zero, List.getElem?_cons_succ] at a0 a1
  clear a0 a1
  have hB4 : Below w.heap.size w (w3.alloc (.cells #[.string { data := #[] }, .string { data := #[] }, .string { data := #[] }, .string { data := #[] }, .string { data := #[] }, .string { data := #[] }, .string { data := #[] }, .string { data := #[] }, .int .i64 0, .int .i64 0, .int .i64 0, .int .i64 s, .int .i64 ex, .int .i64 wi, .int .i64 0, .bool false, .bool false, .slice none 0 0] 42)) := hB3.alloc hB3.size _
  have hk4 : Blk (w3.alloc (.cells #[.string { data := #[] }, .string { data := #[] }, .string { data := #[] }, .string { data := #[] }, .string { data := #[] }, .string { data := #[] }, .string { data := #[] }, .string { data := #[] }, .int .i64 0, .int .i64 0, .int .i64 0, .int .i64 s, .int .i64 ex, .int .i64 wi, .int .i64 0, .bool false, .bool false, .slice none 0 0] 42)) w.heap.size 24 #[.slice A1 n1 c1, .slice A2 n2 c2] := Blk.more hk3 _
  have hj4 : Blk (w3.alloc (.cells #[.string { data := #[] }, .string { data := #[] }, .string { data := #[] }, .string { data := #[] }, .string { data := #[] }, .string { data := #[] }, .string { data := #[] }, .string { data := #[] }, .int .i64 0, .int .i64 0, .int .i64 0, .int .i64 s, .int .i64 ex, .int .i64 wi, .int .i64 0, .bool false, .bool false, .slice none 0 0] 42)) w3.heap.size 42 #[.string { data := #[] }, .string { data := #[] }, .string { data := #[] }, .string { data := #[] }, .string { data := #[] }, .string { data := #[] }, .string { data := #[] }, .string { data := #[] }, .int .i64 0, .int .i64 0, .int .i64 0, .int .i64 s, .int .i64 ex, .int .i64 wi, .int .i64 0, .bool false, .bool false, .slice none 0 0] := Blk.new _ _ _
  have s4 := hB3.size
  have a0 := hk4.cell 0; have a1 := hk4.cell 1; simp only [List.getElem?_toArray, List.getElem?_cons_zero, List.getElem?_cons_succ] at a0 a1
  go_wp2_with (refine stop_store 42 _ _ rfl ?_; refine wpList_store_new rfl 42 _ _ rfl _ rfl rfl (by kernel_rfl) rfl rfl ?_)
  refine (expiry_any c A1 n1 c1 A2 n2 c2 (s + wi) _ (H1.out.below hB4) (H2.out.below hB4) m1 m2).mono ?_
  rw [HM.out, HK.out]
  rintro e w5 ⟨rfl, hb5⟩
  have hj5 := hj4.below hb5 hj4.lt
  clear a0 a1
  have hB5 := hB4.trans (hb5.mono hB4.size)
  have hk5 := hk4.below hb5 hk4.lt
  clear hB4 hk4 hb5
  clear hj4 hB3 hk3
  have a0 := hk5.cell 0; have a1 := hk5.cell 1; simp only [List.getElem?_toArray, List.getElem?_cons_zero, List.getElem?_cons_succ] at a0 a1
  have e0 := E0.out
  clear E0
  have HE1 : s ≤ N := by have := HE.out.1; rw [e0] at this; exact this
  have t5 : decide (N < s) = false := decide_eq_false (by omega)
  have HE2 : N ≤ 1048576 := by have := HE.out.2.1; rw [e0] at this; exact this
  have M1 := Lib.hid (show lateV c (lastR s ex wi) s N = 0 by have := L1.out; rw [e0] at this; exact this)
  have M2 := Lib.hid (show N < 1048576 → lateV c (lastR s ex wi) s (N + 1) = 11 by have := L2.out; rw [e0] at this; exact this)
  have M3 := Lib.hid (show s ≠ 0 → lateV c (lastR (s - 1) ex wi) s N = 11 by have := L3.out; rw [e0] at this; exact this)
  clear e0
  have hB6 : Below w.heap.size w (w5.alloc (.cells #[.string { data := #[] }, .string { data := #[] }, .string { data := #[] }, .string { data := #[] }, .string { data := #[] }, .string { data := #[] }, .string { data := #[] }, .string { data := #[] }, .int .i64 0, .int .i64 0, .int .i64 0, .int .i64 (s - 1), .int .i64 ex, .int .i64 wi, .int .i64 0, .bool false, .bool false, .slice none 0 0] 42)) := hB5.alloc hB5.size _
  have hk6 : Blk (w5.alloc (.cells #[.string { data := #[] }, .string { data := #[] }, .string { data := #[] }, .string { data := #[] }, .string { data := #[] }, .string { data := #[] }, .string { data := #[] }, .string { data := #[] }, .int .i64 0, .int .i64 0, .int .i64 0, .int .i64 (s - 1), .int .i64 ex, .int .i64 wi, .int .i64 0, .bool false, .bool false, .slice none 0 0] 42)) w.heap.size 24 #[.slice A1 n1 c1, .slice A2 n2 c2] := Blk.more hk5 _
  have hj6 : Blk (w5.alloc (.cells #[.string { data := #[] }, .string { data := #[] }, .string { data := #[] }, .string { data := #[] }, .string { data := #[] }, .string { data := #[] }, .string { data := #[] }, .string { data := #[] }, .int .i64 0, .int .i64 0, .int .i64 0, .int .i64 (s - 1), .int .i64 ex, .int .i64 wi, .int .i64 0, .bool false, .bool false, .slice none 0 0] 42)) w3.heap.size 42 #[.string { data := #[] }, .string { data := #[] }, .string { data := #[] }, .string { data := #[] }, .string { data := #[] }, .string { data := #[] }, .string { data := #[] }, .string { data := #[] }, .int .i64 0, .int .i64 0, .int .i64 0, .int .i64 s, .int .i64 ex, .int .i64 wi, .int .i64 0, .bool false, .bool false, .slice none 0 0] := Blk.more hj5 _
  have hi6 : Blk (w5.alloc (.cells #[.string { data := #[] }, .string { data := #[] }, .string { data := #[] }, .string { data := #[] }, .string { data := #[] }, .string { data := #[] }, .string { data := #[] }, .string { data := #[] }, .int .i64 0, .int .i64 0, .int .i64 0, .int .i64 (s - 1), .int .i64 ex, .int .i64 wi, .int .i64 0, .bool false, .bool false, .slice none 0 0] 42)) w5.heap.size 42 #[.string { data := #[] }, .string { data := #[] }, .string { data := #[] }, .string { data := #[] }, .string { data := #[] }, .string { data := #[] }, .string { data := #[] }, .string { data := #[] }, .int .i64 0, .int .i64 0, .int .i64 0, .int .i64 (s - 1), .int .i64 ex, .int .i64 wi, .int .i64 0, .bool false, .bool false, .slice none 0 0] := Blk.new _ _ _
  clear a0 a1
  have a0 := hk6.cell 0; have a1 := hk6.cell 1; simp only [List.getElem?_toArray, List.getElem?_cons_zero, List.getElem?_cons_succ] at a0 a1
  go_wp2_with (first | go_skip | (refine stop_load 42 _ rfl ?_; refine wpList_load_want rfl 42 _ rfl w3.heap.size rfl 42 _ _ hj5 Try.underlying42 rfl (by kernel_rfl) ?_) | (refine stop_load 42 _ rfl ?_; refine wpList_load_want rfl 42 _ rfl w3.heap.size rfl 42 _ _ hj6 Try.underlying42 rfl (by kernel_rfl) ?_) | (refine stop_store 42 _ _ rfl ?_; refine wpList_store_new rfl 42 _ _ rfl _ rfl rfl (by kernel_rfl) rfl rfl ?_))
  refine (late_any c A1 n1 c1 A2 n2 c2 (lastR s ex wi) s (N) _ (H1.out.below hB6) (H2.out.below hB6) m1 m2).mono ?_
  rw [M1.out]
  rintro e w7 ⟨rfl, hb7⟩
  have hj7 := hj6.below hb7 hj6.lt; have hi7 := hi6.below hb7 hi6.lt
  clear a0 a1
  have hB7 := hB6.trans (hb7.mono hB6.size)
  have hk7 := hk6.below hb7 hk6.lt
  clear hB6 hk6 hb7
  clear hj6 hi6
  have a0 := hk7.cell 0; have a1 := hk7.cell 1; simp only [List.getElem?_toArray, List.getElem?_cons_zero, List.getElem?_cons_succ] at a0 a1
  have t6 : decide (N < 1048576) = true := decide_eq_true p1
  have M2' := Lib.hid (M2.out p1)
  go_wp2_with (first | go_skip | (refine stop_load 42 _ rfl ?_; refine wpList_load_want rfl 42 _ rfl w3.heap.size rfl 42 _ _ hj7 Try.underlying42 rfl (by kernel_rfl) ?_))
  refine (late_any c A1 n1 c1 A2 n2 c2 (lastR s ex wi) s (N + 1) _ (H1.out.below hB7) (H2.out.below hB7) m1 m2).mono ?_
  rw [M2'.out]
  rintro e w8 ⟨rfl, hb8⟩
  have hj8 := hj7.below hb8 hj7.lt; have hi8 := hi7.below hb8 hi7.lt
  clear a0 a1
  have hB8 := hB7.trans (hb8.mono hB7.size)
  have hk8 := hk7.below hb8 hk7.lt
  clear hB7 hk7 hb8
  clear hj7 hi7
  have a0 := hk8.cell 0; have a1 := hk8.cell 1; simp only [List.getElem?_toArray, List.getElem?_cons_zero, List.getElem?_cons_succ] at a0 a1
  have p2 := P2.out
  have t8 : (s == 0) = true := by rw [p2]; rfl
  clear p2
  go_wp2_with fail
  go_ret
  exact ⟨rfl, hB8⟩

set_option maxRecDepth 100000 in
set_option maxHeartbeats 6400000 in
theorem last_g11 (c : Cal) (A1 : Option Addr) (n1 c1 : Nat) (A2 : Option Addr) (n2 c2 : Nat) (ex s wi N M : Int) (w : World) (h1 : SliceOf w 1 intC A1 n1 c.rest) (h2 : SliceOf w 1 intC A2 n2 c.hol) (m1 : n1 ≤ maxLen) (m2 : n2 ≤ maxLen) (hN : (nextV c ex).1 = N) (hok : (nextV c ex).2 = true) (hM : (nextV c (s + wi)).1 = M) (hko : (nextV c (s + wi)).2 = true) (hf : fewB n1 n2 = true)
    (q1 : ¬ s < 0) (q2 : ¬ N < s) (q3 : ¬ wi < 0) (q4 : ¬ 1048576 < wi) (k1 : N ≤ M) (p1 : N < 1048576) (p2 : ¬ s = 0) :
    Calls Try.prog 8 #[.agg #[.slice A1 n1 c1, .slice A2 n2 c2], .int .i64 ex, .int .i64 s, .int .i64 wi] w fun e w' => e = .returned (.bool true) ∧ Below w.heap.size w w' := by
  have e0 : endV c ex s wi = N := by { have h1 : endV c ex s wi = min N M := by { unfold endV; rw [hko, hN, hM]; rfl }; rw [h1]; omega }
  have P2 := Lib.hid p2
  clear p2
  have bld := build_cr s ex wi
  have t1 : decide (s < 0) = false := decide_eq_false q1
  have t2 : decide (N < s) = false := decide_eq_false q2
  have t3 : decide (wi < 0) = false := decide_eq_false q3
  have t4 : decide (1048576 < wi) = false := decide_eq_false q4
  have H1 := Lib.hid h1
  have H2 := Lib.hid h2
  have l1 := h1.len
  have l2 := h2.len
  clear h1 h2
  have hB0 : Below w.heap.size w (w.alloc (.cells #[.slice A1 n1 c1, .slice A2 n2 c2] 24)) := (Below.refl _ _).alloc (Nat.le_refl _) _
  have hk0 : Blk (w.alloc (.cells #[.slice A1 n1 c1, .slice A2 n2 c2] 24)) w.heap.size 24 #[.slice A1 n1 c1, .slice A2 n2 c2] := Blk.new _ _ _
  go_enter Try.func8, Try.ntmps8
  go_wp2_with fail
  refine (awake_any _).mono ?_
  rintro e w1 ⟨rfl, hb1⟩
  have hB1 := hB0.trans (hb1.mono hB0.size)
  have hk1 := hk0.below hb1 hk0.lt
  clear hB0 hk0 hb1
  have a0 := hk1.cell 0; have a1 := hk1.cell 1; simp only [List.getElem?_toArray, List.getElem?_cons_zero, List.getElem?_cons_succ] at a0 a1
  have HN := Lib.hid hN; have HO := Lib.hid hok; have HM := Lib.hid hM; have HK := Lib.hid hko; have F := Lib.hid hf
  have E0 := Lib.hid e0
  clear hN hok hM hko hf e0
  go_wp2_with fail
  refine (expiry_any c A1 n1 c1 A2 n2 c2 ex _ (H1.out.below hB1) (H2.out.below hB1) m1 m2).mono ?_
  rw [HN.out, HO.out]
  rintro e w2 ⟨rfl, hb2⟩
  clear a0 a1
  have hB2 := hB1.trans (hb2.mono hB1.size)
  have hk2 := hk1.below hb2 hk1.lt
  clear hB1 hk1 hb2
  have a0 := hk2.cell 0; have a1 := hk2.cell 1; simp only [List.getElem?_toArray, List.getElem?_cons_zero, List.getElem?_cons_succ] at a0 a1
  have hs : 0 ≤ s ∧ s ≤ (nextV c ex).1 := by rw [HN.out]; omega
  have hw : 0 ≤ wi ∧ wi ≤ 1048576 := by omega
  have hN6 : N ≤ 1048576 := by have := (next_bd HO.out).2.2; rw [HN.out] at this; exact this
  have HE := Lib.hid (end_bd HO.out hs hw)
  have L1 := Lib.hid (last_ok HO.out hs hw); have L2 := Lib.hid (last_next HO.out hs hw); have L3 := Lib.hid (last_early HO.out hs hw); have L4 := Lib.hid (last_order HO.out hs hw)
  clear hs hw
  go_wp2_with fail
  refine (few_any A1 n1 c1 A2 n2 c2 _ m1 m2).mono ?_
  rw [F.out]
  rintro e w3 ⟨rfl, hb3⟩
  clear a0 a1
  have hB3 := hB2.trans (hb3.mono hB2.size)
  have hk3 := hk2.below hb3 hk2.lt
  clear hB2 hk2 hb3
  have a0 := hk3.cell 0; have a1 := hk3.cell 1; simp only [List.getElem?_toArray, List.getElem?_cons_zero, List.getElem?_cons_succ] at a0 a1
  clear a0 a1
  have hB4 : Below w.heap.size w (w3.alloc (.cells #[.string { data := #[] }, .string { data := #[] }, .string { data := #[] }, .string { data := #[] }, .string { data := #[] }, .string { data := #[] }, .string { data := #[] }, .string { data := #[] }, .int .i64 0, .int .i64 0, .int .i64 0, .int .i64 s, .int .i64 ex, .int .i64 wi, .int .i64 0, .bool false, .bool false, .slice none 0 0] 42)) := hB3.alloc hB3.size _
  have hk4 : Blk (w3.alloc (.cells #[.string { data := #[] }, .string { data := #[] }, .string { data := #[] }, .string { data := #[] }, .string { data := #[] }, .string { data := #[] }, .string { data := #[] }, .string { data := #[] }, .int .i64 0, .int .i64 0, .int .i64 0, .int .i64 s, .int .i64 ex, .int .i64 wi, .int .i64 0, .bool false, .bool false, .slice none 0 0] 42)) w.heap.size 24 #[.slice A1 n1 c1, .slice A2 n2 c2] := Blk.more hk3 _
  have hj4 : Blk (w3.alloc (.cells #[.string { data := #[] }, .string { data := #[] }, .string { data := #[] }, .string { data := #[] }, .string { data := #[] }, .string { data := #[] }, .string { data := #[] }, .string { data := #[] }, .int .i64 0, .int .i64 0, .int .i64 0, .int .i64 s, .int .i64 ex, .int .i64 wi, .int .i64 0, .bool false, .bool false, .slice none 0 0] 42)) w3.heap.size 42 #[.string { data := #[] }, .string { data := #[] }, .string { data := #[] }, .string { data := #[] }, .string { data := #[] }, .string { data := #[] }, .string { data := #[] }, .string { data := #[] }, .int .i64 0, .int .i64 0, .int .i64 0, .int .i64 s, .int .i64 ex, .int .i64 wi, .int .i64 0, .bool false, .bool false, .slice none 0 0] := Blk.new _ _ _
  have s4 := hB3.size
  have a0 := hk4.cell 0; have a1 := hk4.cell 1; simp only [List.getElem?_toArray, List.getElem?_cons_zero, List.getElem?_cons_succ] at a0 a1
  go_wp2_with (refine stop_store 42 _ _ rfl ?_; refine wpList_store_new rfl 42 _ _ rfl _ rfl rfl (by kernel_rfl) rfl rfl ?_)
  refine (expiry_any c A1 n1 c1 A2 n2 c2 (s + wi) _ (H1.out.below hB4) (H2.out.below hB4) m1 m2).mono ?_
  rw [HM.out, HK.out]
  rintro e w5 ⟨rfl, hb5⟩
  have hj5 := hj4.below hb5 hj4.lt
  clear a0 a1
  have hB5 := hB4.trans (hb5.mono hB4.size)
  have hk5 := hk4.below hb5 hk4.lt
  clear hB4 hk4 hb5
  clear hj4 hB3 hk3
  have a0 := hk5.cell 0; have a1 := hk5.cell 1; simp only [List.getElem?_toArray, List.getElem?_cons_zero, List.getElem?_cons_succ] at a0 a1
  have e0 := E0.out
  clear E0
  have HE1 : s ≤ N := by have := HE.out.1; rw [e0] at this; exact this
  have t5 : decide (N < s) = false := decide_eq_false (by omega)
  have HE2 : N ≤ 1048576 := by have := HE.out.2.1; rw [e0] at this; exact this
  have M1 := Lib.hid (show lateV c (lastR s ex wi) s N = 0 by have := L1.out; rw [e0] at this; exact this)
  have M2 := Lib.hid (show N < 1048576 → lateV c (lastR s ex wi) s (N + 1) = 11 by have := L2.out; rw [e0] at this; exact this)
  have M3 := Lib.hid (show s ≠ 0 → lateV c (lastR (s - 1) ex wi) s N = 11 by have := L3.out; rw [e0] at this; exact this)
  clear e0
  have hB6 : Below w.heap.size w (w5.alloc (.cells #[.string { data := #[] }, .string { data := #[] }, .string { data := #[] }, .string { data := #[] }, .string { data := #[] }, .string { data := #[] }, .string { data := #[] }, .string { data := #[] }, .int .i64 0, .int .i64 0, .int .i64 0, .int .i64 (s - 1), .int .i64 ex, .int .i64 wi, .int .i64 0, .bool false, .bool false, .slice none 0 0] 42)) := hB5.alloc hB5.size _
  have hk6 : Blk (w5.alloc (.cells #[.string { data := #[] }, .string { data := #[] }, .string { data := #[] }, .string { data := #[] }, .string { data := #[] }, .string { data := #[] }, .string { data := #[] }, .string { data := #[] }, .int .i64 0, .int .i64 0, .int .i64 0, .int .i64 (s - 1), .int .i64 ex, .int .i64 wi, .int .i64 0, .bool false, .bool false, .slice none 0 0] 42)) w.heap.size 24 #[.slice A1 n1 c1, .slice A2 n2 c2] := Blk.more hk5 _
  have hj6 : Blk (w5.alloc (.cells #[.string { data := #[] }, .string { data := #[] }, .string { data := #[] }, .string { data := #[] }, .string { data := #[] }, .string { data := #[] }, .string { data := #[] }, .string { data := #[] }, .int .i64 0, .int .i64 0, .int .i64 0, .int .i64 (s - 1), .int .i64 ex, .int .i64 wi, .int .i64 0, .bool false, .bool false, .slice none 0 0] 42)) w3.heap.size 42 #[.string { data := #[] }, .string { data := #[] }, .string { data := #[] }, .string { data := #[] }, .string { data := #[] }, .string { data := #[] }, .string { data := #[] }, .string { data := #[] }, .int .i64 0, .int .i64 0, .int .i64 0, .int .i64 s, .int .i64 ex, .int .i64 wi, .int .i64 0, .bool false, .bool false, .slice none 0 0] := Blk.more hj5 _
  have hi6 : Blk (w5.alloc (.cells #[.string { data := #[] }, .string { data := #[] }, .string { data := #[] }, .string { data := #[] }, .string { data := #[] }, .string { data := #[] }, .string { data := #[] }, .string { data := #[] }, .int .i64 0, .int .i64 0, .int .i64 0, .int .i64 (s - 1), .int .i64 ex, .int .i64 wi, .int .i64 0, .bool false, .bool false, .slice none 0 0] 42)) w5.heap.size 42 #[.string { data := #[] }, .string { data := #[] }, .string { data := #[] }, .string { data := #[] }, .string { data := #[] }, .string { data := #[] }, .string { data := #[] }, .string { data := #[] }, .int .i64 0, .int .i64 0, .int .i64 0, .int .i64 (s - 1), .int .i64 ex, .int .i64 wi, .int .i64 0, .bool false, .bool false, .slice none 0 0] := Blk.new _ _ _
  clear a0 a1
  have a0 := hk6.cell 0; have a1 := hk6.cell 1; simp only [List.getElem?_toArray, List.getElem?_cons_zero, List.getElem?_cons_succ] at a0 a1
  go_wp2_with (first | go_skip | (refine stop_load 42 _ rfl ?_; refine wpList_load_want rfl 42 _ rfl w3.heap.size rfl 42 _ _ hj5 Try.underlying42 rfl (by kernel_rfl) ?_) | (refine stop_load 42 _ rfl ?_; refine wpList_load_want rfl 42 _ rfl w3.heap.size rfl 42 _ _ hj6 Try.underlying42 rfl (by kernel_rfl) ?_) | (refine stop_store 42 _ _ rfl ?_; refine wpList_store_new rfl 42 _ _ rfl _ rfl rfl (by kernel_rfl) rfl rfl ?_))
  refine (late_any c A1 n1 c1 A2 n2 c2 (lastR s ex wi) s (N) _ (H1.out.below hB6) (H2.out.below hB6) m1 m2).mono ?_
  rw [M1.out]
  rintro e w7 ⟨rfl, hb7⟩
  have hj7 := hj6.below hb7 hj6.lt; have hi7 := hi6.below hb7 hi6.lt
  clear a0 a1
  have hB7 := hB6.trans (hb7.mono hB6.size)
  have hk7 := hk6.below hb7 hk6.lt
  clear hB6 hk6 hb7
  clear hj6 hi6
  have a0 := hk7.cell 0; have a1 := hk7.cell 1; simp only [List.getElem?_toArray, List.getElem?_cons_zero, List.getElem?_cons_succ] at a0 a1
  have t6 : decide (N < 1048576) = true := decide_eq_true p1
  have M2' := Lib.hid (M2.out p1)
  go_wp2_with (first | go_skip | (refine stop_load 42 _ rfl ?_; refine wpList_load_want rfl 42 _ rfl w3.heap.size rfl 42 _ _ hj7 Try.underlying42 rfl (by kernel_rfl) ?_))
  refine (late_any c A1 n1 c1 A2 n2 c2 (lastR s ex wi) s (N + 1) _ (H1.out.below hB7) (H2.out.below hB7) m1 m2).mono ?_
  rw [M2'.out]
  rintro e w8 ⟨rfl, hb8⟩
  have hj8 := hj7.below hb8 hj7.lt; have hi8 := hi7.below hb8 hi7.lt
  clear a0 a1
  have hB8 := hB7.trans (hb8.mono hB7.size)
  have hk8 := hk7.below hb8 hk7.lt
  clear hB7 hk7 hb8
  clear hj7 hi7
  have a0 := hk8.cell 0; have a1 := hk8.cell 1; simp only [List.getElem?_toArray, List.getElem?_cons_zero, List.getElem?_cons_succ] at a0 a1
  have p2 := P2.out
  have t8 : (s == 0) = false := by simpa using p2
  have M3' := Lib.hid (M3.out p2); have M4' := Lib.hid (L4.out p2)
  clear p2
  go_wp2_with (first | go_skip | (refine stop_load 42 _ rfl ?_; refine wpList_load_want rfl 42 _ rfl w5.heap.size rfl 42 _ _ hi8 Try.underlying42 rfl (by kernel_rfl) ?_))
  refine (late_any c A1 n1 c1 A2 n2 c2 (lastR (s - 1) ex wi) s (N) _ (H1.out.below hB8) (H2.out.below hB8) m1 m2).mono ?_
  rw [M3'.out]
  rintro e w9 ⟨rfl, hb9⟩
  have hj9 := hj8.below hb9 hj8.lt; have hi9 := hi8.below hb9 hi8.lt
  clear a0 a1
  have hB9 := hB8.trans (hb9.mono hB8.size)
  have hk9 := hk8.below hb9 hk8.lt
  clear hB8 hk8 hb9
  clear hj8 hi8
  have a0 := hk9.cell 0; have a1 := hk9.cell 1; simp only [List.getElem?_toArray, List.getElem?_cons_zero, List.getElem?_cons_succ] at a0 a1
  go_wp2_with (first | go_skip | (refine stop_load 42 _ rfl ?_; refine wpList_load_want rfl 42 _ rfl w3.heap.size rfl 42 _ _ hj9 Try.underlying42 rfl (by kernel_rfl) ?_))
  refine (late_any c A1 n1 c1 A2 n2 c2 (lastR s ex wi) s (s - 1) _ (H1.out.below hB9) (H2.out.below hB9) m1 m2).mono ?_
  rw [M4'.out]
  rintro e w10 ⟨rfl, hb10⟩
  have hj10 := hj9.below hb10 hj9.lt; have hi10 := hi9.below hb10 hi9.lt
  clear a0 a1
  have hB10 := hB9.trans (hb10.mono hB9.size)
  have hk10 := hk9.below hb10 hk9.lt
  clear hB9 hk9 hb10
  clear hj9 hi9
  have a0 := hk10.cell 0; have a1 := hk10.cell 1; simp only [List.getElem?_toArray, List.getElem?_cons_zero, List.getElem?_cons_succ] at a0 a1
  go_wp2_with fail
  go_ret
  exact ⟨rfl, hB10⟩

set_option maxRecDepth 100000 in
set_option maxHeartbeats 6400000 in
theorem last_g00 (c : Cal) (A1 : Option Addr) (n1 c1 : Nat) (A2 : Option Addr) (n2 c2 : Nat) (ex s wi N M : Int) (w : World) (h1 : SliceOf w 1 intC A1 n1 c.rest) (h2 : SliceOf w 1 intC A2 n2 c.hol) (m1 : n1 ≤ maxLen) (m2 : n2 ≤ maxLen) (hN : (nextV c ex).1 = N) (hok : (nextV c ex).2 = true) (hM : (nextV c (s + wi)).1 = M) (hko : (nextV c (s + wi)).2 = true) (hf : fewB n1 n2 = true)
    (q1 : ¬ s < 0) (q2 : ¬ N < s) (q3 : ¬ wi < 0) (q4 : ¬ 1048576 < wi) (k1 : N ≤ M) (p1 : ¬ N < 1048576) (p2 : s = 0) :
    Calls Try.prog 8 #[.agg #[.slice A1 n1 c1, .slice A2 n2 c2], .int .i64 ex, .int .i64 s, .int .i64 wi] w fun e w' => e = .returned (.bool true) ∧ Below w.heap.size w w' := by
  have e0 : endV c ex s wi = N := by { have h1 : endV c ex s wi = min N M := by { unfold endV; rw [hko, hN, hM]; rfl }; rw [h1]; omega }
  have P2 := Lib.hid p2
  clear p2
  have bld := build_cr s ex wi
  have t1 : decide (s < 0) = false := decide_eq_false q1
  have t2 : decide (N < s) = false := decide_eq_false q2
  have t3 : decide (wi < 0) = false := decide_eq_false q3
  have t4 : decide (1048576 < wi) = false := decide_eq_false q4
  have H1 := Lib.hid h1
  have H2 := Lib.hid h2
  have l1 := h1.len
  have l2 := h2.len
  clear h1 h2
  have hB0 : Below w.heap.size w (w.alloc (.cells #[.slice A1 n1 c1, .slice A2 n2 c2] 24)) := (Below.refl _ _).alloc (Nat.le_refl _) _
  have hk0 : Blk (w.alloc (.cells #[.slice A1 n1 c1, .slice A2 n2 c2] 24)) w.heap.size 24 #[.slice A1 n1 c1, .slice A2 n2 c2] := Blk.new _ _ _
  go_enter Try.func8, Try.ntmps8
  go_wp2_with fail
  refine (awake_any _).mono ?_
  rintro e w1 ⟨rfl, hb1⟩
  have hB1 := hB0.trans (hb1.mono hB0.size)
  have hk1 := hk0.below hb1 hk0.lt
  clear hB0 hk0 hb1
  have a0 := hk1.cell 0; have a1 := hk1.cell 1; simp only [List.getElem?_toArray, List.getElem?_cons_zero, List.getElem?_cons_succ] at a0 a1
  have HN := Lib.hid hN; have HO := Lib.hid hok; have HM := Lib.hid hM; have HK := Lib.hid hko; have F := Lib.hid hf
  have E0 := Lib.hid e0
  clear hN hok hM hko hf e0
  go_wp2_with fail
  refine (expiry_any c A1 n1 c1 A2 n2 c2 ex _ (H1.out.below hB1) (H2.out.below hB1) m1 m2).mono ?_
  rw [HN.out, HO.out]
  rintro e w2 ⟨rfl, hb2⟩
  clear a0 a1
  have hB2 := hB1.trans (hb2.mono hB1.size)
  have hk2 := hk1.below hb2 hk1.lt
  clear hB1 hk1 hb2
  have a0 := hk2.cell 0; have a1 := hk2.cell 1; simp only [List.getElem?_toArray, List.getElem?_cons_zero, List.getElem?_cons_succ] at a0 a1
  have hs : 0 ≤ s ∧ s ≤ (nextV c ex).1 := by rw [HN.out]; omega
  have hw : 0 ≤ wi ∧ wi ≤ 1048576 := by omega
  have hN6 : N ≤ 1048576 := by have := (next_bd HO.out).2.2; rw [HN.out] at this; exact this
  have HE := Lib.hid (end_bd HO.out hs hw)
  have L1 := Lib.hid (last_ok HO.out hs hw); have L2 := Lib.hid (last_next HO.out hs hw); have L3 := Lib.hid (last_early HO.out hs hw); have L4 := Lib.hid (last_order HO.out hs hw)
  clear hs hw
  go_wp2_with fail
  refine (few_any A1 n1 c1 A2 n2 c2 _ m1 m2).mono ?_
  rw [F.out]
  rintro e w3 ⟨rfl, hb3⟩
  clear a0 a1
  have hB3 := hB2.trans (hb3.mono hB2.size)
  have hk3 := hk2.below hb3 hk2.lt
  clear hB2 hk2 hb3
  have a0 := hk3.cell 0; have a1 := hk3.cell 1; simp only [List.getElem?_toArray, List.getElem?_cons_zero, List.getElem?_cons_succ] at a0 a1
  clear a0 a1
  have hB4 : Below w.heap.size w (w3.alloc (.cells #[.string { data := #[] }, .string { data := #[] }, .string { data := #[] }, .string { data := #[] }, .string { data := #[] }, .string { data := #[] }, .string { data := #[] }, .string { data := #[] }, .int .i64 0, .int .i64 0, .int .i64 0, .int .i64 s, .int .i64 ex, .int .i64 wi, .int .i64 0, .bool false, .bool false, .slice none 0 0] 42)) := hB3.alloc hB3.size _
  have hk4 : Blk (w3.alloc (.cells #[.string { data := #[] }, .string { data := #[] }, .string { data := #[] }, .string { data := #[] }, .string { data := #[] }, .string { data := #[] }, .string { data := #[] }, .string { data := #[] }, .int .i64 0, .int .i64 0, .int .i64 0, .int .i64 s, .int .i64 ex, .int .i64 wi, .int .i64 0, .bool false, .bool false, .slice none 0 0] 42)) w.heap.size 24 #[.slice A1 n1 c1, .slice A2 n2 c2] := Blk.more hk3 _
  have hj4 : Blk (w3.alloc (.cells #[.string { data := #[] }, .string { data := #[] }, .string { data := #[] }, .string { data := #[] }, .string { data := #[] }, .string { data := #[] }, .string { data := #[] }, .string { data := #[] }, .int .i64 0, .int .i64 0, .int .i64 0, .int .i64 s, .int .i64 ex, .int .i64 wi, .int .i64 0, .bool false, .bool false, .slice none 0 0] 42)) w3.heap.size 42 #[.string { data := #[] }, .string { data := #[] }, .string { data := #[] }, .string { data := #[] }, .string { data := #[] }, .string { data := #[] }, .string { data := #[] }, .string { data := #[] }, .int .i64 0, .int .i64 0, .int .i64 0, .int .i64 s, .int .i64 ex, .int .i64 wi, .int .i64 0, .bool false, .bool false, .slice none 0 0] := Blk.new _ _ _
  have s4 := hB3.size
  have a0 := hk4.cell 0; have a1 := hk4.cell 1; simp only [List.getElem?_toArray, List.getElem?_cons_zero, List.getElem?_cons_succ] at a0 a1
  go_wp2_with (refine stop_store 42 _ _ rfl ?_; refine wpList_store_new rfl 42 _ _ rfl _ rfl rfl (by kernel_rfl) rfl rfl ?_)
  refine (expiry_any c A1 n1 c1 A2 n2 c2 (s + wi) _ (H1.out.below hB4) (H2.out.below hB4) m1 m2).mono ?_
  rw [HM.out, HK.out]
  rintro e w5 ⟨rfl, hb5⟩
  have hj5 := hj4.below hb5 hj4.lt
  clear a0 a1
  have hB5 := hB4.trans (hb5.mono hB4.size)
  have hk5 := hk4.below hb5 hk4.lt
  clear hB4 hk4 hb5
  clear hj4 hB3 hk3
  have a0 := hk5.cell 0; have a1 := hk5.cell 1; simp only [List.getElem?_toArray, List.getElem?_cons_zero, List.getElem?_cons_succ] at a0 a1
  have e0 := E0.out
  clear E0
  have HE1 : s ≤ N := by have := HE.out.1; rw [e0] at this; exact this
  have t5 : decide (N < s) = false := decide_eq_false (by omega)
  have HE2 : N ≤ 1048576 := by have := HE.out.2.1; rw [e0] at this; exact this
  have M1 := Lib.hid (show lateV c (lastR s ex wi) s N = 0 by have := L1.out; rw [e0] at this; exact this)
  have M2 := Lib.hid (show N < 1048576 → lateV c (lastR s ex wi) s (N + 1) = 11 by have := L2.out; rw [e0] at this; exact this)
  have M3 := Lib.hid (show s ≠ 0 → lateV c (lastR (s - 1) ex wi) s N = 11 by have := L3.out; rw [e0] at this; exact this)
  clear e0
  have hB6 : Below w.heap.size w (w5.alloc (.cells #[.string { data := #[] }, .string { data := #[] }, .string { data := #[] }, .string { data := #[] }, .string { data := #[] }, .string { data := #[] }, .string { data := #[] }, .string { data := #[] }, .int .i64 0, .int .i64 0, .int .i64 0, .int .i64 (s - 1), .int .i64 ex, .int .i64 wi, .int .i64 0, .bool false, .bool false, .slice none 0 0] 42)) := hB5.alloc hB5.size _
  have hk6 : Blk (w5.alloc (.cells #[.string { data := #[] }, .string { data := #[] }, .string { data := #[] }, .string { data := #[] }, .string { data := #[] }, .string { data := #[] }, .string { data := #[] }, .string { data := #[] }, .int .i64 0, .int .i64 0, .int .i64 0, .int .i64 (s - 1), .int .i64 ex, .int .i64 wi, .int .i64 0, .bool false, .bool false, .slice none 0 0] 42)) w.heap.size 24 #[.slice A1 n1 c1, .slice A2 n2 c2] := Blk.more hk5 _
  have hj6 : Blk (w5.alloc (.cells #[.string { data := #[] }, .string { data := #[] }, .string { data := #[] }, .string { data := #[] }, .string { data := #[] }, .string { data := #[] }, .string { data := #[] }, .string { data := #[] }, .int .i64 0, .int .i64 0, .int .i64 0, .int .i64 (s - 1), .int .i64 ex, .int .i64 wi, .int .i64 0, .bool false, .bool false, .slice none 0 0] 42)) w3.heap.size 42 #[.string { data := #[] }, .string { data := #[] }, .string { data := #[] }, .string { data := #[] }, .string { data := #[] }, .string { data := #[] }, .string { data := #[] }, .string { data := #[] }, .int .i64 0, .int .i64 0, .int .i64 0, .int .i64 s, .int .i64 ex, .int .i64 wi, .int .i64 0, .bool false, .bool false, .slice none 0 0] := Blk.more hj5 _
  have hi6 : Blk (w5.alloc (.cells #[.string { data := #[] }, .string { data := #[] }, .string { data := #[] }, .string { data := #[] }, .string { data := #[] }, .string { data := #[] }, .string { data := #[] }, .string { data := #[] }, .int .i64 0, .int .i64 0, .int .i64 0, .int .i64 (s - 1), .int .i64 ex, .int .i64 wi, .int .i64 0, .bool false, .bool false, .slice none 0 0] 42)) w5.heap.size 42 #[.string { data := #[] }, .string { data := #[] }, .string { data := #[] }, .string { data := #[] }, .string { data := #[] }, .string { data := #[] }, .string { data := #[] }, .string { data := #[] }, .int .i64 0, .int .i64 0, .int .i64 0, .int .i64 (s - 1), .int .i64 ex, .int .i64 wi, .int .i64 0, .bool false, .bool false, .slice none 0 0] := Blk.new _ _ _
  clear a0 a1
  have a0 := hk6.cell 0; have a1 := hk6.cell 1; simp only [List.getElem?_toArray, List.getElem?_cons_zero, List.getElem?_cons_succ] at a0 a1
  go_wp2_with (first | go_skip | (refine stop_load 42 _ rfl ?_; refine wpList_load_want rfl 42 _ rfl w3.heap.size rfl 42 _ _ hj5 Try.underlying42 rfl (by kernel_rfl) ?_) | (refine stop_load 42 _ rfl ?_; refine wpList_load_want rfl 42 _ rfl w3.heap.size rfl 42 _ _ hj6 Try.underlying42 rfl (by kernel_rfl) ?_) | (refine stop_store 42 _ _ rfl ?_; refine wpList_store_new rfl 42 _ _ rfl _ rfl rfl (by kernel_rfl) rfl rfl ?_))
  refine (late_any c A1 n1 c1 A2 n2 c2 (lastR s ex wi) s (N) _ (H1.out.below hB6) (H2.out.below hB6) m1 m2).mono ?_
  rw [M1.out]
  rintro e w7 ⟨rfl, hb7⟩
  have hj7 := hj6.below hb7 hj6.lt; have hi7 := hi6.below hb7 hi6.lt
  clear a0 a1
  have hB7 := hB6.trans (hb7.mono hB6.size)
  have hk7 := hk6.below hb7 hk6.lt
  clear hB6 hk6 hb7
  clear hj6 hi6
  have a0 := hk7.cell 0; have a1 := hk7.cell 1; simp only [List.getElem?_toArray, List.getElem?_cons_zero, List.getElem?_cons_succ] at a0 a1
  have t6 : decide (N < 1048576) = false := decide_eq_false (by omega)
  have p2 := P2.out
  have t8 : (s == 0) = true := by rw [p2]; rfl
  clear p2
  go_wp2_with fail
  go_ret
  exact ⟨rfl, hB7⟩

set_option maxRecDepth 100000 in
set_option maxHeartbeats 6400000 in
theorem last_g01 (c : Cal) (A1 : Option Addr) (n1 c1 : Nat) (A2 : Option Addr) (n2 c2 : Nat) (ex s wi N M : Int) (w : World) (h1 : SliceOf w 1 intC A1 n1 c.rest) (h2 : SliceOf w 1 intC A2 n2 c.hol) (m1 : n1 ≤ maxLen) (m2 : n2 ≤ maxLen) (hN : (nextV c ex).1 = N) (hok : (nextV c ex).2 = true) (hM : (nextV c (s + wi)).1 = M) (hko : (nextV c (s + wi)).2 = true) (hf : fewB n1 n2 = true)
    (q1 : ¬ s < 0) (q2 : ¬ N < s) (q3 : ¬ wi < 0) (q4 : ¬ 1048576 < wi) (k1 : N ≤ M) (p1 : ¬ N < 1048576) (p2 : ¬ s = 0) :
    Calls Try.prog 8 #[.agg #[.slice A1 n1 c1, .slice A2 n2 c2], .int .i64 ex, .int .i64 s, .int .i64 wi] w fun e w' => e = .returned (.bool true) ∧ Below w.heap.size w w' := by
  have e0 : endV c ex s wi = N := by { have h1 : endV c ex s wi = min N M := by { unfold endV; rw [hko, hN, hM]; rfl }; rw [h1]; omega }
  have P2 := Lib.hid p2
  clear p2
  have bld := build_cr s ex wi
  have t1 : decide (s < 0) = false := decide_eq_false q1
  have t2 : decide (N < s) = false := decide_eq_false q2
  have t3 : decide (wi < 0) = false := decide_eq_false q3
  have t4 : decide (1048576 < wi) = false := decide_eq_false q4
  have H1 := Lib.hid h1
  have H2 := Lib.hid h2
  have l1 := h1.len
  have l2 := h2.len
  clear h1 h2
  have hB0 : Below w.heap.size w (w.alloc (.cells #[.slice A1 n1 c1, .slice A2 n2 c2] 24)) := (Below.refl _ _).alloc (Nat.le_refl _) _
  have hk0 : Blk (w.alloc (.cells #[.slice A1 n1 c1, .slice A2 n2 c2] 24)) w.heap.size 24 #[.slice A1 n1 c1, .slice A2 n2 c2] := Blk.new _ _ _
  go_enter Try.func8, Try.ntmps8
  go_wp2_with fail
  refine (awake_any _).mono ?_
  rintro e w1 ⟨rfl, hb1⟩
  have hB1 := hB0.trans (hb1.mono hB0.size)
  have hk1 := hk0.below hb1 hk0.lt
  clear hB0 hk0 hb1
  have a0 := hk1.cell 0; have a1 := hk1.cell 1; simp only [List.getElem?_toArray, List.getElem?_cons_zero, List.getElem?_cons_succ] at a0 a1
  have HN := Lib.hid hN; have HO := Lib.hid hok; have HM := Lib.hid hM; have HK := Lib.hid hko; have F := Lib.hid hf
  have E0 := Lib.hid e0
  clear hN hok hM hko hf e0
  go_wp2_with fail
  refine (expiry_any c A1 n1 c1 A2 n2 c2 ex _ (H1.out.below hB1) (H2.out.below hB1) m1 m2).mono ?_
  rw [HN.out, HO.out]
  rintro e w2 ⟨rfl, hb2⟩
  clear a0 a1
  have hB2 := hB1.trans (hb2.mono hB1.size)
  have hk2 := hk1.below hb2 hk1.lt
  clear hB1 hk1 hb2
  have a0 := hk2.cell 0; have a1 := hk2.cell 1; simp only [List.getElem?_toArray, List.getElem?_cons_zero, List.getElem?_cons_succ] at a0 a1
  have hs : 0 ≤ s ∧ s ≤ (nextV c ex).1 := by rw [HN.out]; omega
  have hw : 0 ≤ wi ∧ wi ≤ 1048576 := by omega
  have hN6 : N ≤ 1048576 := by have := (next_bd HO.out).2.2; rw [HN.out] at this; exact this
  have HE := Lib.hid (end_bd HO.out hs hw)
  have L1 := Lib.hid (last_ok HO.out hs hw); have L2 := Lib.hid (last_next HO.out hs hw); have L3 := Lib.hid (last_early HO.out hs hw); have L4 := Lib.hid (last_order HO.out hs hw)
  clear hs hw
  go_wp2_with fail
  refine (few_any A1 n1 c1 A2 n2 c2 _ m1 m2).mono ?_
  rw [F.out]
  rintro e w3 ⟨rfl, hb3⟩
  clear a0 a1
  have hB3 := hB2.trans (hb3.mono hB2.size)
  have hk3 := hk2.below hb3 hk2.lt
  clear hB2 hk2 hb3
  have a0 := hk3.cell 0; have a1 := hk3.cell 1; simp only [List.getElem?_toArray, List.getElem?_cons_zero, List.getElem?_cons_succ] at a0 a1
  clear a0 a1
  have hB4 : Below w.heap.size w (w3.alloc (.cells #[.string { data := #[] }, .string { data := #[] }, .string { data := #[] }, .string { data := #[] }, .string { data := #[] }, .string { data := #[] }, .string { data := #[] }, .string { data := #[] }, .int .i64 0, .int .i64 0, .int .i64 0, .int .i64 s, .int .i64 ex, .int .i64 wi, .int .i64 0, .bool false, .bool false, .slice none 0 0] 42)) := hB3.alloc hB3.size _
  have hk4 : Blk (w3.alloc (.cells #[.string { data := #[] }, .string { data := #[] }, .string { data := #[] }, .string { data := #[] }, .string { data := #[] }, .string { data := #[] }, .string { data := #[] }, .string { data := #[] }, .int .i64 0, .int .i64 0, .int .i64 0, .int .i64 s, .int .i64 ex, .int .i64 wi, .int .i64 0, .bool false, .bool false, .slice none 0 0] 42)) w.heap.size 24 #[.slice A1 n1 c1, .slice A2 n2 c2] := Blk.more hk3 _
  have hj4 : Blk (w3.alloc (.cells #[.string { data := #[] }, .string { data := #[] }, .string { data := #[] }, .string { data := #[] }, .string { data := #[] }, .string { data := #[] }, .string { data := #[] }, .string { data := #[] }, .int .i64 0, .int .i64 0, .int .i64 0, .int .i64 s, .int .i64 ex, .int .i64 wi, .int .i64 0, .bool false, .bool false, .slice none 0 0] 42)) w3.heap.size 42 #[.string { data := #[] }, .string { data := #[] }, .string { data := #[] }, .string { data := #[] }, .string { data := #[] }, .string { data := #[] }, .string { data := #[] }, .string { data := #[] }, .int .i64 0, .int .i64 0, .int .i64 0, .int .i64 s, .int .i64 ex, .int .i64 wi, .int .i64 0, .bool false, .bool false, .slice none 0 0] := Blk.new _ _ _
  have s4 := hB3.size
  have a0 := hk4.cell 0; have a1 := hk4.cell 1; simp only [List.getElem?_toArray, List.getElem?_cons_zero, List.getElem?_cons_succ] at a0 a1
  go_wp2_with (refine stop_store 42 _ _ rfl ?_; refine wpList_store_new rfl 42 _ _ rfl _ rfl rfl (by kernel_rfl) rfl rfl ?_)
  refine (expiry_any c A1 n1 c1 A2 n2 c2 (s + wi) _ (H1.out.below hB4) (H2.out.below hB4) m1 m2).mono ?_
  rw [HM.out, HK.out]
  rintro e w5 ⟨rfl, hb5⟩
  have hj5 := hj4.below hb5 hj4.lt
  clear a0 a1
  have hB5 := hB4.trans (hb5.mono hB4.size)
  have hk5 := hk4.below hb5 hk4.lt
  clear hB4 hk4 hb5
  clear hj4 hB3 hk3
  have a0 := hk5.cell 0; have a1 := hk5.cell 1; simp only [List.getElem?_toArray, List.getElem?_cons_zero, List.getElem?_cons_succ] at a0 a1
  have e0 := E0.out
  clear E0
  have HE1 : s ≤ N := by have := HE.out.1; rw [e0] at this; exact this
  have t5 : decide (N < s) = false := decide_eq_false (by omega)
  have HE2 : N ≤ 1048576 := by have := HE.out.2.1; rw [e0] at this; exact this
  have M1 := Lib.hid (show lateV c (lastR s ex wi) s N = 0 by have := L1.out; rw [e0] at this; exact this)
  have M2 := Lib.hid (show N < 1048576 → lateV c (lastR s ex wi) s (N + 1) = 11 by have := L2.out; rw [e0] at this; exact this)
  have M3 := Lib.hid (show s ≠ 0 → lateV c (lastR (s - 1) ex wi) s N = 11 by have := L3.out; rw [e0] at this; exact this)
  clear e0
  have hB6 : Below w.heap.size w (w5.alloc (.cells #[.string { data := #[] }, .string { data := #[] }, .string { data := #[] }, .string { data := #[] }, .string { data := #[] }, .string { data := #[] }, .string { data := #[] }, .string { data := #[] }, .int .i64 0, .int .i64 0, .int .i64 0, .int .i64 (s - 1), .int .i64 ex, .int .i64 wi, .int .i64 0, .bool false, .bool false, .slice none 0 0] 42)) := hB5.alloc hB5.size _
  have hk6 : Blk (w5.alloc (.cells #[.string { data := #[] }, .string { data := #[] }, .string { data := #[] }, .string { data := #[] }, .string { data := #[] }, .string { data := #[] }, .string { data := #[] }, .string { data := #[] }, .int .i64 0, .int .i64 0, .int .i64 0, .int .i64 (s - 1), .int .i64 ex, .int .i64 wi, .int .i64 0, .bool false, .bool false, .slice none 0 0] 42)) w.heap.size 24 #[.slice A1 n1 c1, .slice A2 n2 c2] := Blk.more hk5 _
  have hj6 : Blk (w5.alloc (.cells #[.string { data := #[] }, .string { data := #[] }, .string { data := #[] }, .string { data := #[] }, .string { data := #[] }, .string { data := #[] }, .string { data := #[] }, .string { data := #[] }, .int .i64 0, .int .i64 0, .int .i64 0, .int .i64 (s - 1), .int .i64 ex, .int .i64 wi, .int .i64 0, .bool false, .bool false, .slice none 0 0] 42)) w3.heap.size 42 #[.string { data := #[] }, .string { data := #[] }, .string { data := #[] }, .string { data := #[] }, .string { data := #[] }, .string { data := #[] }, .string { data := #[] }, .string { data := #[] }, .int .i64 0, .int .i64 0, .int .i64 0, .int .i64 s, .int .i64 ex, .int .i64 wi, .int .i64 0, .bool false, .bool false, .slice none 0 0] := Blk.more hj5 _
  have hi6 : Blk (w5.alloc (.cells #[.string { data := #[] }, .string { data := #[] }, .string { data := #[] }, .string { data := #[] }, .string { data := #[] }, .string { data := #[] }, .string { data := #[] }, .string { data := #[] }, .int .i64 0, .int .i64 0, .int .i64 0, .int .i64 (s - 1), .int .i64 ex, .int .i64 wi, .int .i64 0, .bool false, .bool false, .slice none 0 0] 42)) w5.heap.size 42 #[.string { data := #[] }, .string { data := #[] }, .string { data := #[] }, .string { data := #[] }, .string { data := #[] }, .string { data := #[] }, .string { data := #[] }, .string { data := #[] }, .int .i64 0, .int .i64 0, .int .i64 0, .int .i64 (s - 1), .int .i64 ex, .int .i64 wi, .int .i64 0, .bool false, .bool false, .slice none 0 0] := Blk.new _ _ _
  clear a0 a1
  have a0 := hk6.cell 0; have a1 := hk6.cell 1; simp only [List.getElem?_toArray, List.getElem?_cons_zero, List.getElem?_cons_succ] at a0 a1
  go_wp2_with (first | go_skip | (refine stop_load 42 _ rfl ?_; refine wpList_load_want rfl 42 _ rfl w3.heap.size rfl 42 _ _ hj5 Try.underlying42 rfl (by kernel_rfl) ?_) | (refine stop_load 42 _ rfl ?_; refine wpList_load_want rfl 42 _ rfl w3.heap.size rfl 42 _ _ hj6 Try.underlying42 rfl (by kernel_rfl) ?_) | (refine stop_store 42 _ _ rfl ?_; refine wpList_store_new rfl 42 _ _ rfl _ rfl rfl (by kernel_rfl) rfl rfl ?_))
  refine (late_any c A1 n1 c1 A2 n2 c2 (lastR s ex wi) s (N) _ (H1.out.below hB6) (H2.out.below hB6) m1 m2).mono ?_
  rw [M1.out]
  rintro e w7 ⟨rfl, hb7⟩
  have hj7 := hj6.below hb7 hj6.lt; have hi7 := hi6.below hb7 hi6.lt
  clear a0 a1
  have hB7 := hB6.trans (hb7.mono hB6.size)
  have hk7 := hk6.below hb7 hk6.lt
  clear hB6 hk6 hb7
  clear hj6 hi6
  have a0 := hk7.cell 0; have a1 := hk7.cell 1; simp only [List.getElem?_toArray, List.getElem?_cons_zero, List.getElem?_cons_succ] at a0 a1
  have t6 : decide (N < 1048576) = false := decide_eq_false (by omega)
  have p2 := P2.out
  have t8 : (s == 0) = false := by simpa using p2
  have M3' := Lib.hid (M3.out p2); have M4' := Lib.hid (L4.out p2)
  clear p2
  go_wp2_with (first | go_skip | (refine stop_load 42 _ rfl ?_; refine wpList_load_want rfl 42 _ rfl w5.heap.size rfl 42 _ _ hi7 Try.underlying42 rfl (by kernel_rfl) ?_))
  refine (late_any c A1 n1 c1 A2 n2 c2 (lastR (s - 1) ex wi) s (N) _ (H1.out.below hB7) (H2.out.below hB7) m1 m2).mono ?_
  rw [M3'.out]
  rintro e w9 ⟨rfl, hb9⟩
  have hj9 := hj7.below hb9 hj7.lt; have hi9 := hi7.below hb9 hi7.lt
  clear a0 a1
  have hB9 := hB7.trans (hb9.mono hB7.size)
  have hk9 := hk7.below hb9 hk7.lt
  clear hB7 hk7 hb9
  clear hj7 hi7
  have a0 := hk9.cell 0; have a1 := hk9.cell 1; simp only [List.getElem?_toArray, List.getElem?_cons_zero, List.getElem?_cons_succ] at a0 a1
  go_wp2_with (first | go_skip | (refine stop_load 42 _ rfl ?_; refine wpList_load_want rfl 42 _ rfl w3.heap.size rfl 42 _ _ hj9 Try.underlying42 rfl (by kernel_rfl) ?_))
  refine (late_any c A1 n1 c1 A2 n2 c2 (lastR s ex wi) s (s - 1) _ (H1.out.below hB9) (H2.out.below hB9) m1 m2).mono ?_
  rw [M4'.out]
  rintro e w10 ⟨rfl, hb10⟩
  have hj10 := hj9.below hb10 hj9.lt; have hi10 := hi9.below hb10 hi9.lt
  clear a0 a1
  have hB10 := hB9.trans (hb10.mono hB9.size)
  have hk10 := hk9.below hb10 hk9.lt
  clear hB9 hk9 hb10
  clear hj9 hi9
  have a0 := hk10.cell 0; have a1 := hk10.cell 1; simp only [List.getElem?_toArray, List.getElem?_cons_zero, List.getElem?_cons_succ] at a0 a1
  go_wp2_with fail
  go_ret
  exact ⟨rfl, hB10⟩
end Go.Proofs.Ytfiflmgjcmmomaa
