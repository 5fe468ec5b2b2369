/- NoticeLast: the law. No condition. -/
import Derived.Test.YtfiflmgjcmmomaaLastN
import Derived.Test.YtfiflmgjcmmomaaLastM
import Derived.Test.YtfiflmgjcmmomaaLastG
namespace Go.Proofs.Ytfiflmgjcmmomaa
open Go.RowKit Go.Proofs.Ytfiflmgjcmmomaa.kit Go.Proofs.Ytfiflmgjcmmomaa.cal
set_option linter.unusedVariables false

set_option maxHeartbeats 1600000 in
theorem noticeLast_walk (c : Cal) (A1 : Option Addr) (n1 c1 : Nat) (A2 : Option Addr) (n2 c2 : Nat) (ex s wi : Int) (w : World) (h1 : SliceOf w 1 intC A1 n1 c.rest) (h2 : SliceOf w 1 intC A2 n2 c.hol) (m1 : n1 ≤ maxLen) (m2 : n2 ≤ maxLen) :
    Calls Try.prog 8 #[.agg #[.slice A1 n1 c1, .slice A2 n2 c2], .int .i64 ex, .int .i64 s, .int .i64 wi] w fun e w' => e = .returned (.bool true) ∧ Below w.heap.size w w' := by
  obtain ⟨N, hN⟩ : ∃ N, (nextV c ex).1 = N := ⟨_, rfl⟩
  obtain ⟨ok, hok⟩ : ∃ ok, (nextV c ex).2 = ok := ⟨_, rfl⟩
  obtain ⟨M, hM⟩ : ∃ N, (nextV c (s + wi)).1 = N := ⟨_, rfl⟩
  obtain ⟨ko, hko⟩ : ∃ ok, (nextV c (s + wi)).2 = ok := ⟨_, rfl⟩
  by_cases hin : fewB n1 n2 = true ∧ ok = true ∧ ¬ s < 0 ∧ ¬ N < s ∧ ¬ wi < 0 ∧ ¬ 1048576 < wi
  · obtain ⟨hf, rfl, q1, q2, q3, q4⟩ := hin
    cases ko
    · by_cases p1 : N < 1048576 <;> by_cases p2 : s = 0
      · exact last_n10 c A1 n1 c1 A2 n2 c2 ex s wi N M w h1 h2 m1 m2 hN hok hM hko hf q1 q2 q3 q4 p1 p2
      · exact last_n11 c A1 n1 c1 A2 n2 c2 ex s wi N M w h1 h2 m1 m2 hN hok hM hko hf q1 q2 q3 q4 p1 p2
      · exact last_n00 c A1 n1 c1 A2 n2 c2 ex s wi N M w h1 h2 m1 m2 hN hok hM hko hf q1 q2 q3 q4 p1 p2
      · exact last_n01 c A1 n1 c1 A2 n2 c2 ex s wi N M w h1 h2 m1 m2 hN hok hM hko hf q1 q2 q3 q4 p1 p2
    · rcases Int.lt_or_le M N with k1 | k1
      · have p1 : M < 1048576 := by have := (next_bd hok).2.2; omega
        by_cases p2 : s = 0
        · exact last_m10 c A1 n1 c1 A2 n2 c2 ex s wi N M w h1 h2 m1 m2 hN hok hM hko hf q1 q2 q3 q4 k1 p1 p2
        · exact last_m11 c A1 n1 c1 A2 n2 c2 ex s wi N M w h1 h2 m1 m2 hN hok hM hko hf q1 q2 q3 q4 k1 p1 p2
      · by_cases p1 : N < 1048576 <;> by_cases p2 : s = 0
        · exact last_g10 c A1 n1 c1 A2 n2 c2 ex s wi N M w h1 h2 m1 m2 hN hok hM hko hf q1 q2 q3 q4 k1 p1 p2
        · exact last_g11 c A1 n1 c1 A2 n2 c2 ex s wi N M w h1 h2 m1 m2 hN hok hM hko hf q1 q2 q3 q4 k1 p1 p2
        · exact last_g00 c A1 n1 c1 A2 n2 c2 ex s wi N M w h1 h2 m1 m2 hN hok hM hko hf q1 q2 q3 q4 k1 p1 p2
        · exact last_g01 c A1 n1 c1 A2 n2 c2 ex s wi N M w h1 h2 m1 m2 hN hok hM hko hf q1 q2 q3 q4 k1 p1 p2
  clear hM hko
  have H1 := Lib.hid h1
  have H2 := Lib.hid h2
  have l1 := h1.len
  have l2 := h2.len
  clear h1 h2
  have hB0 : Below w.heap.size w (w.alloc (.cells #[.slice A1 n1 c1, .slice A2 n2 c2] 24)) := (Below.refl _ _).alloc (Nat.le_refl _) _
  have hk0 : Blk (w.alloc (.cells #[.slice A1 n1 c1, .slice A2 n2 c2] 24)) w.heap.size 24 #[.slice A1 n1 c1, .slice A2 n2 c2] := Blk.new _ _ _
  go_enter Try.func8, Try.ntmps8
  go_wp2_with fail
  refine (awake_any _).mono ?_
  rintro e w1 ⟨rfl, hb1⟩
  have hB1 := hB0.trans (hb1.mono hB0.size)
  have hk1 := hk0.below hb1 hk0.lt
  clear hB0 hk0 hb1
  have a0 := hk1.cell 0; have a1 := hk1.cell 1; simp only [List.getElem?_toArray, List.getElem?_cons_zero, List.getElem?_cons_succ] at a0 a1
  have HN := Lib.hid hN; have HO := Lib.hid hok
  clear hN hok
  go_wp2_with fail
  refine (expiry_any c A1 n1 c1 A2 n2 c2 ex _ (H1.out.below hB1) (H2.out.below hB1) m1 m2).mono ?_
  rw [HN.out, HO.out]
  rintro e w2 ⟨rfl, hb2⟩
  clear a0 a1
  have hB2 := hB1.trans (hb2.mono hB1.size)
  have hk2 := hk1.below hb2 hk1.lt
  clear hB1 hk1 hb2
  have a0 := hk2.cell 0; have a1 := hk2.cell 1; simp only [List.getElem?_toArray, List.getElem?_cons_zero, List.getElem?_cons_succ] at a0 a1
  obtain ⟨fb, hfb⟩ : ∃ fb, fewB n1 n2 = fb := ⟨_, rfl⟩
  rw [hfb] at hin
  have F := Lib.hid hfb
  clear hfb
  have HIN := Lib.hid hin
  clear hin
  cases fb
  · cases ok
    all_goals
      go_wp2_with fail
      refine (few_any A1 n1 c1 A2 n2 c2 _ m1 m2).mono ?_
      rw [F.out]
      rintro e w3 ⟨rfl, hb3⟩
      clear a0 a1
      have hB3 := hB2.trans (hb3.mono hB2.size)
      have hk3 := hk2.below hb3 hk2.lt
      clear hB2 hk2 hb3
      have a0 := hk3.cell 0; have a1 := hk3.cell 1; simp only [List.getElem?_toArray, List.getElem?_cons_zero, List.getElem?_cons_succ] at a0 a1
      go_wp2_with fail
      go_ret
      exact ⟨rfl, hB3⟩
  cases ok
  · go_wp2_with fail
    refine (few_any A1 n1 c1 A2 n2 c2 _ m1 m2).mono ?_
    rw [F.out]
    rintro e w3 ⟨rfl, hb3⟩
    clear a0 a1
    have hB3 := hB2.trans (hb3.mono hB2.size)
    have hk3 := hk2.below hb3 hk2.lt
    clear hB2 hk2 hb3
    have a0 := hk3.cell 0; have a1 := hk3.cell 1; simp only [List.getElem?_toArray, List.getElem?_cons_zero, List.getElem?_cons_succ] at a0 a1
    go_wp2_with fail
    go_ret
    exact ⟨rfl, hB3⟩
  have hq : s < 0 ∨ N < s ∨ wi < 0 ∨ 1048576 < wi := by
    have h := HIN.out
    by_cases q1 : s < 0
    · exact .inl q1
    by_cases q2 : N < s
    · exact .inr (.inl q2)
    by_cases q3 : wi < 0
    · exact .inr (.inr (.inl q3))
    by_cases q4 : 1048576 < wi
    · exact .inr (.inr (.inr q4))
    · exact absurd ⟨rfl, rfl, by omega, by omega, by omega, by omega⟩ h
  by_cases q1 : s < 0
  · clear hq
    go_wp2_with fail
    refine (few_any A1 n1 c1 A2 n2 c2 _ m1 m2).mono ?_
    rw [F.out]
    rintro e w3 ⟨rfl, hb3⟩
    clear a0 a1
    have hB3 := hB2.trans (hb3.mono hB2.size)
    have hk3 := hk2.below hb3 hk2.lt
    clear hB2 hk2 hb3
    have a0 := hk3.cell 0; have a1 := hk3.cell 1; simp only [List.getElem?_toArray, List.getElem?_cons_zero, List.getElem?_cons_succ] at a0 a1
    go_wp2_with fail
    go_ret
    exact ⟨rfl, hB3⟩
  by_cases q2 : N < s
  · clear hq
    go_wp2_with fail
    refine (few_any A1 n1 c1 A2 n2 c2 _ m1 m2).mono ?_
    rw [F.out]
    rintro e w3 ⟨rfl, hb3⟩
    clear a0 a1
    have hB3 := hB2.trans (hb3.mono hB2.size)
    have hk3 := hk2.below hb3 hk2.lt
    clear hB2 hk2 hb3
    have a0 := hk3.cell 0; have a1 := hk3.cell 1; simp only [List.getElem?_toArray, List.getElem?_cons_zero, List.getElem?_cons_succ] at a0 a1
    go_wp2_with fail
    go_ret
    exact ⟨rfl, hB3⟩
  by_cases q3 : wi < 0
  · clear hq
    go_wp2_with fail
    refine (few_any A1 n1 c1 A2 n2 c2 _ m1 m2).mono ?_
    rw [F.out]
    rintro e w3 ⟨rfl, hb3⟩
    clear a0 a1
    have hB3 := hB2.trans (hb3.mono hB2.size)
    have hk3 := hk2.below hb3 hk2.lt
    clear hB2 hk2 hb3
    have a0 := hk3.cell 0; have a1 := hk3.cell 1; simp only [List.getElem?_toArray, List.getElem?_cons_zero, List.getElem?_cons_succ] at a0 a1
    go_wp2_with fail
    go_ret
    exact ⟨rfl, hB3⟩
  have q4 : 1048576 < wi := by omega
  clear hq
  go_wp2_with fail
  refine (few_any A1 n1 c1 A2 n2 c2 _ m1 m2).mono ?_
  rw [F.out]
  rintro e w3 ⟨rfl, hb3⟩
  clear a0 a1
  have hB3 := hB2.trans (hb3.mono hB2.size)
  have hk3 := hk2.below hb3 hk2.lt
  clear hB2 hk2 hb3
  have a0 := hk3.cell 0; have a1 := hk3.cell 1; simp only [List.getElem?_toArray, List.getElem?_cons_zero, List.getElem?_cons_succ] at a0 a1
  go_wp2_with fail
  go_ret
  exact ⟨rfl, hB3⟩
end Go.Proofs.Ytfiflmgjcmmomaa
