/- What an answer is worth, by the program and by the reference. No condition. -/
import Derived.Test.YtlicmhgpldmliaaDoorCount
namespace Go.Proofs.YtlicmhgpldmliaaDoor
open Go.RowKit Go.Proofs.YtlicmhgpldmliaaDoor.kit Go.Proofs.YtlicmhgpldmliaaDoor.cal
set_option linter.unusedVariables false

theorem hasF_at {fs : List Fa} {k : Nat} {x : Fa} (hx : fs[k]? = some x) : hasF fs x = true := hasF_iff.2 (List.mem_of_getElem? hx)
theorem hasF_no {fs : List Fa} {x : Fa} (h : ∀ (k : Nat) (y : Fa), fs[k]? = some y → ¬ x = y) : hasF fs x = false := by
  rw [Bool.eq_false_iff, ne_eq, hasF_iff]
  intro hm
  obtain ⟨k, hk⟩ := List.getElem?_of_mem hm
  exact h k x hk rfl

def answerV (c : Cal) (p a : Int) (fs ts : List Fa) : Int :=
  if fs.length = 0 then 0 else if (dlV c p).2 = true ∧ a ≤ (dlV c p).1 ∧ p ≤ a ∧ countsV fs ts = true then 1 else 2
--%
set_option maxHeartbeats 1600000 in
theorem answer_any (c : Cal) (A1 : Option Addr) (n1 c1 : Nat) (A2 : Option Addr) (n2 c2 : Nat) (p a : Int) (A : Option Addr) (n cn : Nat) (fs : List Fa) (A' : Option Addr) (n' cn' : Nat) (ts : List Fa) (w : World) (h1 : SliceOf w 1 intC A1 n1 c.rest) (h2 : SliceOf w 1 intC A2 n2 c.hol) (m1 : n1 ≤ maxLen) (m2 : n2 ≤ maxLen) (hx : SliceOf w 4 faC A n fs) (hx' : SliceOf w 4 faC A' n' ts) (hi : ∀ y ∈ fs, faI y) (hi' : ∀ y ∈ ts, faI y) (hm : n ≤ 4096) (hm' : n' ≤ 4096) :
    Calls Tryd.prog 10 #[.agg #[.slice A1 n1 c1, .slice A2 n2 c2], .int .i64 p, .int .i64 a, .slice A n cn, .slice A' n' cn'] w fun e w' => e = .returned (.int .i64 (answerV c p a fs ts)) ∧ Below w.heap.size w w' := by
  have H1 := Lib.hid h1
  have H2 := Lib.hid h2
  have l1 := h1.len
  have l2 := h2.len
  clear h1 h2
  have hB0 : Below w.heap.size w (w.alloc (.cells #[.slice A1 n1 c1, .slice A2 n2 c2] 24)) := (Below.refl _ _).alloc (Nat.le_refl _) _
  have hk0 : Blk (w.alloc (.cells #[.slice A1 n1 c1, .slice A2 n2 c2] 24)) w.heap.size 24 #[.slice A1 n1 c1, .slice A2 n2 c2] := Blk.new _ _ _
  have HX := Lib.hid hx
  have HX' := Lib.hid hx'
  have HI := Lib.hid hi
  have HI' := Lib.hid hi'
  have hxl := hx.len
  clear hx hx' hi hi'
  by_cases h0 : n = 0
  · have e0 : answerV c p a fs ts = 0 := if_pos (by omega)
    have h0' : ((n : Int) == 0) = true := by simp [h0]
    rw [e0]
    clear e0 h0
    go_enter Tryd.func10, Tryd.ntmps10
    go_wp2_with fail
    go_ret
    exact ⟨rfl, hB0⟩
  have h0' : ((n : Int) == 0) = false := by simp [h0]
  obtain ⟨L, hL⟩ : ∃ L, (dlV c p).1 = L := ⟨_, rfl⟩
  obtain ⟨ok, hok⟩ : ∃ ok, (dlV c p).2 = ok := ⟨_, rfl⟩
  obtain ⟨cv, hcv⟩ : ∃ cv, countsV fs ts = cv := ⟨_, rfl⟩
  have e0 : answerV c p a fs ts = if ok = true ∧ a ≤ L ∧ p ≤ a ∧ cv = true then 1 else 2 := by unfold answerV; rw [if_neg (by omega), hL, hok, hcv]
  have HK := Lib.hid hok; have HL := Lib.hid hL; have HV := Lib.hid hcv
  rw [e0]
  clear e0 h0 hok hL hcv
  by_cases q1 : ok = true ∧ a ≤ L ∧ p ≤ a
  · obtain ⟨rfl, q2, q3⟩ := q1
    have e1 : Hid ((if true = true ∧ a ≤ L ∧ p ≤ a ∧ cv = true then (1 : Int) else 2) = if cv then 1 else 2) := Lib.hid (by cases cv <;> simp [q2, q3])
    rw [e1.out]
    cases cv
    all_goals
      simp only [if_true, if_false, Bool.false_eq_true]
      go_enter Tryd.func10, Tryd.ntmps10
      go_wp2_with fail
      refine (deadline_any c A1 n1 c1 A2 n2 c2 p _ (H1.out.below hB0) (H2.out.below hB0) m1 m2).mono ?_
      rw [HK.out, HL.out]
      rintro e w1 ⟨rfl, hb1⟩
      have hB1 := hB0.trans (hb1.mono hB0.size)
      have hk1 := hk0.below hb1 hk0.lt
      clear hB0 hk0 hb1
      go_wp2_with fail
      refine (counts_any A n cn fs A' n' cn' ts _ (HX.out.below hB1) (HX'.out.below hB1) HI.out HI'.out hm hm').mono ?_
      rw [HV.out]
      rintro e w2 ⟨rfl, hb2⟩
      have hB2 := hB1.trans (hb2.mono hB1.size)
      have hk2 := hk1.below hb2 hk1.lt
      clear hB1 hk1 hb2
      go_wp2_with fail
      go_ret
      exact ⟨rfl, hB2⟩
  · have e1 : Hid ((if ok = true ∧ a ≤ L ∧ p ≤ a ∧ cv = true then (1 : Int) else 2) = 2) := Lib.hid (if_neg (fun h => q1 ⟨h.1, h.2.1, h.2.2.1⟩))
    rw [e1.out]
    cases ok
    · clear q1
      go_enter Tryd.func10, Tryd.ntmps10
      go_wp2_with fail
      refine (deadline_any c A1 n1 c1 A2 n2 c2 p _ (H1.out.below hB0) (H2.out.below hB0) m1 m2).mono ?_
      rw [HK.out, HL.out]
      rintro e w1 ⟨rfl, hb1⟩
      have hB1 := hB0.trans (hb1.mono hB0.size)
      have hk1 := hk0.below hb1 hk0.lt
      clear hB0 hk0 hb1
      go_wp2_with fail
      all_goals go_ret
      all_goals exact ⟨rfl, hB1⟩
    · by_cases q2 : L < a
      · clear q1
        go_enter Tryd.func10, Tryd.ntmps10
        go_wp2_with fail
        refine (deadline_any c A1 n1 c1 A2 n2 c2 p _ (H1.out.below hB0) (H2.out.below hB0) m1 m2).mono ?_
        rw [HK.out, HL.out]
        rintro e w1 ⟨rfl, hb1⟩
        have hB1 := hB0.trans (hb1.mono hB0.size)
        have hk1 := hk0.below hb1 hk0.lt
        clear hB0 hk0 hb1
        go_wp2_with fail
        all_goals go_ret
        all_goals exact ⟨rfl, hB1⟩
      · have q3 : a < p := by
          rcases Int.lt_or_le a p with h | h
          · exact h
          · exact absurd ⟨rfl, by omega, h⟩ q1
        clear q1
        go_enter Tryd.func10, Tryd.ntmps10
        go_wp2_with fail
        refine (deadline_any c A1 n1 c1 A2 n2 c2 p _ (H1.out.below hB0) (H2.out.below hB0) m1 m2).mono ?_
        rw [HK.out, HL.out]
        rintro e w1 ⟨rfl, hb1⟩
        have hB1 := hB0.trans (hb1.mono hB0.size)
        have hk1 := hk0.below hb1 hk0.lt
        clear hB0 hk0 hb1
        go_wp2_with fail
        all_goals go_ret
        all_goals exact ⟨rfl, hB1⟩
end Go.Proofs.YtlicmhgpldmliaaDoor
